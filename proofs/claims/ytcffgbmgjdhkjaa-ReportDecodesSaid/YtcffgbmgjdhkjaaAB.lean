import Derived.Test.YtcffgbmgjdhkjaaAA
import Derived.OrdersHeld
set_option linter.unusedSimpArgs false
set_option linter.unusedVariables false
namespace Go.Proofs.Ytcffgbmgjdhkjaa
open Go.RowKit

def PrT (w : World) (t : Trip) (p : Pr) : Prop := SlT 3 1 i64c w t.1 p.path ∧ SlT 49 6 Nd.cells w t.2.1 p.term ∧ SlT 5 1 u8c w t.2.2 p.input
theorem PrT.inn {w : World} {t : Trip} {p : Pr} (h : PrT w t p) : PrIn w t p := ⟨h.1.sl, h.2.1.sl, h.2.2.sl⟩

def preP (b : List Int) (at' : Int) : PR Pr :=
  match numP b at' 1 1 65 with
  | .err E q => .err E q
  | .ok n p0 => match manyP (pathP b) n.toNat p0 with
    | .err E q => .err E q
    | .ok path p1 => match numP b p1 3 1 65536 with
      | .err E q => .err E q
      | .ok m p2 => match manyP (nodeP b) m.toNat p2 with
        | .err E q => .err E q
        | .ok term p3 => if quest term ≠ 0 then .err (quest term) p1 else match numP b p3 1 0 16 with
          | .err E q => .err E q
          | .ok l p4 => if b.length - p4 < l then .err 1 b.length else .ok ⟨path, term, SubB b p4.toNat l.toNat⟩ (p4 + l)

/-- how the reading of a precondition ends -/
def PreDone (w : World) (Rb : Nat) (vb : Value) (r : PR Pr) (e : Ending) (w' : World) : Prop :=
  w.grownBy w' (some Rb) ∧ match r with
    | .ok x p => ∃ t1 t2 t3, e = .returned (.agg #[t1, t2, t3]) ∧ PrT w' (t1, t2, t3) x ∧ RD w' Rb vb p
    | .err E p => e = stopped E p

theorem manyP_n {α : Type} {one : Int → PR α} {L : Int} (h1 : ∀ p x q, one p = .ok x q → 0 ≤ p → 0 ≤ q ∧ q ≤ L) : ∀ (n : Nat) (p : Int) (xs : List α) (q : Int), manyP one n p = .ok xs q → 0 ≤ p → p ≤ L → xs.length = n ∧ 0 ≤ q ∧ q ≤ L := by
  intro n
  induction n with
  | zero => intro p xs q h h0 hL; simp only [manyP] at h; injection h with e1 e2; subst e1; subst e2; exact ⟨rfl, h0, hL⟩
  | succ n ih =>
    intro p xs q h h0 hL
    simp only [manyP] at h
    split at h
    · cases h
    · rename_i x q1 e1
      have k1 := h1 _ _ _ e1 h0
      split at h
      · cases h
      · rename_i ys q2 e2
        injection h with e3 e4
        subst e3; subst e4
        have k2 := ih _ _ _ e2 k1.1 k1.2
        exact ⟨by simp [k2.1], k2.2⟩

theorem listint_ok (w0 : World) (vb : Value) (b : List Int) (Rb bx : Nat) (at0 N : Int) (hN0 : 0 ≤ N) (hN : N ≤ 65536) (w : World) (hI : RIn w0 vb b Rb w) (hR : RD w Rb vb at0) (hb : w.heap[bx]? = some (.cells #[.pointer (some ⟨Rb, 0, none⟩)] 71 (0, 0))) (h0 : 0 ≤ at0) (h1 : at0 ≤ b.length) (xs : List Int) (p : Int) (hr : Hid (manyP (pathP b) N.toNat at0 = .ok xs p)) :
    Calls Try.prog 44 #[.int .u64 N, .func (Fn.func 45) #[] #[.pointer (some ⟨bx, 0, none⟩)]] w fun e w' => ∃ v, e = .returned v ∧ SlT 3 1 i64c w' v xs ∧ w.grownBy w' (some Rb) ∧ RD w' Rb vb p := by
  obtain ⟨n, rfl⟩ := Int.eq_ofNat_of_zero_le hN0
  have := listint_any w0 vb b Rb bx at0 n (by omega) w hI hR hb h0 h1
  rw [Int.toNat_natCast] at hr
  rw [hr.out] at this
  exact this.mono fun e w' ⟨hg, v, he, hs, hR2⟩ => ⟨v, he, hs, hg, hR2⟩
theorem listint_err (w0 : World) (vb : Value) (b : List Int) (Rb bx : Nat) (at0 N : Int) (hN0 : 0 ≤ N) (hN : N ≤ 65536) (w : World) (hI : RIn w0 vb b Rb w) (hR : RD w Rb vb at0) (hb : w.heap[bx]? = some (.cells #[.pointer (some ⟨Rb, 0, none⟩)] 71 (0, 0))) (h0 : 0 ≤ at0) (h1 : at0 ≤ b.length) (E p : Int) (hr : Hid (manyP (pathP b) N.toNat at0 = .err E p)) :
    Calls Try.prog 44 #[.int .u64 N, .func (Fn.func 45) #[] #[.pointer (some ⟨bx, 0, none⟩)]] w fun e w' => e = stopped E p ∧ w.grownBy w' (some Rb) := by
  obtain ⟨n, rfl⟩ := Int.eq_ofNat_of_zero_le hN0
  have := listint_any w0 vb b Rb bx at0 n (by omega) w hI hR hb h0 h1
  rw [Int.toNat_natCast] at hr
  rw [hr.out] at this
  exact this.mono fun e w' ⟨hg, he⟩ => ⟨he, hg⟩
theorem listnode_ok (w0 : World) (vb : Value) (b : List Int) (Rb : Nat) (at0 N : Int) (hN0 : 0 ≤ N) (hN : N ≤ 65536) (w : World) (hI : RIn w0 vb b Rb w) (hR : RD w Rb vb at0) (h0 : 0 ≤ at0) (h1 : at0 ≤ b.length) (xs : List Nd) (p : Int) (hr : Hid (manyP (nodeP b) N.toNat at0 = .ok xs p)) :
    Calls Try.prog 46 #[.int .u64 N, .func (Fn.func 47) #[.pointer (some ⟨Rb, 0, none⟩)] #[]] w fun e w' => ∃ v, e = .returned v ∧ SlT 49 6 Nd.cells w' v xs ∧ w.grownBy w' (some Rb) ∧ RD w' Rb vb p := by
  obtain ⟨n, rfl⟩ := Int.eq_ofNat_of_zero_le hN0
  have := listnode_any w0 vb b Rb at0 n (by omega) w hI hR h0 h1
  rw [Int.toNat_natCast] at hr
  rw [hr.out] at this
  exact this.mono fun e w' ⟨hg, v, he, hs, hR2⟩ => ⟨v, he, hs, hg, hR2⟩
theorem listnode_err (w0 : World) (vb : Value) (b : List Int) (Rb : Nat) (at0 N : Int) (hN0 : 0 ≤ N) (hN : N ≤ 65536) (w : World) (hI : RIn w0 vb b Rb w) (hR : RD w Rb vb at0) (h0 : 0 ≤ at0) (h1 : at0 ≤ b.length) (E p : Int) (hr : Hid (manyP (nodeP b) N.toNat at0 = .err E p)) :
    Calls Try.prog 46 #[.int .u64 N, .func (Fn.func 47) #[.pointer (some ⟨Rb, 0, none⟩)] #[]] w fun e w' => e = stopped E p ∧ w.grownBy w' (some Rb) := by
  obtain ⟨n, rfl⟩ := Int.eq_ofNat_of_zero_le hN0
  have := listnode_any w0 vb b Rb at0 n (by omega) w hI hR h0 h1
  rw [Int.toNat_natCast] at hr
  rw [hr.out] at this
  exact this.mono fun e w' ⟨hg, he⟩ => ⟨he, hg⟩


section
variable {P : Program} {ops : Array Oper} {Q : Exit → Act → World → Prop} {a : Act} {w : World} {o : Oper} {i : Nat} {K : Act → World → Prop}
/-- one operation of a region that draws its order, walked as a list of one -/
theorem wpOp_one (hi : ops[i]? = some o) (h : wpList P ops (Exit.then K Q) [o] a w) : wpOp P ops Q i K a w := by
  unfold wpOp
  simp only [hi]
  unfold wpList at h
  split at h
  · rename_i hw
    rw [if_pos hw]
    rcases h with h | ⟨h1, a0, w0, h2⟩
    · refine .inl ?_
      unfold Oper.wp at *
      generalize (execOp a.eval o).run P w = r at *
      cases r with
      | ok n w' => cases n <;> simp only [Oper.upon] at h ⊢ <;> first | exact h | exact Calls.mono h (fun e w'' he => by cases e <;> first | exact he | (obtain ⟨a1, w1, h1⟩ := he; exact ⟨a1, w1, h1⟩)) | exact Rows.mono h (fun _ _ he => he)
      | halt x w' => cases x <;> simp only [Oper.upon] at h ⊢ <;> exact h
    · exact .inr ⟨h1, a0, w0, h2⟩
  · rename_i hw
    rw [if_neg hw]
    exact h
end
theorem ld71 (w : World) (p : Addr) (q : Option Addr) (h : w.cell? p = some (.pointer q)) : (Instr.loadAt 71 (.pointer (some p))).run Try.prog w = .ok (.pointer q) w := by go_simp
theorem yields_ld71 {ops : Array Oper} {S : World → Prop} {o : Oper} {a : Act} {p : Addr} {q : Option Addr} (hS : ∀ w, S w → w.cell? p = some (.pointer q)) (hw : Region.wanted o (yielded ops a.tmps) = true)
    (x : Operand) (ho : o.op = .load 71 x) (hx : a.eval x = .pointer (some p)) : YieldsIf Try.prog ops S o (.pointer q) a := by
  refine .inl ⟨hw, fun w hw' => ?_⟩
  unfold execOp
  simp only [ho, hx, Sem.run_bind, ld71 w p q (hS w hw'), Result.andThen_ok]
  rfl


theorem st41 (g i : Nat) (cs : Array Value) (t : TypeId) (a : Option Addr) (n c : Nat) (hi : i < cs.size) (w : World) (hg : w.heap[g]? = some (.cells cs t (0, 0))) :
    (Instr.storeAt 41 (.pointer (some ⟨g, i, none⟩)) (.slice a n c)).run Try.prog w = .ok () (w.setCell ⟨g, i, none⟩ (.slice a n c)) := by
  have hc : w.cell? ⟨g, i, none⟩ = some cs[i] := by rw [cell_of_row w g i cs t _ hg]; simp [hi]
  have hf := frozen_of_row w g i cs t hg
  go_simp
theorem st28 (g i : Nat) (cs : Array Value) (t : TypeId) (a : Option Addr) (n c : Nat) (hi : i < cs.size) (w : World) (hg : w.heap[g]? = some (.cells cs t (0, 0))) :
    (Instr.storeAt 28 (.pointer (some ⟨g, i, none⟩)) (.slice a n c)).run Try.prog w = .ok () (w.setCell ⟨g, i, none⟩ (.slice a n c)) := by
  have hc : w.cell? ⟨g, i, none⟩ = some cs[i] := by rw [cell_of_row w g i cs t _ hg]; simp [hi]
  have hf := frozen_of_row w g i cs t hg
  go_simp

theorem grown_below {w w' : World} {r : Option Nat} (h : Below w.heap.size w w') : w.grownBy w' r := ⟨h.os, h.tape, h.output, h.size, fun k hk _ => h.block k hk⟩

theorem node_wf {b : List Int} {p p' : Int} {d : Nd} (hb : ByteL b) (h : nodeP b p = .ok d p') (h0 : 0 ≤ p) : NdWf d ∧ NdSm d := by
  unfold nodeP at h
  split at h
  · cases h
  rename_i x0 p0 e0
  have k0 := numP_n hb e0 h0 (by decide)
  split at h
  · cases h
  rename_i x1 p1 e1
  have k1 := numP_n hb e1 k0.1 (by decide)
  split at h
  · cases h
  rename_i x2 p2 e2
  have k2 := numP_n hb e2 k1.1 (by decide)
  split at h
  · cases h
  rename_i x3 p3 e3
  have k3 := numP_n hb e3 k2.1 (by decide)
  split at h
  · cases h
  rename_i x4 p4 e4
  have k4 := numP_n hb e4 k3.1 (by decide)
  split at h
  · cases h
  rename_i x5 p5 e5
  have k5 := numP_n hb e5 k4.1 (by decide)
  injection h with h1 h2
  subst h1
  refine ⟨⟨?_, ?_, ?_, ?_, ?_, ?_⟩, ⟨?_, ?_, ?_, ?_, ?_, ?_⟩⟩ <;> (dsimp only; omega)
theorem nodes_wf {b : List Int} (hb : ByteL b) : ∀ (n : Nat) (p : Int) (xs : List Nd) (q : Int), manyP (nodeP b) n p = .ok xs q → 0 ≤ p → ∀ d ∈ xs, NdWf d := by
  intro n
  induction n with
  | zero => intro p xs q h h0; simp only [manyP] at h; injection h with e1 e2; subst e1; simp
  | succ n ih =>
    intro p xs q h h0
    simp only [manyP] at h
    split at h
    · cases h
    · rename_i x q1 e1
      split at h
      · cases h
      · rename_i ys q2 e2
        injection h with e3 e4
        subst e3
        intro d hd
        rcases List.mem_cons.1 hd with rfl | hd
        · exact (node_wf hb e1 h0).1
        · exact ih _ _ _ e2 (nodeP_n hb e1 h0).1 d hd


set_option maxRecDepth 100000 in
set_option maxHeartbeats 2000000 in
theorem rpre_any (w0 : World) (vb : Value) (b : List Int) (Rb : Nat) (at' : Int) (w : World) (hI : RIn w0 vb b Rb w) (hR : RD w Rb vb at') (h0 : 0 ≤ at') (h1 : at' ≤ b.length) :
    Calls Try.prog 39 #[.pointer (some ⟨Rb, 0, none⟩)] w (PreDone w Rb vb (preP b at')) := by
  have hlt := lt_of_block hR
  have hxr : w.heap.size ≠ Rb := by omega
  have hyr : w.heap.size + 1 ≠ Rb := by omega
  have hmf : ∀ (fn : Fn) (first cap : Array Value) (w : World), (Instr.makeFunc fn first cap).run Try.prog w = .ok (.func fn first cap) w := fun _ _ _ _ => rfl
  have HB : ((w.alloc (.cells #[.pointer (some ⟨Rb, 0, none⟩)] 71)).alloc (.cells #[.slice none 0 0, .slice none 0 0, .slice none 0 0] 43)).heap[w.heap.size]? = some (.cells #[.pointer (some ⟨Rb, 0, none⟩)] 71 (0, 0)) := by
    rw [Below.heap_alloc _ _ _ (by simp)]; exact heap_alloc_new w _
  have HY : ((w.alloc (.cells #[.pointer (some ⟨Rb, 0, none⟩)] 71)).alloc (.cells #[.slice none 0 0, .slice none 0 0, .slice none 0 0] 43)).heap[w.heap.size + 1]? = some (.cells #[.slice none 0 0, .slice none 0 0, .slice none 0 0] 43 (0, 0)) := by
    simpa using heap_alloc_new (w.alloc (.cells #[.pointer (some ⟨Rb, 0, none⟩)] 71)) (.cells #[.slice none 0 0, .slice none 0 0, .slice none 0 0] 43)
  have HG := grown_alloc (grown_alloc (grown_refl w (some Rb)) (.cells #[.pointer (some ⟨Rb, 0, none⟩)] 71)) (.cells #[.slice none 0 0, .slice none 0 0, .slice none 0 0] 43)
  replace hI := (hI.alloc (.cells #[.pointer (some ⟨Rb, 0, none⟩)] 71)).alloc (.cells #[.slice none 0 0, .slice none 0 0, .slice none 0 0] 43)
  replace hR := (hR.alloc (.cells #[.pointer (some ⟨Rb, 0, none⟩)] 71)).alloc (.cells #[.slice none 0 0, .slice none 0 0, .slice none 0 0] 43)
  obtain ⟨N, hN⟩ : ∃ N, Hid (preP b at' = N) := ⟨_, Lib.hid rfl⟩
  rw [hN.out]
  go_enter Try.func39, Try.ntmps39
  (repeat (first | with_reducible refine xThenN ?_ | with_reducible refine xThenE ?_ | with_reducible refine xThenR ?_ | with_reducible refine xThenP ?_ | with_reducible refine xBlockEq ?_ | with_reducible refine xBlockNe rfl ?_ | with_reducible refine xBlockN ?_ | with_reducible refine xBlockR ?_ | with_reducible refine xBlockP ?_ | go_values | go_skip | go_guarded | go_step | go_upon | go_back | (dsimp only)))
  obtain ⟨r, hr⟩ : ∃ r, Hid (numP b at' 1 1 65 = r) := ⟨_, Lib.hid rfl⟩
  rcases r with ⟨n, p0⟩ | ⟨E, q⟩
  rotate_left
  · obtain rfl : N = .err E q := by rw [← hN.out]; unfold preP; rw [hr.out]
    (repeat (first | with_reducible refine xThenN ?_ | with_reducible refine xThenE ?_ | with_reducible refine xThenR ?_ | with_reducible refine xThenP ?_ | with_reducible refine xBlockEq ?_ | with_reducible refine xBlockNe rfl ?_ | with_reducible refine xBlockN ?_ | with_reducible refine xBlockR ?_ | with_reducible refine xBlockP ?_ | (go_at_call 37; (with_reducible refine (rnum_err w0 vb b Rb _ _ _ _ _ hI hR h0 h1 (by omega) (by omega) _ _ hr).mono ?_); rintro e w1 ⟨rfl, hg1⟩) | go_values | go_skip | go_guarded | go_step | go_upon | go_back | (dsimp only)))
    exact bodyPost_panic rfl ⟨grown_trans HG hg1, rfl⟩
  obtain ⟨h0', h1', z0, z1, z2⟩ := numP_n hI.byte hr.out h0 (by decide)
  (repeat (first | with_reducible refine xThenN ?_ | with_reducible refine xThenE ?_ | with_reducible refine xThenR ?_ | with_reducible refine xThenP ?_ | with_reducible refine xBlockEq ?_ | with_reducible refine xBlockNe rfl ?_ | with_reducible refine xBlockN ?_ | with_reducible refine xBlockR ?_ | with_reducible refine xBlockP ?_ | (go_at_call 37; (with_reducible refine (rnum_ok w0 vb b Rb _ _ _ _ _ hI hR h0 h1 (by omega) (by omega) _ _ hr).mono ?_); rintro e w1 ⟨rfl, hg1, hR1⟩) | go_values | go_skip | go_guarded | go_step | go_upon | go_back | (dsimp only)))
  replace HG := grown_trans HG hg1
  replace HB := keep_at hg1 HB (fun e => hxr (by injection e))
  replace HY := keep_at hg1 HY (fun e => hyr (by injection e))
  replace hI := hI.grown hg1
  have hr0 := hr
  clear hr hR hg1 h0 h1
  have hR := hR1; have h0 := h0'; have h1 := h1'
  clear hR1 h0' h1'
  obtain ⟨r, hr⟩ : ∃ r, Hid (manyP (pathP b) n.toNat p0 = r) := ⟨_, Lib.hid rfl⟩
  rcases r with ⟨path, p1⟩ | ⟨E, q⟩
  rotate_left
  · obtain rfl : N = .err E q := by rw [← hN.out]; unfold preP; rw [hr0.out]; dsimp only; rw [hr.out]
    (repeat (first | with_reducible refine xThenN ?_ | with_reducible refine xThenE ?_ | with_reducible refine xThenR ?_ | with_reducible refine xThenP ?_ | with_reducible refine xBlockEq ?_ | with_reducible refine xBlockNe rfl ?_ | with_reducible refine xBlockN ?_ | with_reducible refine xBlockR ?_ | with_reducible refine xBlockP ?_ | (go_at_call 44; (with_reducible refine (listint_err w0 vb b Rb w.heap.size _ _ (by omega) (by omega) _ hI hR HB h0 h1 _ _ hr).mono ?_); rintro e w1 ⟨rfl, hg1⟩) | go_values | go_skip | go_guarded | go_step | go_upon | go_back | (dsimp only)))
    exact bodyPost_panic rfl ⟨grown_trans HG hg1, rfl⟩
  obtain ⟨hpl, h0', h1'⟩ := manyP_n (L := b.length) (fun p x q h h0 => by have := numP_n hI.byte h h0 (by decide); omega) _ _ _ _ hr.out h0 h1
  have Hpl := Lib.hid hpl
  clear hpl
  (repeat (first | with_reducible refine xThenN ?_ | with_reducible refine xThenE ?_ | with_reducible refine xThenR ?_ | with_reducible refine xThenP ?_ | with_reducible refine xBlockEq ?_ | with_reducible refine xBlockNe rfl ?_ | with_reducible refine xBlockN ?_ | with_reducible refine xBlockR ?_ | with_reducible refine xBlockP ?_ | (go_at_call 44; (with_reducible refine (listint_ok w0 vb b Rb w.heap.size _ _ (by omega) (by omega) _ hI hR HB h0 h1 _ _ hr).mono ?_); rintro e w2 ⟨v1, rfl, hT1, hg1, hR1⟩; obtain ⟨a1, c1, rfl⟩ := hT1.sl.shape; obtain ⟨d0, d1, d2⟩ := cells2 hR1; have hX1 := fun o => cell_keep (Below.alloc (Below.refl w2.heap.size w2) (Nat.le_refl _) o) d1; have hB1 := keep_at hg1 HB (fun e => hxr (by injection e)); have hX2 := fun o => cell_keep (Below.alloc (Below.refl w2.heap.size w2) (Nat.le_refl _) o) (cell_of_one hB1)) | go_values | go_skip | go_guarded | go_step | go_upon | go_back | (dsimp only)))
  have hy1 := keep_at hg1 HY (fun e => hyr (by injection e))
  have hzr : w2.heap.size ≠ Rb := by have := lt_of_block hR1; omega
  have hw0 : w0.heap.size ≤ w.heap.size := by have := hI.rb; omega
  have hyl2 := lt_of_block hy1
  have hsz : w.heap.size ≤ w2.heap.size := (grown_trans HG hg1).size
  have hylt := lt_of_block hy1
  have hrlt := lt_of_block hR1
  refine wp_abs (fun u => w.grownBy u (some Rb) ∧ u.heap[w.heap.size]? = some (.cells #[.pointer (some ⟨Rb, 0, none⟩)] 71 (0, 0)) ∧ u.heap[w.heap.size + 1]? = some (.cells #[.slice none 0 0, .slice none 0 0, .slice none 0 0] 43 (0, 0)) ∧
    u.heap[w2.heap.size]? = some (.cells #[.slice a1 path.length c1, .slice none 0 0, .slice none 0 0] 43 (0, 0)) ∧ RIn w0 vb b Rb u ∧ RD u Rb vb p1 ∧ SlT 3 1 i64c u (.slice a1 path.length c1) path)
    ⟨grown_alloc (grown_trans HG hg1) _, (Below.heap_alloc _ _ _ (lt_of_block hB1)).trans hB1, (Below.heap_alloc _ _ _ hylt).trans hy1, heap_alloc_new w2 _, (hI.grown hg1).alloc _, hR1.alloc _, hT1.same (fun k cur fr hk => Below.heap_alloc _ _ _ (lt_of_block hk))⟩ ?_
  rintro u ⟨HG3, HB3, HY3, HZ3, hI3, hR3, hT3⟩
  have hr1 := hr
  clear hr hR hg1 h0 h1 HB HY hI HG hT1 hR1 d0 d1 d2 hX1 hB1 hX2 hy1 hylt
  have hI := hI3; have hR := hR3; have h0 := h0'; have h1 := h1'
  clear h0' h1' hI3
  have hB3 := cell_of_one HB3
  refine wp_region_held (S := fun w' => w'.cell? ⟨w.heap.size, 0, none⟩ = some (.pointer (some ⟨Rb, 0, none⟩))) (by kernel_rfl) ?_
  have hD : u.grownBy ({ u with drawn := u.drawn + 1 } : World) (some Rb) := ⟨rfl, rfl, rfl, Nat.le_refl _, fun _ _ _ => rfl⟩
  replace HG3 := grown_trans HG3 hD
  replace hB3 : ({ u with drawn := u.drawn + 1 } : World).cell? ⟨w.heap.size, 0, none⟩ = some (.pointer (some ⟨Rb, 0, none⟩)) := hB3
  replace HB3 : ({ u with drawn := u.drawn + 1 } : World).heap[w.heap.size]? = _ := HB3
  replace HY3 : ({ u with drawn := u.drawn + 1 } : World).heap[w.heap.size + 1]? = _ := HY3
  replace HZ3 : ({ u with drawn := u.drawn + 1 } : World).heap[w2.heap.size]? = _ := HZ3
  replace hI : RIn w0 vb b Rb ({ u with drawn := u.drawn + 1 } : World) := hI.grown hD
  replace hR : RD ({ u with drawn := u.drawn + 1 } : World) Rb vb p1 := hR
  replace hT3 : SlT 3 1 i64c ({ u with drawn := u.drawn + 1 } : World) (.slice a1 path.length c1) path := hT3
  clear hD hR3
  generalize ({ u with drawn := u.drawn + 1 } : World) = u3 at *
  refine wpAnyH_take (i := 0) rfl (by kernel_rfl) (by kernel_rfl) (by kernel_rfl) (fun _ _ _ h => h) (yields_ld71 (fun _ h => h) rfl _ rfl rfl) hB3 ?_
  simp only [Act.put, List.setIfInBounds_toArray, List.set_cons_succ, List.set_cons_zero]
  refine wpAnyH_take (i := 2) rfl (by kernel_rfl) (by kernel_rfl) (by kernel_rfl) (fun _ _ _ h => h) (yields_ld71 (fun _ h => h) rfl _ rfl rfl) hB3 ?_
  simp only [Act.put, List.setIfInBounds_toArray, List.set_cons_succ, List.set_cons_zero]
  refine wpAnyH_take (i := 3) (v := .func (Fn.func 47) #[.pointer (some ⟨Rb, 0, none⟩)] #[]) rfl (by kernel_rfl) (by kernel_rfl) (by kernel_rfl) (fun _ _ _ h => h) (Or.inl ⟨rfl, fun w _ => by go_simp⟩) hB3 ?_
  simp only [Act.put, List.setIfInBounds_toArray, List.set_cons_succ, List.set_cons_zero]
  refine wpAnyH_all (rs := [1]) (by kernel_rfl) (by simp) (fun i hi => ?_)
  obtain rfl : i = 1 := by simpa using hi
  refine wpOp_one rfl ?_
  obtain ⟨r, hr⟩ : ∃ r, Hid (numP b p1 3 1 65536 = r) := ⟨_, Lib.hid rfl⟩
  rcases r with ⟨m, p2⟩ | ⟨E, q⟩
  rotate_left
  · obtain rfl : N = .err E q := by rw [← hN.out]; unfold preP; rw [hr0.out]; dsimp only; rw [hr1.out]; dsimp only; rw [hr.out]
    (repeat (first | with_reducible refine xThenN ?_ | with_reducible refine xThenE ?_ | with_reducible refine xThenR ?_ | with_reducible refine xThenP ?_ | with_reducible refine xBlockEq ?_ | with_reducible refine xBlockNe rfl ?_ | with_reducible refine xBlockN ?_ | with_reducible refine xBlockR ?_ | with_reducible refine xBlockP ?_ | (go_at_call 37; (with_reducible refine (rnum_err w0 vb b Rb _ _ _ _ _ hI hR h0 h1 (by omega) (by omega) _ _ hr).mono ?_); rintro e w1 ⟨rfl, hg1⟩) | go_values | go_skip | go_guarded | go_step | go_upon | go_back | (dsimp only)))
    first | exact bodyPost_panic rfl ⟨grown_trans HG3 hg1, rfl⟩ | exact ⟨rfl, grown_trans HG3 hg1, rfl⟩
  obtain ⟨h0', h1', z3, z4, z5⟩ := numP_n hI.byte hr.out h0 (by decide)
  (repeat (first | with_reducible refine xThenN ?_ | with_reducible refine xThenE ?_ | with_reducible refine xThenR ?_ | with_reducible refine xThenP ?_ | with_reducible refine xBlockEq ?_ | with_reducible refine xBlockNe rfl ?_ | with_reducible refine xBlockN ?_ | with_reducible refine xBlockR ?_ | with_reducible refine xBlockP ?_ | (go_at_call 37; (with_reducible refine (rnum_ok w0 vb b Rb _ _ _ _ _ hI hR h0 h1 (by omega) (by omega) _ _ hr).mono ?_); rintro e w1 ⟨rfl, hg1, hR1⟩) | go_values | go_skip | go_guarded | go_step | go_upon | go_back | (dsimp only)))
  replace HG3 := grown_trans HG3 hg1
  replace HB3 := keep_at hg1 HB3 (fun e => hxr (by injection e))
  replace HY3 := keep_at hg1 HY3 (fun e => hyr (by injection e))
  replace HZ3 := keep_at hg1 HZ3 (fun e => hzr (by injection e))
  replace hT3 := hT3.same (fun k cur fr hk => hg1.block k (lt_of_block hk) (fun e => by injection e with e; subst e; rw [hR] at hk; simp at hk))
  replace hI := hI.grown hg1
  have hr2 := hr
  clear hr hR hg1 h0 h1 hB3
  have hR := hR1; have h0 := h0'; have h1 := h1'; have hp2n := h0'
  clear hR1 h0' h1'
  have hB3 := cell_of_one HB3
  refine ⟨hB3, ?_⟩
  refine wpAnyH_all (rs := [4]) (by kernel_rfl) (by simp) (fun i hi => ?_)
  obtain rfl : i = 4 := by simpa using hi
  refine wpOp_one rfl ?_
  obtain ⟨r, hr⟩ : ∃ r, Hid (manyP (nodeP b) m.toNat p2 = r) := ⟨_, Lib.hid rfl⟩
  rcases r with ⟨term, p3⟩ | ⟨E, q⟩
  rotate_left
  · obtain rfl : N = .err E q := by rw [← hN.out]; unfold preP; rw [hr0.out]; dsimp only; rw [hr1.out]; dsimp only; rw [hr2.out]; dsimp only; rw [hr.out]
    (repeat (first | with_reducible refine xThenN ?_ | with_reducible refine xThenE ?_ | with_reducible refine xThenR ?_ | with_reducible refine xThenP ?_ | with_reducible refine xBlockEq ?_ | with_reducible refine xBlockNe rfl ?_ | with_reducible refine xBlockN ?_ | with_reducible refine xBlockR ?_ | with_reducible refine xBlockP ?_ | (go_at_call 46; (with_reducible refine (listnode_err w0 vb b Rb _ _ (by omega) (by omega) _ hI hR h0 h1 _ _ hr).mono ?_); rintro e w1 ⟨rfl, hg1⟩) | go_values | go_skip | go_guarded | go_step | go_upon | go_back | (dsimp only)))
    first | exact bodyPost_panic rfl ⟨grown_trans HG3 hg1, rfl⟩ | exact ⟨rfl, grown_trans HG3 hg1, rfl⟩
  obtain ⟨htl, h0', h1'⟩ := manyP_n (L := b.length) (fun p x q h h0 => nodeP_n hI.byte h h0) _ _ _ _ hr.out h0 h1
  have Htl := Lib.hid htl
  clear htl
  (repeat (first | with_reducible refine xThenN ?_ | with_reducible refine xThenE ?_ | with_reducible refine xThenR ?_ | with_reducible refine xThenP ?_ | with_reducible refine xBlockEq ?_ | with_reducible refine xBlockNe rfl ?_ | with_reducible refine xBlockN ?_ | with_reducible refine xBlockR ?_ | with_reducible refine xBlockP ?_ | (go_at_call 46; (with_reducible refine (listnode_ok w0 vb b Rb _ _ (by omega) (by omega) _ hI hR h0 h1 _ _ hr).mono ?_); rintro e w3 ⟨v3, rfl, hT4, hg1, hR1⟩; obtain ⟨a3, c3, rfl⟩ := hT4.sl.shape) | go_values | go_skip | go_guarded | go_step | go_upon | go_back | (dsimp only)))
  replace HG3 := grown_trans HG3 hg1
  replace HB3 := keep_at hg1 HB3 (fun e => hxr (by injection e))
  replace HY3 := keep_at hg1 HY3 (fun e => hyr (by injection e))
  replace HZ3 := keep_at hg1 HZ3 (fun e => hzr (by injection e))
  replace hT3 := hT3.same (fun k cur fr hk => hg1.block k (lt_of_block hk) (fun e => by injection e with e; subst e; rw [hR] at hk; simp at hk))
  replace hI := hI.grown hg1
  have hr3 := hr
  clear hr hR hg1 h0 h1 hB3
  have hR := hR1; have h0 := h0'; have h1 := h1'
  clear hR1 h0' h1'
  have hB3 := cell_of_one HB3
  refine ⟨hB3, ?_⟩
  refine wpAnyH_all (rs := [5]) (by kernel_rfl) (by simp) (fun i hi => ?_)
  obtain rfl : i = 5 := by simpa using hi
  refine wpOp_one rfl ?_
  (repeat (first | with_reducible refine xThenN ?_ | with_reducible refine xThenE ?_ | with_reducible refine xThenR ?_ | with_reducible refine xThenP ?_ | with_reducible refine xBlockEq ?_ | with_reducible refine xBlockNe rfl ?_ | with_reducible refine xBlockN ?_ | with_reducible refine xBlockR ?_ | with_reducible refine xBlockP ?_ | go_values | go_skip | go_guarded | go_step | go_upon | go_back | (dsimp only)))
  refine ⟨hB3, ?_⟩
  refine wpAnyH_all (rs := [6]) (by kernel_rfl) (by simp) (fun i hi => ?_)
  obtain rfl : i = 6 := by simpa using hi
  refine wpOp_one rfl ?_
  have HZo := HZ3
  have hxz : w.heap.size ≠ w2.heap.size := by omega
  have hyz : w.heap.size + 1 ≠ w2.heap.size := by omega
  have hw02 : w0.heap.size ≤ w2.heap.size := by omega
  (repeat (first | with_reducible refine xThenN ?_ | with_reducible refine xThenE ?_ | with_reducible refine xThenR ?_ | with_reducible refine xThenP ?_ | with_reducible refine xBlockEq ?_ | with_reducible refine xBlockNe rfl ?_ | with_reducible refine xBlockN ?_ | with_reducible refine xBlockR ?_ | with_reducible refine xBlockP ?_ | ((with_reducible refine wl_id ?_); refine wl_store_cell (v := .slice _ _ _) rfl 41 _ _ rfl _ _ rfl _ 43 rfl HZ3 (fun w hg => st41 _ _ _ _ _ _ _ (by simp) w hg) ?_; intro w4 HZ4 hg2; (simp only [List.setIfInBounds_toArray, List.set_cons_succ, List.set_cons_zero] at HZ4); clear HZ3; have HZ3 := HZ4; clear HZ4; replace HG3 := grown_own HG3 hg2 hsz; replace HB3 := keep_at hg2 HB3 (fun e => hxz (by injection e)); replace HY3 := keep_at hg2 HY3 (fun e => hyz (by injection e)); replace hI := hI.own hg2 hw02; replace hR := hR.keep hg2 (Ne.symm hzr); replace hT3 := hT3.same (fun k cur fr hk => hg2.block k (lt_of_block hk) (fun e => by injection e with e; subst e; rw [HZo] at hk; simp at hk)); replace hT4 := hT4.same (fun k cur fr hk => hg2.block k (lt_of_block hk) (fun e => by injection e with e; subst e; rw [HZo] at hk; simp at hk)); clear hB3; have hB3 := cell_of_one HB3; clear hg2 HZo; (try simp only [Act.put, List.setIfInBounds_toArray, List.set_cons_succ, List.set_cons_zero])) | go_values | go_skip | go_guarded | go_step | go_upon | go_back | (dsimp only)))
  refine ⟨hB3, ?_⟩
  refine wpAnyH_done (by kernel_rfl) ?_ _
  have hwf := nodes_wf hI.byte _ _ _ _ hr3.out hp2n
  have Hwf := Lib.hid hwf
  clear hwf
  obtain ⟨z0', z1', z2'⟩ := cells3 HZ3
  obtain ⟨E, hqE⟩ : ∃ E, Hid (quest term = E) := ⟨_, Lib.hid rfl⟩
  by_cases hz : E = 0
  · subst hz
    (repeat (first | with_reducible refine xThenN ?_ | with_reducible refine xThenE ?_ | with_reducible refine xThenR ?_ | with_reducible refine xThenP ?_ | with_reducible refine xBlockEq ?_ | with_reducible refine xBlockNe rfl ?_ | with_reducible refine xBlockN ?_ | with_reducible refine xBlockR ?_ | with_reducible refine xBlockP ?_ | (go_at_call 41; (with_reducible refine (question_anyX term _ _ hT4.sl Hwf.out _ hqE).mono ?_); rintro e w5 ⟨rfl, hb1⟩) | go_values | go_skip | go_guarded | go_step | go_upon | go_back | (dsimp only)))
    replace HG3 := grown_trans HG3 (grown_below hb1)
    replace HB3 := (hb1.block _ (lt_of_block HB3)).trans HB3
    replace HY3 := (hb1.block _ (lt_of_block HY3)).trans HY3
    replace HZ3 := (hb1.block _ (lt_of_block HZ3)).trans HZ3
    replace hT3 := hT3.same (fun k cur fr hk => hb1.block k (lt_of_block hk))
    replace hT4 := hT4.same (fun k cur fr hk => hb1.block k (lt_of_block hk))
    replace hI := hI.grown (grown_below hb1)
    replace hR : RD w5 Rb vb p3 := (hb1.block _ (lt_of_block hR)).trans hR
    clear hB3 hb1 z0' z1' z2'
    refine wp_region_held (S := fun w' => w'.cell? ⟨w.heap.size, 0, none⟩ = some (.pointer (some ⟨Rb, 0, none⟩))) (by kernel_rfl) ?_
    have hD : w5.grownBy ({ w5 with drawn := w5.drawn + 1 } : World) (some Rb) := ⟨rfl, rfl, rfl, Nat.le_refl _, fun _ _ _ => rfl⟩
    replace HG3 := grown_trans HG3 hD
    replace HB3 : ({ w5 with drawn := w5.drawn + 1 } : World).heap[w.heap.size]? = _ := HB3
    replace HY3 : ({ w5 with drawn := w5.drawn + 1 } : World).heap[w.heap.size + 1]? = _ := HY3
    replace HZ3 : ({ w5 with drawn := w5.drawn + 1 } : World).heap[w2.heap.size]? = _ := HZ3
    replace hI : RIn w0 vb b Rb ({ w5 with drawn := w5.drawn + 1 } : World) := hI.grown hD
    replace hR : RD ({ w5 with drawn := w5.drawn + 1 } : World) Rb vb p3 := hR
    replace hT3 := hT3.same (w' := ({ w5 with drawn := w5.drawn + 1 } : World)) (fun k cur fr hk => rfl)
    replace hT4 := hT4.same (w' := ({ w5 with drawn := w5.drawn + 1 } : World)) (fun k cur fr hk => rfl)
    clear hD
    generalize ({ w5 with drawn := w5.drawn + 1 } : World) = u5 at *
    have hB3 := cell_of_one HB3
    refine wpAnyH_take (i := 0) rfl (by kernel_rfl) (by kernel_rfl) (by kernel_rfl) (fun _ _ _ h => h) (yields_ld71 (fun _ h => h) rfl _ rfl rfl) hB3 ?_
    simp only [Act.put, List.setIfInBounds_toArray, List.set_cons_succ, List.set_cons_zero]
    refine wpAnyH_take (i := 1) rfl (by kernel_rfl) (by kernel_rfl) (by kernel_rfl) (fun _ _ _ h => h) (yields_ld71 (fun _ h => h) rfl _ rfl rfl) hB3 ?_
    simp only [Act.put, List.setIfInBounds_toArray, List.set_cons_succ, List.set_cons_zero]
    refine wpAnyH_all (rs := [2]) (by kernel_rfl) (by simp) (fun i hi => ?_)
    obtain rfl : i = 2 := by simpa using hi
    refine wpOp_one rfl ?_
    obtain ⟨r, hr⟩ : ∃ r, Hid (numP b p3 1 0 16 = r) := ⟨_, Lib.hid rfl⟩
    have HN := Lib.hid (show preP b at' = match numP b p3 1 0 16 with | .err E q => .err E q | .ok l p4 => if b.length - p4 < l then .err 1 b.length else .ok ⟨path, term, SubB b p4.toNat l.toNat⟩ (p4 + l) from by
      unfold preP; rw [hr0.out]; dsimp only; rw [hr1.out]; dsimp only; rw [hr2.out]; dsimp only; rw [hr3.out]; dsimp only; rw [hqE.out, if_neg (by simp)])
    rcases r with ⟨l, p4⟩ | ⟨E, q⟩
    rotate_left
    · obtain rfl : N = .err E q := by rw [← hN.out, HN.out, hr.out]
      (repeat (first | with_reducible refine xThenN ?_ | with_reducible refine xThenE ?_ | with_reducible refine xThenR ?_ | with_reducible refine xThenP ?_ | with_reducible refine xBlockEq ?_ | with_reducible refine xBlockNe rfl ?_ | with_reducible refine xBlockN ?_ | with_reducible refine xBlockR ?_ | with_reducible refine xBlockP ?_ | (go_at_call 37; (with_reducible refine (rnum_err w0 vb b Rb _ _ _ _ _ hI hR h0 h1 (by omega) (by omega) _ _ hr).mono ?_); rintro e w1 ⟨rfl, hg1⟩) | go_values | go_skip | go_guarded | go_step | go_upon | go_back | (dsimp only)))
      first | exact bodyPost_panic rfl ⟨grown_trans HG3 hg1, rfl⟩ | exact ⟨rfl, grown_trans HG3 hg1, rfl⟩
    obtain ⟨h0', h1', z6, z7, z8⟩ := numP_n hI.byte hr.out h0 (by decide)
    (repeat (first | with_reducible refine xThenN ?_ | with_reducible refine xThenE ?_ | with_reducible refine xThenR ?_ | with_reducible refine xThenP ?_ | with_reducible refine xBlockEq ?_ | with_reducible refine xBlockNe rfl ?_ | with_reducible refine xBlockN ?_ | with_reducible refine xBlockR ?_ | with_reducible refine xBlockP ?_ | (go_at_call 37; (with_reducible refine (rnum_ok w0 vb b Rb _ _ _ _ _ hI hR h0 h1 (by omega) (by omega) _ _ hr).mono ?_); rintro e w1 ⟨rfl, hg1, hR1⟩) | go_values | go_skip | go_guarded | go_step | go_upon | go_back | (dsimp only)))
    (replace HG3 := grown_trans HG3 hg1; replace HB3 := keep_at hg1 HB3 (fun e => hxr (by injection e)); replace HY3 := keep_at hg1 HY3 (fun e => hyr (by injection e)); replace HZ3 := keep_at hg1 HZ3 (fun e => hzr (by injection e)); replace hT3 := hT3.same (fun k cur fr hk => hg1.block k (lt_of_block hk) (fun e => by injection e with e; subst e; rw [hR] at hk; simp at hk)); replace hT4 := hT4.same (fun k cur fr hk => hg1.block k (lt_of_block hk) (fun e => by injection e with e; subst e; rw [hR] at hk; simp at hk)); replace hI := hI.grown hg1)
    have hr5 := hr
    clear hr hR hg1 h0 h1 hB3
    have hR := hR1; have h0 := h0'; have h1 := h1'
    clear hR1 h0' h1'
    have hB3 := cell_of_one HB3
    refine ⟨hB3, ?_⟩
    refine wpAnyH_all (rs := [3]) (by kernel_rfl) (by simp) (fun i hi => ?_)
    obtain rfl : i = 3 := by simpa using hi
    refine wpOp_one rfl ?_
    (repeat (first | with_reducible refine xThenN ?_ | with_reducible refine xThenE ?_ | with_reducible refine xThenR ?_ | with_reducible refine xThenP ?_ | with_reducible refine xBlockEq ?_ | with_reducible refine xBlockNe rfl ?_ | with_reducible refine xBlockN ?_ | with_reducible refine xBlockR ?_ | with_reducible refine xBlockP ?_ | go_values | go_skip | go_guarded | go_step | go_upon | go_back | (dsimp only)))
    refine ⟨hB3, ?_⟩
    refine wpAnyH_all (rs := [4]) (by kernel_rfl) (by simp) (fun i hi => ?_)
    obtain rfl : i = 4 := by simpa using hi
    refine wpOp_one rfl ?_
    by_cases hsh : b.length - p4 < l
    · obtain rfl : N = .err 1 b.length := by rw [← hN.out, HN.out, hr5.out]; dsimp only; rw [if_pos hsh]
      (repeat (first | with_reducible refine xThenN ?_ | with_reducible refine xThenE ?_ | with_reducible refine xThenR ?_ | with_reducible refine xThenP ?_ | with_reducible refine xBlockEq ?_ | with_reducible refine xBlockNe rfl ?_ | with_reducible refine xBlockN ?_ | with_reducible refine xBlockR ?_ | with_reducible refine xBlockP ?_ | (go_at_call 36; (with_reducible refine (part_noX w0 vb b hI.sl Rb _ _ _ hR h0 h1 (by omega) hI.len (by omega)).mono ?_); rintro e w1 ⟨rfl, hg1⟩) | go_values | go_skip | go_guarded | go_step | go_upon | go_back | (dsimp only)))
      first | exact bodyPost_panic rfl ⟨grown_trans HG3 hg1, rfl⟩ | exact ⟨rfl, grown_trans HG3 hg1, rfl⟩
    obtain rfl : N = .ok ⟨path, term, SubB b p4.toNat l.toNat⟩ (p4 + l) := by rw [← hN.out, HN.out, hr5.out]; dsimp only; rw [if_neg hsh]
    have hsl : Hid ((SubB b p4.toNat l.toNat).length ≤ 1000000) := Lib.hid (by rw [SubB_len (by omega)]; omega)
    (repeat (first | with_reducible refine xThenN ?_ | with_reducible refine xThenE ?_ | with_reducible refine xThenR ?_ | with_reducible refine xThenP ?_ | with_reducible refine xBlockEq ?_ | with_reducible refine xBlockNe rfl ?_ | with_reducible refine xBlockN ?_ | with_reducible refine xBlockR ?_ | with_reducible refine xBlockP ?_ | (go_at_call 36; (with_reducible refine (part_okX w0 vb b hI.sl Rb hI.rb _ _ _ hI.below hR h0 h1 (by omega) hI.pos hI.len (by omega)).mono ?_); rintro e w7 ⟨v7, rfl, hS7, hg1, hR1⟩) | go_values | go_skip | go_guarded | go_step | go_upon | go_back | (dsimp only)))
    (replace HG3 := grown_trans HG3 hg1; replace HB3 := keep_at hg1 HB3 (fun e => hxr (by injection e)); replace HY3 := keep_at hg1 HY3 (fun e => hyr (by injection e)); replace HZ3 := keep_at hg1 HZ3 (fun e => hzr (by injection e)); replace hT3 := hT3.same (fun k cur fr hk => hg1.block k (lt_of_block hk) (fun e => by injection e with e; subst e; rw [hR] at hk; simp at hk)); replace hT4 := hT4.same (fun k cur fr hk => hg1.block k (lt_of_block hk) (fun e => by injection e with e; subst e; rw [hR] at hk; simp at hk)); replace hI := hI.grown hg1)
    clear hR hg1 h0 h1 hB3
    have hR := hR1
    clear hR1
    have hB3 := cell_of_one HB3
    refine ⟨hB3, ?_⟩
    refine wpAnyH_all (rs := [5]) (by kernel_rfl) (by simp) (fun i hi => ?_)
    obtain rfl : i = 5 := by simpa using hi
    refine wpOp_one rfl ?_
    (repeat (first | with_reducible refine xThenN ?_ | with_reducible refine xThenE ?_ | with_reducible refine xThenR ?_ | with_reducible refine xThenP ?_ | with_reducible refine xBlockEq ?_ | with_reducible refine xBlockNe rfl ?_ | with_reducible refine xBlockN ?_ | with_reducible refine xBlockR ?_ | with_reducible refine xBlockP ?_ | (go_at_call 48; (with_reducible refine (clone_any _ _ _ hS7 hsl.out).mono ?_); rintro e w8 ⟨v8, rfl, hT5, hb1⟩; obtain ⟨a8, c8, rfl⟩ := hT5.sl.shape) | go_values | go_skip | go_guarded | go_step | go_upon | go_back | (dsimp only)))
    have hg1 : w7.grownBy w8 (some Rb) := grown_below hb1
    have hR1 : RD w8 Rb vb (p4 + l) := (hb1.block _ (lt_of_block hR)).trans hR
    (replace HG3 := grown_trans HG3 hg1; replace HB3 := keep_at hg1 HB3 (fun e => hxr (by injection e)); replace HY3 := keep_at hg1 HY3 (fun e => hyr (by injection e)); replace HZ3 := keep_at hg1 HZ3 (fun e => hzr (by injection e)); replace hT3 := hT3.same (fun k cur fr hk => hg1.block k (lt_of_block hk) (fun e => by injection e with e; subst e; rw [hR] at hk; simp at hk)); replace hT4 := hT4.same (fun k cur fr hk => hg1.block k (lt_of_block hk) (fun e => by injection e with e; subst e; rw [hR] at hk; simp at hk)); replace hI := hI.grown hg1)
    clear hR hg1 hB3 hb1
    have hR := hR1
    clear hR1
    have hB3 := cell_of_one HB3
    refine ⟨hB3, ?_⟩
    refine wpAnyH_all (rs := [6]) (by kernel_rfl) (by simp) (fun i hi => ?_)
    obtain rfl : i = 6 := by simpa using hi
    refine wpOp_one rfl ?_
    (repeat (first | with_reducible refine xThenN ?_ | with_reducible refine xThenE ?_ | with_reducible refine xThenR ?_ | with_reducible refine xThenP ?_ | with_reducible refine xBlockEq ?_ | with_reducible refine xBlockNe rfl ?_ | with_reducible refine xBlockN ?_ | with_reducible refine xBlockR ?_ | with_reducible refine xBlockP ?_ | go_values | go_skip | go_guarded | go_step | go_upon | go_back | (dsimp only)))
    refine ⟨hB3, ?_⟩
    refine wpAnyH_all (rs := [7]) (by kernel_rfl) (by simp) (fun i hi => ?_)
    obtain rfl : i = 7 := by simpa using hi
    refine wpOp_one rfl ?_
    have HZo := HZ3
    (repeat (first | with_reducible refine xThenN ?_ | with_reducible refine xThenE ?_ | with_reducible refine xThenR ?_ | with_reducible refine xThenP ?_ | with_reducible refine xBlockEq ?_ | with_reducible refine xBlockNe rfl ?_ | with_reducible refine xBlockN ?_ | with_reducible refine xBlockR ?_ | with_reducible refine xBlockP ?_ | ((with_reducible refine wl_id ?_); refine wl_store_cell (v := .slice _ _ _) rfl 28 _ _ rfl _ _ rfl _ 43 rfl HZ3 (fun w hg => st28 _ _ _ _ _ _ _ (by simp) w hg) ?_; intro w4 HZ4 hg2; (simp only [List.setIfInBounds_toArray, List.set_cons_succ, List.set_cons_zero] at HZ4); clear HZ3; have HZ3 := HZ4; clear HZ4; replace HG3 := grown_own HG3 hg2 hsz; replace HB3 := keep_at hg2 HB3 (fun e => hxz (by injection e)); replace HY3 := keep_at hg2 HY3 (fun e => hyz (by injection e)); replace hI := hI.own hg2 hw02; replace hR := hR.keep hg2 (Ne.symm hzr); replace hT3 := hT3.same (fun k cur fr hk => hg2.block k (lt_of_block hk) (fun e => by injection e with e; subst e; rw [HZo] at hk; simp at hk)); replace hT4 := hT4.same (fun k cur fr hk => hg2.block k (lt_of_block hk) (fun e => by injection e with e; subst e; rw [HZo] at hk; simp at hk)); replace hT5 := hT5.same (fun k cur fr hk => hg2.block k (lt_of_block hk) (fun e => by injection e with e; subst e; rw [HZo] at hk; simp at hk)); clear hB3; have hB3 := cell_of_one HB3; clear hg2 HZo; (try simp only [Act.put, List.setIfInBounds_toArray, List.set_cons_succ, List.set_cons_zero])) | go_values | go_skip | go_guarded | go_step | go_upon | go_back | (dsimp only)))
    refine ⟨hB3, ?_⟩
    refine wpAnyH_done (by kernel_rfl) ?_ _
    (repeat (first | with_reducible refine xThenN ?_ | with_reducible refine xThenE ?_ | with_reducible refine xThenR ?_ | with_reducible refine xThenP ?_ | with_reducible refine xBlockEq ?_ | with_reducible refine xBlockNe rfl ?_ | with_reducible refine xBlockN ?_ | with_reducible refine xBlockR ?_ | with_reducible refine xBlockP ?_ | ((with_reducible refine wl_id ?_); refine wpList_load_row rfl 43 _ rfl _ rfl 43 _ (0, 0) _ HZ3 Try.underlying43 rfl size43 ?_; (try simp only [Act.put, List.setIfInBounds_toArray, List.set_cons_succ, List.set_cons_zero])) | ((with_reducible refine wl_id ?_); refine wl_store_row rfl 43 _ _ rfl _ rfl _ _ 43 rfl HY3 size43 rfl (by simp [Value.oneCell']) ?_; intro w9 HY9 hg2; replace HG3 := grown_own HG3 hg2 (by omega); replace hR := hR.keep hg2 (Ne.symm hyr); replace hT3 := hT3.same (fun k cur fr hk => hg2.block k (lt_of_block hk) (fun e => by injection e with e; subst e; rw [HY3] at hk; simp at hk)); replace hT4 := hT4.same (fun k cur fr hk => hg2.block k (lt_of_block hk) (fun e => by injection e with e; subst e; rw [HY3] at hk; simp at hk)); replace hT5 := hT5.same (fun k cur fr hk => hg2.block k (lt_of_block hk) (fun e => by injection e with e; subst e; rw [HY3] at hk; simp at hk)); (try simp only [Act.put, List.setIfInBounds_toArray, List.set_cons_succ, List.set_cons_zero])) | go_values | go_skip | go_guarded | go_step | go_upon | go_back | (dsimp only)))
    exact bodyPost_ret (results_cell_row rfl _ w9 _ _ _ _ _ rfl HY9 Try.underlying43 rfl size43) rfl ⟨HG3, _, _, _, rfl, ⟨hT3, hT4, hT5⟩, hR⟩
  · have fz : (E != 0) = true := by simpa using hz
    obtain rfl : N = .err E p1 := by rw [← hN.out]; unfold preP; rw [hr0.out]; dsimp only; rw [hr1.out]; dsimp only; rw [hr2.out]; dsimp only; rw [hr3.out]; dsimp only; rw [hqE.out, if_pos hz]
    clear hz
    (repeat (first | with_reducible refine xThenN ?_ | with_reducible refine xThenE ?_ | with_reducible refine xThenR ?_ | with_reducible refine xThenP ?_ | with_reducible refine xBlockEq ?_ | with_reducible refine xBlockNe rfl ?_ | with_reducible refine xBlockN ?_ | with_reducible refine xBlockR ?_ | with_reducible refine xBlockP ?_ | (go_at_call 41; (with_reducible refine (question_anyX term _ _ hT4.sl Hwf.out _ hqE).mono ?_); rintro e w5 ⟨rfl, hb1⟩) | go_values | go_skip | go_guarded | go_step | go_upon | go_back | (dsimp only)))
    exact bodyPost_panic rfl ⟨grown_trans HG3 (grown_below hb1), rfl⟩

end Go.Proofs.Ytcffgbmgjdhkjaa
