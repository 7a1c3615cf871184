import Derived.Test.YtcffgbmgjdhkjaaY
set_option linter.unusedSimpArgs false
set_option linter.unusedVariables false
namespace Go.Proofs.Ytcffgbmgjdhkjaa
open Go.RowKit

/-- a slice whose block is of elements of type T -/
def SlT {α : Type} (T s : Nat) (f : α → List Value) (w : World) (v : Value) (ls : List α) : Prop :=
  ∃ ao cap, v = .slice ao ls.length cap ∧ ls.length ≤ cap ∧ (ao = none → cap = 0) ∧ (ls ≠ [] → ∃ b o cur fr, ao = some ⟨b, o, none⟩ ∧ w.heap[b]? = some (.cells cur T fr) ∧ RowAt s f w b o ls)
section
variable {α : Type} {T s : Nat} {f : α → List Value} {w w' : World} {v : Value} {ls : List α}
theorem SlT.sl (h : SlT T s f w v ls) : SlIs s f w v ls :=
  let ⟨ao, cap, h1, h2, h3, h4⟩ := h
  ⟨ao, cap, h1, h2, h3, fun hn => let ⟨b, o, _, _, e, _, hr⟩ := h4 hn; ⟨b, o, e, hr⟩⟩
theorem SlT.same (h : SlT T s f w v ls) (hs : ∀ (k : Nat) (cur : Array Value) (fr : Nat × Nat), w.heap[k]? = some (Obj.cells cur T fr) → w'.heap[k]? = w.heap[k]?) : SlT T s f w' v ls :=
  let ⟨ao, cap, h1, h2, h3, h4⟩ := h
  ⟨ao, cap, h1, h2, h3, fun hn => let ⟨b, o, cur, fr, e, hh, hr⟩ := h4 hn; ⟨b, o, cur, fr, e, (hs b cur fr hh).trans hh, fun i d hi j c hj => (World.cell?_of_block (a := ⟨b, _, none⟩) (hs b cur fr hh)).trans (hr i d hi j c hj)⟩⟩

theorem flat_get (hf : ∀ x, (f x).length = s) : ∀ (ls : List α) (i : Nat) (d : α), ls[i]? = some d → ∀ (j : Nat) (c : Value), (f d)[j]? = some c → (ls.flatMap f)[s * i + j]? = some c := by
  intro ls
  induction ls with
  | nil => intro i d hi; simp at hi
  | cons x ls ih =>
    intro i d hi j c hj
    rw [List.flatMap_cons]
    rcases i with _ | i
    · obtain rfl : x = d := by simpa using hi
      have hlt := (List.getElem?_eq_some_iff.1 hj).1
      rw [Nat.mul_zero, Nat.zero_add, List.getElem?_append_left hlt]
      exact hj
    · have := ih i d (by simpa using hi) j c hj
      have e : s * (i + 1) + j = (f x).length + (s * i + j) := by rw [hf x, Nat.mul_add]; omega
      rw [e, List.getElem?_append_right (by omega)]
      simpa using this
theorem flat_len (hf : ∀ x, (f x).length = s) (ls : List α) : (ls.flatMap f).length = ls.length * s := by
  induction ls with
  | nil => simp
  | cons x ls ih => rw [List.flatMap_cons, List.length_append, ih, hf x, List.length_cons, Nat.add_mul]; omega

theorem SlT.ofOwns (hf : ∀ x, (f x).length = s) {base : Nat} (h : w.ownsRow base T s v ls.length (ls.flatMap f)) : SlT T s f w v ls := by
  rcases h.2 with ⟨rfl, hn⟩ | ⟨g, cap, cur, rfl, hb, hh, hnc, _⟩
  · obtain rfl : ls = [] := List.length_eq_zero_iff.1 hn
    exact ⟨none, 0, rfl, by simp, by simp, by simp⟩
  · refine ⟨_, cap, rfl, hnc, by simp, fun hn => ⟨g, 0, cur, (0, 0), rfl, hh, fun i d hi j c hj => ?_⟩⟩
    have := h.cells (g := g) rfl (s * i + j) c (flat_get hf ls i d hi j c hj)
    rw [Nat.zero_add]
    generalize s * i + j = q at this ⊢
    rcases q with _ | q
    · simpa [Addr.add] using this
    · simpa [Addr.add] using this
end

theorem grown_row {a b c : World} {r row : Option Nat} (h : a.grownBy b r) (k : b.grownBy c row) (hg : ∀ g, row = some g → a.heap.size ≤ g) : a.grownBy c r :=
  ⟨k.os.trans h.os, k.tape.trans h.tape, k.output.trans h.output, Nat.le_trans h.size k.size, fun i hi hn => (k.block i (Nat.lt_of_lt_of_le hi h.size) (fun e => by have := hg i e.symm; omega)).trans (h.block i hi hn)⟩

/-- one element, laid into a block of its own and appended to a row of the call's own -/
theorem wl_append_lit {P : Program} {ops : Array Oper} {rest : List Oper} {o : Oper} {a : Act} {Q : Exit → Act → World → Prop} (hgd : o.guard = none) (a1 x : Operand) (t : TypeId)
    (ho : o.op = .call { callee := .builtin .append, args := #[a1, x], argTypes := #[t, t] })
    (base : Nat) (T : TypeId) (i : TypeInfo) (z : Value) (s bytes : Nat) (ht : P.underlying t = some (.slice T)) (hi : P.info? T = some i) (hz : i.zero = some z)
    (hsize : i.size = s) (hby : i.bytes = bytes) (hzs : z.cells.size = s) (hsz : 0 < s)
    (v : Value) (n : Nat) (xs : List Value) (W : World) (hs : a.eval a1 = v) (hown : W.ownsRow base T s v n xs)
    (ds : List Value) (hx : a.eval x = .slice (some ⟨W.heap.size, 0, none⟩) 1 1) (hl : ds.length = s) (h1 : ∀ u ∈ ds, u.oneCell' = true) (hn : n ≤ 1000000) (hb : bytes ≤ 100) (hbase : base ≤ W.heap.size)
    (h : ∀ v' w', w'.ownsRow base T s v' (n + 1) (xs ++ ds) → W.grownBy w' v.ownBlock → wpList P ops Q rest (a.put o.dst v') w') : wpList P ops Q (o :: rest) a (W.alloc (.cells ds.toArray T)) := by
  refine wpList_append_lies (P := P) (W.alloc (.cells ds.toArray T)) hgd a1 x t ho base T i z s bytes ht hi hz hsize hby hzs hsz v n xs hs (hown.alloc _) ⟨W.heap.size, 0, none⟩ 1 1 ds hx (by omega)
    (World.news_of_block (cs := ds.toArray) (t := T) (fr := (0, 0)) (heap_alloc_new W _)) h1 (by decide) (by simp only [maxLen]; omega) ?_ (by simp; omega) _ rfl ?_
  · have : (n + 1) * bytes ≤ 1000001 * 100 := Nat.mul_le_mul (by omega) hb
    omega
  · intro g cap w' h2 h3 _ _
    exact h _ w' h2 (grown_trans (grown_alloc (grown_refl W _) _) h3)

/-- one parse after the other -/
def manyP {α : Type} (one : Int → PR α) : Nat → Int → PR (List α)
  | 0, p => .ok [] p
  | n + 1, p => match one p with
    | .err E q => .err E q
    | .ok x q => match manyP one n q with
      | .err E q' => .err E q'
      | .ok xs q' => .ok (x :: xs) q'
def resume {α : Type} (xs : List α) : PR (List α) → PR (List α)
  | .ok ys q => .ok (xs ++ ys) q
  | .err E q => .err E q
theorem resume_nil {α : Type} (r : PR (List α)) : resume [] r = r := by cases r <;> rfl
theorem many_err {α : Type} {one : Int → PR α} {n : Nat} {p E q : Int} (xs : List α) (h : one p = .err E q) : resume xs (manyP one (n + 1) p) = .err E q := by
  simp only [manyP, h, resume]
theorem many_ok {α : Type} {one : Int → PR α} {n : Nat} {p q : Int} {x : α} (xs : List α) (h : one p = .ok x q) : resume xs (manyP one (n + 1) p) = resume (xs ++ [x]) (manyP one n q) := by
  simp only [manyP, h]
  cases manyP one n q with
  | ok ys q' => simp [resume]
  | err E q' => rfl

def LDone {α : Type} (T s : Nat) (f : α → List Value) (w : World) (Rb : Nat) (vb : Value) (r : PR (List α)) (e : Ending) (w' : World) : Prop :=
  w.grownBy w' (some Rb) ∧ match r with
    | .ok xs p => ∃ v, e = .returned v ∧ SlT T s f w' v xs ∧ RD w' Rb vb p
    | .err E p => e = stopped E p

theorem info3' : (Try.prog.info? 3).map (fun i => (i.zero, i.size, i.bytes)) = some (some (.int .i64 0), 1, 8) := by kernel_rfl
theorem info49' : (Try.prog.info? 49).map (fun i => (i.zero, i.size, i.bytes)) = some (some (.agg #[.int .i64 0, .int .i64 0, .int .u64 0, .int .i64 0, .int .i64 0, .int .i64 0]), 6, 48) := by kernel_rfl
theorem info43' : (Try.prog.info? 43).map (fun i => (i.zero, i.size, i.bytes)) = some (some (.agg #[.slice none 0 0, .slice none 0 0, .slice none 0 0]), 3, 72) := by kernel_rfl

def pathP (b : List Int) (p : Int) : PR Int := numP b p 1 0 255


theorem pre1_ok (w0 : World) (vb : Value) (b : List Int) (Rb bx : Nat) (at' : Int) (w : World) (hI : RIn w0 vb b Rb w) (hR : RD w Rb vb at') (hb : w.cell? ⟨bx, 0, none⟩ = some (.pointer (some ⟨Rb, 0, none⟩))) (h0 : 0 ≤ at') (h1 : at' ≤ b.length) (x p : Int) (hr : Hid (numP b at' 1 0 255 = .ok x p)) :
    Calls Try.prog 45 #[.pointer (some ⟨bx, 0, none⟩)] w fun e w' => e = .returned (.int .i64 x) ∧ w.grownBy w' (some Rb) ∧ RD w' Rb vb p := by
  obtain ⟨_, _, z0, z1, z2⟩ := numP_n hI.byte hr.out h0 (by decide)
  go_enter Try.func45, Try.ntmps45
  (repeat (first | with_reducible refine xThenN ?_ | with_reducible refine xThenE ?_ | with_reducible refine xThenR ?_ | with_reducible refine xThenP ?_ | with_reducible refine xBlockEq ?_ | with_reducible refine xBlockNe rfl ?_ | with_reducible refine xBlockN ?_ | with_reducible refine xBlockR ?_ | with_reducible refine xBlockP ?_ | (go_at_call 37; (with_reducible refine (rnum_ok w0 vb b Rb _ _ _ _ _ hI hR h0 h1 (by omega) (by omega) _ _ hr).mono ?_); rintro e w1 ⟨rfl, hg1, hR1⟩) | go_values | go_skip | go_guarded | go_step | go_upon | go_back | (dsimp only)))
  go_ret
  exact ⟨rfl, hg1, hR1⟩
theorem pre1_err (w0 : World) (vb : Value) (b : List Int) (Rb bx : Nat) (at' : Int) (w : World) (hI : RIn w0 vb b Rb w) (hR : RD w Rb vb at') (hb : w.cell? ⟨bx, 0, none⟩ = some (.pointer (some ⟨Rb, 0, none⟩))) (h0 : 0 ≤ at') (h1 : at' ≤ b.length) (E p : Int) (hr : Hid (numP b at' 1 0 255 = .err E p)) :
    Calls Try.prog 45 #[.pointer (some ⟨bx, 0, none⟩)] w fun e w' => e = stopped E p ∧ w.grownBy w' (some Rb) := by
  go_enter Try.func45, Try.ntmps45
  (repeat (first | with_reducible refine xThenN ?_ | with_reducible refine xThenE ?_ | with_reducible refine xThenR ?_ | with_reducible refine xThenP ?_ | with_reducible refine xBlockEq ?_ | with_reducible refine xBlockNe rfl ?_ | with_reducible refine xBlockN ?_ | with_reducible refine xBlockR ?_ | with_reducible refine xBlockP ?_ | (go_at_call 37; (with_reducible refine (rnum_err w0 vb b Rb _ _ _ _ _ hI hR h0 h1 (by omega) (by omega) _ _ hr).mono ?_); rintro e w1 ⟨rfl, hg1⟩) | go_values | go_skip | go_guarded | go_step | go_upon | go_back | (dsimp only)))
  first | exact bodyPost_panic rfl ⟨rfl, hg1⟩ | exact ⟨rfl, rfl, hg1⟩

set_option maxRecDepth 100000 in
set_option maxHeartbeats 2000000 in
theorem listint_any (w0 : World) (vb : Value) (b : List Int) (Rb bx : Nat) (at0 : Int) (N : Nat) (hN : N ≤ 65536) (w : World) (hI : RIn w0 vb b Rb w) (hR : RD w Rb vb at0) (hb : w.heap[bx]? = some (.cells #[.pointer (some ⟨Rb, 0, none⟩)] 71 (0, 0))) (h0 : 0 ≤ at0) (h1 : at0 ≤ b.length) :
    Calls Try.prog 44 #[.int .u64 N, .func (Fn.func 45) #[] #[.pointer (some ⟨bx, 0, none⟩)]] w (LDone 3 1 i64c w Rb vb (manyP (pathP b) N at0)) := by
  have hlt := lt_of_block hR
  have hbr : bx ≠ Rb := by
    rintro rfl
    rw [hR] at hb
    simp at hb
  have Hbr := Lib.hid hbr
  obtain ⟨i0, hi0, hz0, hz1, hz2⟩ := info_parts info3'
  go_enter Try.func44, Try.ntmps44
  (repeat (first | with_reducible refine xThenN ?_ | with_reducible refine xThenE ?_ | with_reducible refine xThenR ?_ | with_reducible refine xThenP ?_ | with_reducible refine xBlockEq ?_ | with_reducible refine xBlockNe rfl ?_ | with_reducible refine xBlockN ?_ | with_reducible refine xBlockR ?_ | with_reducible refine xBlockP ?_ | go_values | go_skip | go_guarded | go_step | go_upon | go_back | (dsimp only)))
  obtain ⟨M, hM⟩ : ∃ M, Hid (manyP (pathP b) N at0 = M) := ⟨_, Lib.hid rfl⟩
  rw [hM.out]
  go_loopw [5, 7] (fun v i wr => ∃ (k : Nat) (xs : List Int) (p : Int), k ≤ N ∧ i = .int .u64 k ∧ xs.length ≤ k ∧ wr.ownsRow w.heap.size 3 1 v xs.length (xs.flatMap i64c) ∧ Hid (M = resume xs (manyP (pathP b) (N - k) p)) ∧ 0 ≤ p ∧ p ≤ b.length ∧ RD wr Rb vb p ∧ RIn w0 vb b Rb wr ∧ w.grownBy wr (some Rb)) (fun _ i _ => N - (intOf i).toNat)
  case atStart => exact ⟨0, [], at0, by omega, rfl, by simp, World.ownsRow_nil _ _ _ _, Lib.hid (by rw [resume_nil]; exact hM.out.symm), h0, h1, hR, hI, grown_refl _ _⟩
  case round =>
    clear h0 h1 hR hI
    obtain ⟨k, xs, p, hk, rfl, hxk, hO, hM2, h0, h1, hR, hI, HG⟩ := hrel
    have hbk := keep_at HG hb (fun e => Hbr.out (by injection e))
    have hbc := cell_of_one hbk
    have hsz := HG.size
    have hob2 : u5.ownBlock ≠ some Rb := by
      intro e
      have := (hO.lt Rb e).1
      omega
    have hob := Or.inr (a := u5.ownBlock = none) hob2
    have hp63 : (k : Int) + 1 ≤ 65536 ∨ k = N := by omega
    rcases Nat.lt_or_ge k N with hlt1 | hge
    · obtain ⟨r, hr⟩ : ∃ r, Hid (numP b p 1 0 255 = r) := ⟨_, Lib.hid rfl⟩
      have eN : N - k = (N - (k + 1)) + 1 := by omega
      rw [eN] at hM2
      clear eN hp63
      rcases r with ⟨x, q⟩ | ⟨E, q⟩
      · have hM3 := hM2.out
        rw [many_ok xs (one := pathP b) (p := p) hr.out] at hM3
        have HM3 := Lib.hid hM3
        clear hM3 hM2
        obtain ⟨h0', h1', z0, z1, z2⟩ := numP_n hI.byte hr.out h0 (by decide)
        (repeat (first | with_reducible refine xThenN ?_ | with_reducible refine xThenE ?_ | with_reducible refine xThenR ?_ | with_reducible refine xThenP ?_ | with_reducible refine xBlockEq ?_ | with_reducible refine xBlockNe rfl ?_ | with_reducible refine xBlockN ?_ | with_reducible refine xBlockR ?_ | with_reducible refine xBlockP ?_ | (go_at_call 45; (with_reducible refine (pre1_ok w0 vb b Rb bx p _ hI hR hbc h0 h1 x q hr).mono ?_); rintro e w1 ⟨rfl, hg1, hR1⟩) | (at_builtin; refine wl_append_lit rfl _ _ 40 rfl w.heap.size 3 i0 _ 1 8 Try.underlying40 hi0 hz0 hz1 hz2 rfl (by decide) u5 _ _ w1 (by rfl) (hO.kept hg1 hob) [.int .i64 x] (by rfl) rfl (by intro u hu; simp at hu; subst hu; rfl) (by omega) (by decide) (by have := hg1.size; omega) ?_; intro v2 w2 hO2 hg2; (try simp only [Act.put, List.setIfInBounds_toArray, List.set_cons_succ, List.set_cons_zero])) | go_values | go_skip | go_guarded | go_step | go_upon | go_back | (dsimp only)))
        have HG2 := grown_row (grown_trans HG hg1) hg2 (fun g hg => (hO.lt g hg).1)
        refine ⟨⟨k + 1, xs ++ [x], q, by omega, by go_num, by simp; omega, ?_, HM3, h0', h1', ?_, ?_, HG2⟩, by simp [intOf]; omega⟩
        · rw [List.flatMap_append, List.length_append]
          exact hO2
        · exact keep_at hg2 hR1 (fun e => hob2 e.symm)
        · exact ⟨hI.sl, hI.rb, Below.grown (hI.grown hg1).below hg2 (hI.grown hg1).below.size (fun g hg => by have := (hO.lt g hg).1; have := hI.rb; omega), hI.byte, hI.pos, hI.len⟩
      · obtain rfl : M = .err E q := by rw [hM2.out]; exact many_err xs hr.out
        (repeat (first | with_reducible refine xThenN ?_ | with_reducible refine xThenE ?_ | with_reducible refine xThenR ?_ | with_reducible refine xThenP ?_ | with_reducible refine xBlockEq ?_ | with_reducible refine xBlockNe rfl ?_ | with_reducible refine xBlockN ?_ | with_reducible refine xBlockR ?_ | with_reducible refine xBlockP ?_ | (go_at_call 45; (with_reducible refine (pre1_err w0 vb b Rb bx p _ hI hR hbc h0 h1 E q hr).mono ?_); rintro e w1 ⟨rfl, hg1⟩) | go_values | go_skip | go_guarded | go_step | go_upon | go_back | (dsimp only)))
        exact ⟨rfl, grown_trans HG hg1, rfl⟩
    · have hkk : N - k = 0 := by omega
      obtain rfl : M = .ok xs p := by rw [hM2.out, hkk]; simp [manyP, resume]
      (repeat (first | with_reducible refine xThenN ?_ | with_reducible refine xThenE ?_ | with_reducible refine xThenR ?_ | with_reducible refine xThenP ?_ | with_reducible refine xBlockEq ?_ | with_reducible refine xBlockNe rfl ?_ | with_reducible refine xBlockN ?_ | with_reducible refine xBlockR ?_ | with_reducible refine xBlockP ?_ | go_values | go_skip | go_guarded | go_step | go_upon | go_back | (dsimp only)))
      go_ret
      rw [hM.out]
      exact ⟨HG, _, rfl, SlT.ofOwns (fun _ => rfl) hO, hR⟩

theorem nodeP_n {b : List Int} {p p' : Int} {d : Nd} (hb : ByteL b) (h : nodeP b p = .ok d p') (h0 : 0 ≤ p) : 0 ≤ p' ∧ p' ≤ b.length := by
  unfold nodeP at h
  split at h
  · cases h
  rename_i x0 p0 e0
  have k0 := numP_n hb e0 h0 (by decide)
  split at h
  · cases h
  rename_i x1 p1 e1
  have k1 := numP_n hb e1 k0.1 (by decide)
  split at h
  · cases h
  rename_i x2 p2 e2
  have k2 := numP_n hb e2 k1.1 (by decide)
  split at h
  · cases h
  rename_i x3 p3 e3
  have k3 := numP_n hb e3 k2.1 (by decide)
  split at h
  · cases h
  rename_i x4 p4 e4
  have k4 := numP_n hb e4 k3.1 (by decide)
  split at h
  · cases h
  rename_i x5 p5 e5
  have k5 := numP_n hb e5 k4.1 (by decide)
  injection h with h1 h2
  subst h2
  exact ⟨k5.1, k5.2.1⟩

theorem rnode_ok (w0 : World) (vb : Value) (b : List Int) (Rb : Nat) (at' : Int) (w : World) (hI : RIn w0 vb b Rb w) (hR : RD w Rb vb at') (h0 : 0 ≤ at') (h1 : at' ≤ b.length) (x0 x1 x2 x3 x4 x5 p : Int) (hr : Hid (nodeP b at' = .ok ⟨x0, x1, x2, x3, x4, x5⟩ p)) :
    Calls Try.prog 47 #[.pointer (some ⟨Rb, 0, none⟩)] w fun e w' => e = .returned (.agg #[.int .i64 x0, .int .i64 x1, .int .u64 x2, .int .i64 x3, .int .i64 x4, .int .i64 x5]) ∧ w.grownBy w' (some Rb) ∧ RD w' Rb vb p := by
  have := rnode_any w0 vb b Rb at' w hI hR h0 h1
  rw [hr.out] at this
  exact this.mono fun e w' h => ⟨h.2.1, h.1, h.2.2⟩
theorem rnode_err (w0 : World) (vb : Value) (b : List Int) (Rb : Nat) (at' : Int) (w : World) (hI : RIn w0 vb b Rb w) (hR : RD w Rb vb at') (h0 : 0 ≤ at') (h1 : at' ≤ b.length) (E p : Int) (hr : Hid (nodeP b at' = .err E p)) :
    Calls Try.prog 47 #[.pointer (some ⟨Rb, 0, none⟩)] w fun e w' => e = stopped E p ∧ w.grownBy w' (some Rb) := by
  have := rnode_any w0 vb b Rb at' w hI hR h0 h1
  rw [hr.out] at this
  exact this.mono fun e w' h => ⟨h.2, h.1⟩

set_option maxRecDepth 100000 in
set_option maxHeartbeats 2000000 in
theorem listnode_any (w0 : World) (vb : Value) (b : List Int) (Rb : Nat) (at0 : Int) (N : Nat) (hN : N ≤ 65536) (w : World) (hI : RIn w0 vb b Rb w) (hR : RD w Rb vb at0) (h0 : 0 ≤ at0) (h1 : at0 ≤ b.length) :
    Calls Try.prog 46 #[.int .u64 N, .func (Fn.func 47) #[.pointer (some ⟨Rb, 0, none⟩)] #[]] w (LDone 49 6 Nd.cells w Rb vb (manyP (nodeP b) N at0)) := by
  have hlt := lt_of_block hR
  obtain ⟨i0, hi0, hz0, hz1, hz2⟩ := info_parts info49'
  go_enter Try.func46, Try.ntmps46
  (repeat (first | with_reducible refine xThenN ?_ | with_reducible refine xThenE ?_ | with_reducible refine xThenR ?_ | with_reducible refine xThenP ?_ | with_reducible refine xBlockEq ?_ | with_reducible refine xBlockNe rfl ?_ | with_reducible refine xBlockN ?_ | with_reducible refine xBlockR ?_ | with_reducible refine xBlockP ?_ | go_values | go_skip | go_guarded | go_step | go_upon | go_back | (dsimp only)))
  obtain ⟨M, hM⟩ : ∃ M, Hid (manyP (nodeP b) N at0 = M) := ⟨_, Lib.hid rfl⟩
  rw [hM.out]
  go_loopw [5, 7] (fun v i wr => ∃ (k : Nat) (xs : List Nd) (p : Int), k ≤ N ∧ i = .int .u64 k ∧ xs.length ≤ k ∧ wr.ownsRow w.heap.size 49 6 v xs.length (xs.flatMap Nd.cells) ∧ Hid (M = resume xs (manyP (nodeP b) (N - k) p)) ∧ 0 ≤ p ∧ p ≤ b.length ∧ RD wr Rb vb p ∧ RIn w0 vb b Rb wr ∧ w.grownBy wr (some Rb)) (fun _ i _ => N - (intOf i).toNat)
  case atStart => exact ⟨0, [], at0, by omega, rfl, by simp, World.ownsRow_nil _ _ _ _, Lib.hid (by rw [resume_nil]; exact hM.out.symm), h0, h1, hR, hI, grown_refl _ _⟩
  case round =>
    clear h0 h1 hR hI
    obtain ⟨k, xs, p, hk, rfl, hxk, hO, hM2, h0, h1, hR, hI, HG⟩ := hrel
    have hsz := HG.size
    have hob2 : u5.ownBlock ≠ some Rb := by
      intro e
      have := (hO.lt Rb e).1
      omega
    have hob := Or.inr (a := u5.ownBlock = none) hob2
    have hp63 : (k : Int) + 1 ≤ 65536 ∨ k = N := by omega
    rcases Nat.lt_or_ge k N with hlt1 | hge
    · obtain ⟨r, hr⟩ : ∃ r, Hid (nodeP b p = r) := ⟨_, Lib.hid rfl⟩
      have eN : N - k = (N - (k + 1)) + 1 := by omega
      rw [eN] at hM2
      clear eN hp63
      rcases r with ⟨x, q⟩ | ⟨E, q⟩
      · obtain ⟨x0, x1, x2, x3, x4, x5⟩ := x
        have hM3 := hM2.out
        rw [many_ok xs (one := nodeP b) (p := p) hr.out] at hM3
        have HM3 := Lib.hid hM3
        clear hM3 hM2
        obtain ⟨h0', h1'⟩ := nodeP_n hI.byte hr.out h0
        (repeat (first | with_reducible refine xThenN ?_ | with_reducible refine xThenE ?_ | with_reducible refine xThenR ?_ | with_reducible refine xThenP ?_ | with_reducible refine xBlockEq ?_ | with_reducible refine xBlockNe rfl ?_ | with_reducible refine xBlockN ?_ | with_reducible refine xBlockR ?_ | with_reducible refine xBlockP ?_ | (go_at_call 47; (with_reducible refine (rnode_ok w0 vb b Rb p _ hI hR h0 h1 x0 x1 x2 x3 x4 x5 q hr).mono ?_); rintro e w1 ⟨rfl, hg1, hR1⟩) | (at_builtin; refine wl_append_lit rfl _ _ 41 rfl w.heap.size 49 i0 _ 6 48 Try.underlying41 hi0 hz0 hz1 hz2 rfl (by decide) u5 _ _ w1 (by rfl) (hO.kept hg1 hob) [.int .i64 x0, .int .i64 x1, .int .u64 x2, .int .i64 x3, .int .i64 x4, .int .i64 x5] (by rfl) rfl (by intro u hu; simp at hu; rcases hu with rfl | rfl | rfl | rfl | rfl | rfl <;> rfl) (by omega) (by decide) (by have := hg1.size; omega) ?_; intro v2 w2 hO2 hg2; (try simp only [Act.put, List.setIfInBounds_toArray, List.set_cons_succ, List.set_cons_zero])) | go_values | go_skip | go_guarded | go_step | go_upon | go_back | (dsimp only)))
        have HG2 := grown_row (grown_trans HG hg1) hg2 (fun g hg => (hO.lt g hg).1)
        refine ⟨⟨k + 1, xs ++ [⟨x0, x1, x2, x3, x4, x5⟩], q, by omega, by go_num, by simp; omega, ?_, HM3, h0', h1', ?_, ?_, HG2⟩, by simp [intOf]; omega⟩
        · rw [List.flatMap_append, List.length_append]
          exact hO2
        · exact keep_at hg2 hR1 (fun e => hob2 e.symm)
        · exact ⟨hI.sl, hI.rb, Below.grown (hI.grown hg1).below hg2 (hI.grown hg1).below.size (fun g hg => by have := (hO.lt g hg).1; have := hI.rb; omega), hI.byte, hI.pos, hI.len⟩
      · obtain rfl : M = .err E q := by rw [hM2.out]; exact many_err xs hr.out
        (repeat (first | with_reducible refine xThenN ?_ | with_reducible refine xThenE ?_ | with_reducible refine xThenR ?_ | with_reducible refine xThenP ?_ | with_reducible refine xBlockEq ?_ | with_reducible refine xBlockNe rfl ?_ | with_reducible refine xBlockN ?_ | with_reducible refine xBlockR ?_ | with_reducible refine xBlockP ?_ | (go_at_call 47; (with_reducible refine (rnode_err w0 vb b Rb p _ hI hR h0 h1 E q hr).mono ?_); rintro e w1 ⟨rfl, hg1⟩) | go_values | go_skip | go_guarded | go_step | go_upon | go_back | (dsimp only)))
        exact ⟨rfl, grown_trans HG hg1, rfl⟩
    · have hkk : N - k = 0 := by omega
      obtain rfl : M = .ok xs p := by rw [hM2.out, hkk]; simp [manyP, resume]
      (repeat (first | with_reducible refine xThenN ?_ | with_reducible refine xThenE ?_ | with_reducible refine xThenR ?_ | with_reducible refine xThenP ?_ | with_reducible refine xBlockEq ?_ | with_reducible refine xBlockNe rfl ?_ | with_reducible refine xBlockN ?_ | with_reducible refine xBlockR ?_ | with_reducible refine xBlockP ?_ | go_values | go_skip | go_guarded | go_step | go_upon | go_back | (dsimp only)))
      go_ret
      rw [hM.out]
      exact ⟨HG, _, rfl, SlT.ofOwns (fun _ => rfl) hO, hR⟩

end Go.Proofs.Ytcffgbmgjdhkjaa
