import Derived.Test.YtcffgbmgjdhkjaaAU
set_option linter.unusedSimpArgs false
set_option linter.unusedVariables false
namespace Go.Proofs.Ytcffgbmgjdhkjaa
open Go.RowKit

theorem st40 (g i : Nat) (cs : Array Value) (t : TypeId) (a : Option Addr) (n c : Nat) (hi : i < cs.size) (w : World) (hg : w.heap[g]? = some (.cells cs t (0, 0))) :
    (Instr.storeAt 40 (.pointer (some ⟨g, i, none⟩)) (.slice a n c)).run Try.prog w = .ok () (w.setCell ⟨g, i, none⟩ (.slice a n c)) := by
  have hc : w.cell? ⟨g, i, none⟩ = some cs[i] := by rw [cell_of_row w g i cs t _ hg]; simp [hi]
  have hf := frozen_of_row w g i cs t hg
  go_simp
theorem owns_below {w w' : World} {base T s n : Nat} {v : Value} {xs : List Value} (hO : w.ownsRow base T s v n xs) (hb : Below w.heap.size w w') : w'.ownsRow base T s v n xs :=
  hO.kept (grown_below (r := some w.heap.size) hb) (.inr (fun e => by have := (hO.lt _ e).2; omega))
theorem owns_form {w : World} {base T s n : Nat} {v : Value} {xs : List Value} (hO : w.ownsRow base T s v n xs) : ∃ (a : Option Addr) (m c : Nat), v = .slice a m c := by
  rcases hO.2 with ⟨rfl, _⟩ | ⟨g, c, cur, rfl, _⟩
  · exact ⟨_, _, _, rfl⟩
  · exact ⟨_, _, _, rfl⟩
theorem box4g {w : World} {g : Nat} {T : TypeId} {a b c d : Value} (H : w.heap[g]? = some (.cells #[a, b, c, d] T (0, 0))) :
    w.cell? ⟨g, 0, none⟩ = some a ∧ w.cell? ⟨g, 1, none⟩ = some b ∧ w.cell? ⟨g, 2, none⟩ = some c ∧ w.cell? ⟨g, 3, none⟩ = some d :=
  ⟨by simp [World.cell?, H], by simp [World.cell?, H], by simp [World.cell?, H], by simp [World.cell?, H]⟩
theorem path_step {b : List Int} {aa B a2 E2 B2 x : Int} {xs : List Int} {j : Nat} {M : PR (List Int)} (hb : ByteL b) (h : numS b (aa, 0, B) 1 0 255 = ((a2, E2, B2), x)) (h0 : 0 ≤ aa) (hM : M = resume xs (manyP (pathP b) (j + 1) aa)) :
    (E2 = 0 ∧ 0 ≤ a2 ∧ a2 ≤ b.length ∧ B2 = B ∧ M = resume (xs ++ [x]) (manyP (pathP b) j a2)) ∨ (E2 ≠ 0 ∧ M = .err E2 B2) := by
  rcases hr : numP b aa 1 0 255 with ⟨y, p⟩ | ⟨E, p⟩
  · have hn := numP_n hb hr h0 (by decide)
    rw [numS_ok hr] at h
    injection h with q1 q2
    injection q1 with q1 q3
    injection q3 with q3 q4
    subst q1; subst q2; subst q3; subst q4
    exact .inl ⟨rfl, hn.1, hn.2.1, rfl, hM.trans (many_ok xs (one := pathP b) hr)⟩
  · rw [numS_err hr] at h
    injection h with q1 q2
    injection q1 with q1 q3
    injection q3 with q3 q4
    subst q1; subst q2; subst q3; subst q4
    exact .inr ⟨numP_nz hr, hM.trans (many_err xs (one := pathP b) hr)⟩

/-- the stage's answer: the numbers read, or where it failed -/
def pathM (b : List Int) (a : Int) : PR (List Int) := match numP b a 1 1 65 with
  | .err E q => .err E q
  | .ok n p0 => manyP (pathP b) n.toNat p0
def pathN (b : List Int) (a : Int) : Nat := match numP b a 1 1 65 with
  | .err _ _ => 0
  | .ok n _ => n.toNat
theorem path_start {b : List Int} {a B a1 E1 B1 n : Int} (hb : ByteL b) (h : numS b (a, 0, B) 1 1 65 = ((a1, E1, B1), n)) (h0 : 0 ≤ a) :
    n = (pathN b a : Int) ∧ ((E1 = 0 ∧ 0 ≤ a1 ∧ a1 ≤ b.length ∧ B1 = B ∧ pathM b a = resume [] (manyP (pathP b) (pathN b a) a1)) ∨ (E1 ≠ 0 ∧ pathM b a = .err E1 B1)) := by
  unfold pathM pathN
  rcases hr : numP b a 1 1 65 with ⟨x, p⟩ | ⟨E, p⟩
  · have hn := numP_n hb hr h0 (by decide)
    rw [numS_ok hr] at h
    injection h with q1 q2
    injection q1 with q1 q3
    injection q3 with q3 q4
    subst q1; subst q2; subst q3; subst q4
    dsimp only
    exact ⟨by omega, .inl ⟨rfl, hn.1, hn.2.1, rfl, (resume_nil _).symm⟩⟩
  · rw [numS_err hr] at h
    injection h with q1 q2
    injection q1 with q1 q3
    injection q3 with q3 q4
    subst q1; subst q2; subst q3; subst q4
    exact ⟨rfl, .inr ⟨numP_nz hr, rfl⟩⟩
theorem pathN_le {b : List Int} {a : Int} (hb : ByteL b) (h0 : 0 ≤ a) : pathN b a ≤ 65 := by
  unfold pathN
  rcases hr : numP b a 1 1 65 with ⟨x, p⟩ | ⟨E, p⟩
  · have hn := numP_n hb hr h0 (by decide)
    dsimp only; omega
  · simp

theorem pre_err1 {b : List Int} {a E p : Int} (h : pathM b a = .err E p) : preP b a = .err E p := by
  unfold pathM at h
  unfold preP
  split at h
  · rename_i e0; rw [e0]; dsimp only; injection h with h1 h2; subst h1; subst h2; rfl
  · rename_i n p0 e0; rw [e0]; dsimp only; rw [h]

theorem res27 (tmps : Array Value) (w : World) (g h : Nat) (cs ds : Array Value) (h2 : tmps.getD 2 undef = .pointer (some ⟨g, 0, none⟩)) (h3 : tmps.getD 3 undef = .pointer (some ⟨h, 0, none⟩)) (HO : w.heap[g]? = some (.cells cs 56 (0, 0))) (HP : w.heap[h]? = some (.cells ds 43 (0, 0))) (hs : cs.size = 4) (hd : ds.size = 3) :
    (results Try.f27 tmps).run Try.prog w = .ok (.tuple #[.agg cs, .agg ds]) w := by
  have h2' : tmps[2]?.getD undef = .pointer (some ⟨g, 0, none⟩) := by simpa using h2
  have h3' : tmps[3]?.getD undef = .pointer (some ⟨h, 0, none⟩) := by simpa using h3
  have r1 := run_loadVar_row (P := Try.prog) w g 56 56 cs (0, 0) _ HO Try.underlying56 rfl (by rw [hs]; exact size56)
  have r2 := run_loadVar_row (P := Try.prog) w h 43 43 ds (0, 0) _ HP Try.underlying43 rfl (by rw [hd]; exact size43)
  simp [results, Try.results27, h2', h3', asAddr, r1, r2]

theorem own_type {w : World} {base T s n k : Nat} {v : Value} {xs : List Value} {cur : Array Value} {U : TypeId} {fr : Nat × Nat} (hO : w.ownsRow base T s v n xs) (e : some k = v.ownBlock) (hk : w.heap[k]? = some (Obj.cells cur U fr)) (hne : U ≠ T) : False := by
  rcases hO.2 with ⟨rfl, _⟩ | ⟨g, c, cu, rfl, _, hh, _⟩
  · cases e
  · simp only [Value.ownBlock, Option.some.injEq] at e
    subst e
    rw [hh] at hk
    simp at hk
    exact hne hk.2.1.symm
def termM (b : List Int) (a : Int) : PR (List Nd) := match numP b a 3 1 65536 with
  | .err E q => .err E q
  | .ok n p0 => manyP (nodeP b) n.toNat p0
def termN (b : List Int) (a : Int) : Nat := match numP b a 3 1 65536 with
  | .err _ _ => 0
  | .ok n _ => n.toNat
theorem term_start {b : List Int} {a B a1 E1 B1 n : Int} (hb : ByteL b) (h : numS b (a, 0, B) 3 1 65536 = ((a1, E1, B1), n)) (h0 : 0 ≤ a) :
    n = (termN b a : Int) ∧ ((E1 = 0 ∧ 0 ≤ a1 ∧ a1 ≤ b.length ∧ B1 = B ∧ termM b a = resume [] (manyP (nodeP b) (termN b a) a1)) ∨ (E1 ≠ 0 ∧ termM b a = .err E1 B1)) := by
  unfold termM termN
  rcases hr : numP b a 3 1 65536 with ⟨x, p⟩ | ⟨E, p⟩
  · have hn := numP_n hb hr h0 (by decide)
    rw [numS_ok hr] at h
    injection h with q1 q2
    injection q1 with q1 q3
    injection q3 with q3 q4
    subst q1; subst q2; subst q3; subst q4
    dsimp only
    exact ⟨by omega, .inl ⟨rfl, hn.1, hn.2.1, rfl, (resume_nil _).symm⟩⟩
  · rw [numS_err hr] at h
    injection h with q1 q2
    injection q1 with q1 q3
    injection q3 with q3 q4
    subst q1; subst q2; subst q3; subst q4
    exact ⟨rfl, .inr ⟨numP_nz hr, rfl⟩⟩
theorem termN_le {b : List Int} {a : Int} (hb : ByteL b) (h0 : 0 ≤ a) : termN b a ≤ 65536 := by
  unfold termN
  rcases hr : numP b a 3 1 65536 with ⟨x, p⟩ | ⟨E, p⟩
  · have hn := numP_n hb hr h0 (by decide)
    dsimp only; omega
  · simp
/-- what a node's reading leaves -/
def NdLeft (b : List Int) (a B a' E' B' y0 y1 y2 y3 y4 y5 : Int) : Prop := match nodeP b a with
  | .ok d p => a' = p ∧ E' = 0 ∧ B' = B ∧ d = ⟨y0, y1, y2, y3, y4, y5⟩
  | .err E p => E' = E ∧ B' = p ∧ E ≠ 0
theorem snode_any (ao : Option Addr) (c : Nat) (b : List Int) (a B : Int) (w : World) (hI : SIn w (.slice ao b.length c) b) (ha : 0 ≤ a ∧ a ≤ b.length) :
    Calls Try.prog 40 #[src ao b.length c a 0 B] w fun en w' => ∃ a' E' B' y0 y1 y2 y3 y4 y5 : Int, en = .returned (.tuple #[src ao b.length c a' E' B', .agg #[.int .i64 y0, .int .i64 y1, .int .u64 y2, .int .i64 y3, .int .i64 y4, .int .i64 y5]]) ∧ Below w.heap.size w w' ∧ Hid (NdLeft b a B a' E' B' y0 y1 y2 y3 y4 y5) := by
  rcases hr : nodeP b a with ⟨⟨x0, x1, x2, x3, x4, x5⟩, p⟩ | ⟨E, p⟩
  · exact (snode_ok ao c b a B w hI ha _ _ _ _ _ _ _ (Lib.hid hr)).mono fun en w' h => ⟨_, _, _, _, _, _, _, _, _, h.1, h.2, Lib.hid (by unfold NdLeft; rw [hr]; exact ⟨rfl, rfl, rfl, rfl⟩)⟩
  · exact (snode_err ao c b a B w hI ha _ _ (Lib.hid hr)).mono fun en w' ⟨a', y0, y1, y2, y3, y4, y5, h⟩ => ⟨_, _, _, _, _, _, _, _, _, h.1, h.2, Lib.hid (by unfold NdLeft; rw [hr]; exact ⟨rfl, rfl, nodeP_nz hr⟩)⟩
theorem term_step {b : List Int} {aa B a2 E2 B2 y0 y1 y2 y3 y4 y5 : Int} {xs : List Nd} {j : Nat} {M : PR (List Nd)} (hb : ByteL b) (h : NdLeft b aa B a2 E2 B2 y0 y1 y2 y3 y4 y5) (h0 : 0 ≤ aa) (hM : M = resume xs (manyP (nodeP b) (j + 1) aa)) :
    (E2 = 0 ∧ 0 ≤ a2 ∧ a2 ≤ b.length ∧ B2 = B ∧ M = resume (xs ++ [⟨y0, y1, y2, y3, y4, y5⟩]) (manyP (nodeP b) j a2)) ∨ (E2 ≠ 0 ∧ M = .err E2 B2) := by
  unfold NdLeft at h
  rcases hr : nodeP b aa with ⟨d, p⟩ | ⟨E, p⟩
  · rw [hr] at h
    obtain ⟨rfl, rfl, rfl, rfl⟩ := h
    have hn := nodeP_n hb hr h0
    exact .inl ⟨rfl, hn.1, hn.2, rfl, hM.trans (many_ok xs (one := nodeP b) hr)⟩
  · rw [hr] at h
    obtain ⟨rfl, rfl, hz⟩ := h
    exact .inr ⟨hz, hM.trans (many_err xs (one := nodeP b) hr)⟩
theorem pre_err2 {b : List Int} {a p1 E p : Int} {path : List Int} (h : pathM b a = .ok path p1) (h2 : termM b p1 = .err E p) : preP b a = .err E p := by
  unfold pathM at h
  unfold termM at h2
  unfold preP
  split at h
  · cases h
  · rename_i n p0 e0; rw [e0]; dsimp only; rw [h]; dsimp only
    split at h2
    · rename_i e1; rw [e1]; dsimp only; injection h2 with h3 h4; subst h3; subst h4; rfl
    · rename_i e1; rw [e1]; dsimp only; rw [h2]

theorem term_wf {b : List Int} (hb : ByteL b) {a : Int} {ts : List Nd} {p : Int} (h : termM b a = .ok ts p) (h0 : 0 ≤ a) : ∀ d ∈ ts, NdWf d := by
  unfold termM at h
  split at h
  · cases h
  · rename_i e0
    exact nodes_wf hb _ _ _ _ h (numP_n hb e0 h0 (by decide)).1
theorem pre_more {b : List Int} {a p1 p3 : Int} {path : List Int} {ts : List Nd} (h : pathM b a = .ok path p1) (h2 : termM b p1 = .ok ts p3) : preP b a = if quest ts ≠ 0 then .err (quest ts) p1 else match numP b p3 1 0 16 with
    | .err E q => .err E q
    | .ok l p4 => if b.length - p4 < l then .err 1 b.length else .ok ⟨path, ts, SubB b p4.toNat l.toNat⟩ (p4 + l) := by
  unfold pathM at h
  unfold termM at h2
  unfold preP
  split at h
  · cases h
  · rename_i n p0 e0; rw [e0]; dsimp only; rw [h]; dsimp only
    split at h2
    · cases h2
    · rename_i e1; rw [e1]; dsimp only; rw [h2]; rfl

/-- how the reading of a precondition ends -/
def SPre (w : World) (ao : Option Addr) (n c : Nat) (B : Int) (r : PR Pr) (e : Ending) (w' : World) : Prop :=
  Below w.heap.size w w' ∧ match r with
    | .ok x p => ∃ a1 n1 c1 a2 n2 c2 a3 n3 c3, e = .returned (.tuple #[src ao n c p 0 B, .agg #[.slice a1 n1 c1, .slice a2 n2 c2, .slice a3 n3 c3]]) ∧ PrT w' (.slice a1 n1 c1, .slice a2 n2 c2, .slice a3 n3 c3) x
    | .err E p => ∃ a' a1 n1 c1 a2 n2 c2 a3 n3 c3, e = .returned (.tuple #[src ao n c a' E p, .agg #[.slice a1 n1 c1, .slice a2 n2 c2, .slice a3 n3 c3]])


end Go.Proofs.Ytcffgbmgjdhkjaa
