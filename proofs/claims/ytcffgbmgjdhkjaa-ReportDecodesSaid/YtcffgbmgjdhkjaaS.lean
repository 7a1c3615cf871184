import Derived.Test.YtcffgbmgjdhkjaaR
import Derived.Laws.OwnMore
import Derived.Lib.SlBytesConst
set_option linter.unusedSimpArgs false
set_option linter.unusedVariables false
namespace Go.Proofs.Ytcffgbmgjdhkjaa
open Go.RowKit

def presE : List Pr → Int
  | [] => 0
  | p :: ps => if preE p ≠ 0 then preE p else presE ps
def presB (l : List Pr) : List Int := l.flatMap preB
def repE (r : Rp) : Int :=
  if inB r.v 1 5 = false then 3 else if inB r.e 0 18 = false then 3 else if inB r.a 0 65535 = false then 3 else if 4096 < r.pres.length then 3 else presE r.pres
def repB (r : Rp) : List Int := [66, 82, 82, 80] ++ (beI r.v 1 ++ (beI r.e 1 ++ (beI r.a 2 ++ (beI r.pres.length 2 ++ presB r.pres))))
def Wrote (w : World) (r : Rp) (e : Ending) (w' : World) : Prop :=
  Below w.heap.size w w' ∧ ((repE r = 0 ∧ ∃ v', e = .returned (.tuple #[v', .int .i64 0]) ∧ Owns w' w.heap.size v' (repB r)) ∨
    (repE r ≠ 0 ∧ e = .returned (.tuple #[.slice none 0 0, .int .i64 (repE r)])))
def RpWf (r : Rp) : Prop := (-9223372036854775808 ≤ r.v ∧ r.v ≤ 9223372036854775807) ∧ (-9223372036854775808 ≤ r.e ∧ r.e ≤ 9223372036854775807) ∧ (-9223372036854775808 ≤ r.a ∧ r.a ≤ 9223372036854775807) ∧ (∀ p ∈ r.pres, PrWf p)


theorem u64_badX (x lo hi : Int) (h0 : -9223372036854775808 ≤ x) (h1 : x ≤ 9223372036854775807) (hlo : 0 ≤ lo) (hhi : hi ≤ 9223372036854775807) (hb : inB x lo hi = false) : IntKind.u64.wrap x < lo ∨ hi < IntKind.u64.wrap x := by
  have hb : ¬ (lo ≤ x ∧ x ≤ hi) := by simpa [inB] using hb
  simp only [IntKind.wrap, IntKind.signed, IntKind.bits]
  simp
  omega

theorem ld22 (w : World) (b : Nat) (x : Int) (h : w.cell? ⟨b, 0, none⟩ = some (.int .i64 x)) : (loadVar 22 ⟨b, 0, none⟩).run Try.prog w = .ok (.int .i64 x) w := by go_simp

theorem res15 (tmps : Array Value) (w : World) (v : Value) (b : Nat) (x : Int) (h2 : tmps.getD 2 undef = v) (h3 : tmps.getD 3 undef = .pointer (some ⟨b, 0, none⟩)) (hc : w.cell? ⟨b, 0, none⟩ = some (.int .i64 x)) :
    (results Try.f15 tmps).run Try.prog w = .ok (.tuple #[v, .int .i64 x]) w := by
  have h2' : tmps[2]?.getD undef = v := by simpa using h2
  have h3' : tmps[3]?.getD undef = .pointer (some ⟨b, 0, none⟩) := by simpa using h3
  simp [results, Try.results15, h2', h3', asAddr, ld22 w b x hc]

theorem door_panic15 {R : Ending → World → Prop} {tmps : Array Value} {w1 : World} {b : Nat} {x E : Int} (h2 : tmps.getD 2 undef = .slice none 0 0) (h3 : tmps.getD 3 undef = .pointer (some ⟨b, 0, none⟩))
    (HE : w1.heap[b]? = some (.cells #[.int .i64 x] 22 (0, 0))) (h : ∀ w2, Below w1.heap.size w1 w2 → R (.returned (.tuple #[.slice none 0 0, .int .i64 E])) (w2.setCell ⟨b, 0, none⟩ (.int .i64 E))) :
    bodyPostD Try.prog Try.f15 R (Exit.panic [{ v := .iface 76 (.agg #[.int .i64 E, .int .i64 0]), recovered := false }]) { tmps := tmps, defers := [{ target := Target.fn (Fn.func 29) #[.pointer (some ⟨b, 0, none⟩)], args := #[] }] } w1 := by
  refine leaves_cons (f := 29) (args := #[.pointer (some ⟨b, 0, none⟩)]) (by simp) (by simp [go_sem]) ?_
  refine (catch_stop ⟨b, 0, none⟩ x E 0 [] _ (cell_of_one HE) (free_of_one HE)).mono ?_
  rintro e u' w'' ⟨rfl, rfl, w2, hb, rfl⟩
  have HE2 := (hb.block _ (lt_of_block HE)).trans HE
  exact ⟨_, res15 _ _ _ _ _ h2 h3 (cell_of_one (one_setCell HE2)), h w2 hb⟩

theorem door_ret15 {R : Ending → World → Prop} {tmps : Array Value} {w1 : World} {b : Nat} {v : Value} {x : Int} (h2 : tmps.getD 2 undef = v) (h3 : tmps.getD 3 undef = .pointer (some ⟨b, 0, none⟩))
    (HE : w1.heap[b]? = some (.cells #[.int .i64 x] 22 (0, 0))) (h : R (.returned (.tuple #[v, .int .i64 x])) w1) :
    bodyPostD Try.prog Try.f15 R Exit.ret { tmps := tmps, defers := [{ target := Target.fn (Fn.func 29) #[.pointer (some ⟨b, 0, none⟩)], args := #[] }] } w1 := by
  refine leaves_cons (f := 29) (args := #[.pointer (some ⟨b, 0, none⟩)]) (by simp) (by simp [go_sem]) ?_
  refine (catch_idle ⟨b, 0, none⟩ _).mono ?_
  rintro e u' w'' ⟨rfl, rfl, rfl⟩
  exact ⟨_, res15 _ _ _ _ _ h2 h3 (cell_of_one HE), h⟩

theorem cells4 {w : World} {b : Nat} {c0 c1 c2 c3 : Value} {t : TypeId} (h : w.heap[b]? = some (.cells #[c0, c1, c2, c3] t (0, 0))) :
    w.cell? ⟨b, 0, none⟩ = some c0 ∧ w.cell? ⟨b, 1, none⟩ = some c1 ∧ w.cell? ⟨b, 2, none⟩ = some c2 ∧ w.cell? ⟨b, 3, none⟩ = some c3 := by
  simp [World.cell?, h]

theorem presB_len (l : List Pr) (h : ∀ p ∈ l, prFew p = true) : (presB l).length ≤ 10000 * l.length := by
  induction l with
  | nil => simp [presB]
  | cons p l ih =>
    have h1 := ih (fun q hq => h q (by simp [hq]))
    have h2 : p.path.length ≤ 80 ∧ p.term.length ≤ 400 ∧ p.input.length ≤ 40 := by simpa [prFew] using h p (by simp)
    have h3 : (preB p).length = 1 + (p.path.length + (3 + (19 * p.term.length + (1 + p.input.length)))) := by
      simp only [preB, List.length_append, beI_len, pathB_len, termB_len]
    simp only [presB, List.flatMap_cons, List.length_append, List.length_cons] at h1 ⊢
    omega
/-- no more than fits the bounds of the walks -/
def medB (ps : List Pr) : Prop := ps.length ≤ 4096 ∧ (∀ p ∈ ps, prMed p) ∧ (presB ps).length ≤ 900000
theorem few_med {ps : List Pr} (h : fewB ps = true) : medB ps := by
  unfold fewB at h
  simp only [Bool.and_eq_true, List.all_eq_true, decide_eq_true_eq] at h
  refine ⟨by omega, fun p hp => ?_, ?_⟩
  · have h2 : p.path.length ≤ 80 ∧ p.term.length ≤ 400 ∧ p.input.length ≤ 40 := by simpa [prFew] using h.2 p hp
    exact ⟨by omega, by omega, by omega⟩
  · have := presB_len ps h.2
    omega
theorem presB_take (ps : List Pr) (k : Nat) : (presB (ps.take k)).length ≤ (presB ps).length := by
  have e : presB ps = presB (ps.take k) ++ presB (ps.drop k) := by
    unfold presB
    rw [← List.flatMap_append, List.take_append_drop]
  rw [e, List.length_append]
  omega

theorem wpre_ok (w0 : World) (t1 t2 t3 : Value) (p : Pr) (hP : PrIn w0 (t1, t2, t3) p) (hwf : PrWf p) (hf : prMed p) (Wb : Nat) (v : Value) (bs : List Int) (w : World) (hB : Below w0.heap.size w0 w)
    (hW : WR w Wb w0.heap.size v bs) (hbw : w0.heap.size ≤ Wb) (hl : bs.length ≤ 800000000) (hE : preE p = 0) :
    Calls Try.prog 32 #[.pointer (some ⟨Wb, 0, none⟩), .agg #[t1, t2, t3]] w fun e w' => e = .returned (.tuple #[]) ∧ WKeep w0.heap.size Wb w w' ∧ ∃ v', WR w' Wb w0.heap.size v' (bs ++ preB p) := by
  refine (wpre_any w0 t1 t2 t3 p hP hwf hf Wb v bs w hB hW hbw hl).mono ?_
  rintro e w' ⟨hk, h | h⟩
  · exact ⟨h.2.1, hk, h.2.2⟩
  · exact absurd hE h.1
theorem wpre_no (w0 : World) (t1 t2 t3 : Value) (p : Pr) (hP : PrIn w0 (t1, t2, t3) p) (hwf : PrWf p) (hf : prMed p) (Wb : Nat) (v : Value) (bs : List Int) (w : World) (hB : Below w0.heap.size w0 w)
    (hW : WR w Wb w0.heap.size v bs) (hbw : w0.heap.size ≤ Wb) (hl : bs.length ≤ 800000000) (E : Int) (hE : Hid (preE p = E)) (hz : Hid (E ≠ 0)) :
    Calls Try.prog 32 #[.pointer (some ⟨Wb, 0, none⟩), .agg #[t1, t2, t3]] w fun e w' => e = stopped E 0 ∧ WKeep w0.heap.size Wb w w' := by
  refine (wpre_any w0 t1 t2 t3 p hP hwf hf Wb v bs w hB hW hbw hl).mono ?_
  rintro e w' ⟨hk, h | h⟩
  · exact absurd (hE.out.symm.trans h.1) hz.out
  · exact ⟨by rw [h.2, hE.out], hk⟩

theorem Wrote.no {w w1 : World} {r : Rp} {E : Int} {b : Nat} {x : Value} (hB : Below w.heap.size w w1) (hb : w.heap.size ≤ b) (hE : repE r = E) (hz : E ≠ 0) : Wrote w r (.returned (.tuple #[.slice none 0 0, .int .i64 E])) (w1.setCell ⟨b, 0, none⟩ x) := by
  subst hE
  exact ⟨Below.setCell hB hb _, .inr ⟨hz, rfl⟩⟩


set_option maxRecDepth 100000 in
set_option maxHeartbeats 2000000 in
theorem written_any (r : Rp) (v : Value) (w : World) (hP : PresIn w v r.pres) (hwf : RpWf r) (hf : medB r.pres) :
    Calls Try.prog 15 #[.agg #[.int .i64 r.v, .int .i64 r.e, .int .i64 r.a, v]] w (Wrote w r) := by
  have hmf : ∀ (fn : Fn) (first cap : Array Value) (w : World), (Instr.makeFunc fn first cap).run Try.prog w = .ok (.func fn first cap) w := fun _ _ _ _ => rfl
  obtain ⟨rv, re, ra, ps⟩ := r
  obtain ⟨⟨b0, b1⟩, ⟨b2, b3⟩, ⟨b4, b5⟩, hps⟩ := hwf
  dsimp only at b0 b1 b2 b3 b4 b5 hps hP hf ⊢
  obtain ⟨vs, hS, hvl, hPs⟩ := hP
  have Hvl := Lib.hid hvl
  have HPs := Lib.hid hPs
  clear hvl hPs
  obtain ⟨av, mv, rfl⟩ := hS.shape
  have kc : (convert 28 28 (.slice (some ⟨w.heap.size + 1 + 1, 0, none⟩) 4 4)).run Try.prog (((w.alloc (.cells #[.int .i64 rv, .int .i64 re, .int .i64 ra, .slice av vs.length mv] 25)).alloc (.cells #[.int .i64 0] 22)).alloc (.cells #[.int .u8 66, .int .u8 82, .int .u8 82, .int .u8 80] 5)) = .ok (.slice (some ⟨w.heap.size + 1 + 1, 0, none⟩) 4 4) (((w.alloc (.cells #[.int .i64 rv, .int .i64 re, .int .i64 ra, .slice av vs.length mv] 25)).alloc (.cells #[.int .i64 0] 22)).alloc (.cells #[.int .u8 66, .int .u8 82, .int .u8 82, .int .u8 80] 5 (4, 5))) := by
    have := Lib.run_convert_bytes_const (P := Try.prog) ((w.alloc (.cells #[.int .i64 rv, .int .i64 re, .int .i64 ra, .slice av vs.length mv] 25)).alloc (.cells #[.int .i64 0] 22)) 28 5 #[.int .u8 66, .int .u8 82, .int .u8 82, .int .u8 80] 4 4 Try.underlying28 Try.underlying5
    simpa using this
  obtain ⟨W4, hW4⟩ : ∃ W4, W4 = (((w.alloc (.cells #[.int .i64 rv, .int .i64 re, .int .i64 ra, .slice av vs.length mv] 25)).alloc (.cells #[.int .i64 0] 22)).alloc (.cells #[.int .u8 66, .int .u8 82, .int .u8 82, .int .u8 80] 5 (4, 5))).alloc (.cells #[.slice (some ⟨w.heap.size + 1 + 1, 0, none⟩) 4 4] 66) := ⟨_, rfl⟩
  have hW : WR W4 (w.heap.size + 1 + 1 + 1) w.heap.size (.slice (some ⟨w.heap.size + 1 + 1, 0, none⟩) 4 4) [66, 82, 82, 80] := by
    subst hW4
    refine ⟨by simpa using heap_alloc_new (((w.alloc (.cells #[.int .i64 rv, .int .i64 re, .int .i64 ra, .slice av vs.length mv] 25)).alloc (.cells #[.int .i64 0] 22)).alloc (.cells #[.int .u8 66, .int .u8 82, .int .u8 82, .int .u8 80] 5 (4, 5))) _, .inr ⟨w.heap.size + 1 + 1, #[.int .u8 66, .int .u8 82, .int .u8 82, .int .u8 80], (4, 5), rfl, by omega, ?_, rfl, by simp⟩⟩
    rw [Below.heap_alloc _ _ _ (by simp)]
    simpa using heap_alloc_new ((w.alloc (.cells #[.int .i64 rv, .int .i64 re, .int .i64 ra, .slice av vs.length mv] 25)).alloc (.cells #[.int .i64 0] 22)) _
  have HX : W4.heap[w.heap.size]? = some (.cells #[.int .i64 rv, .int .i64 re, .int .i64 ra, .slice av vs.length mv] 25 (0, 0)) := by
    subst hW4
    rw [Below.heap_alloc _ _ _ (by simp; omega), Below.heap_alloc _ _ _ (by simp; omega), Below.heap_alloc _ _ _ (by simp)]
    exact heap_alloc_new w _
  have HE : W4.heap[w.heap.size + 1]? = some (.cells #[.int .i64 0] 22 (0, 0)) := by
    subst hW4
    rw [Below.heap_alloc _ _ _ (by simp), Below.heap_alloc _ _ _ (by simp)]
    simpa using heap_alloc_new (w.alloc (.cells #[.int .i64 rv, .int .i64 re, .int .i64 ra, .slice av vs.length mv] 25)) _
  have HK : WKeep w.heap.size (w.heap.size + 1 + 1 + 1) w W4 := by
    subst hW4
    exact ((((WKeep.refl _ _ _).alloc (Nat.le_refl _) _).alloc (by simp) _).alloc (by simp; omega) _).alloc (by simp; omega) _
  subst hW4
  have hx1 : w.heap.size ≠ w.heap.size + 1 + 1 + 1 := by omega
  have hx2 : w.heap.size + 1 ≠ w.heap.size + 1 + 1 + 1 := by omega
  have hbw : w.heap.size ≤ w.heap.size + 1 + 1 + 1 := by omega
  by_cases g1 : inB rv 1 5 = false
  · have hbad := u64_badX rv 1 5 b0 b1 (by decide) (by decide) g1
    have hE : Hid (repE ⟨rv, re, ra, ps⟩ = 3) := Lib.hid (by unfold repE; rw [if_pos g1])
    clear g1
    go_enter_defers Try.func15, Try.ntmps15
    (repeat (first | with_reducible refine xThenN ?_ | with_reducible refine xThenE ?_ | with_reducible refine xThenR ?_ | with_reducible refine xThenP ?_ | with_reducible refine xBlockEq ?_ | with_reducible refine xBlockNe rfl ?_ | with_reducible refine xBlockN ?_ | with_reducible refine xBlockR ?_ | with_reducible refine xBlockP ?_ | (go_at_call 31; (with_reducible refine (wnum_no _ _ _ _ _ _ (by omega)).mono ?_); rintro e w1 ⟨rfl, rfl⟩) | go_values | go_skip | go_guarded | go_step | go_upon | go_back | (dsimp only)))
    exact door_panic15 rfl rfl HE fun w2 hb2 => Wrote.no (HK.below.trans (hb2.mono HK.below.size)) (by omega) hE.out (by decide)
  have g1' : 1 ≤ rv ∧ rv ≤ 5 := by simpa [inB] using g1
  obtain ⟨d0, d1⟩ := g1'
  have hR1 : Hid (repE ⟨rv, re, ra, ps⟩ = if inB re 0 18 = false then 3 else if inB ra 0 65535 = false then 3 else if 4096 < ps.length then 3 else presE ps) := Lib.hid (by unfold repE; rw [if_neg g1])
  clear g1
  by_cases g2 : inB re 0 18 = false
  · have hbad := u64_badX re 0 18 b2 b3 (by decide) (by decide) g2
    have hE : Hid (repE ⟨rv, re, ra, ps⟩ = 3) := Lib.hid (by rw [hR1.out, if_pos g2])
    clear g2
    go_enter_defers Try.func15, Try.ntmps15
    (repeat (first | with_reducible refine xThenN ?_ | with_reducible refine xThenE ?_ | with_reducible refine xThenR ?_ | with_reducible refine xThenP ?_ | with_reducible refine xBlockEq ?_ | with_reducible refine xBlockNe rfl ?_ | with_reducible refine xBlockN ?_ | with_reducible refine xBlockR ?_ | with_reducible refine xBlockP ?_ | (go_at_call 31; (with_reducible refine (wnum_okX _ _ _ _ _ _ _ _ _ hW hbw (by omega) (by omega) (by omega) (by omega) (by omega) (by omega) (by (try simp only [List.length_append, beI_len, Int.reduceToNat, List.length_cons, List.length_nil]); omega)).mono ?_); rintro e w1 ⟨rfl, hk1, v1, hW1⟩; replace HX := hk1.box HX hx1 (by decide); replace HE := hk1.box HE hx2 (by decide); obtain ⟨c0, c1, c2, c3⟩ := cells4 HX; replace HK := HK.trans hk1; clear hk1 hW; have hW := hW1; clear hW1) | (go_at_call 31; (with_reducible refine (wnum_no _ _ _ _ _ _ (by omega)).mono ?_); rintro e w1 ⟨rfl, rfl⟩) | go_values | go_skip | go_guarded | go_step | go_upon | go_back | (dsimp only)))
    exact door_panic15 rfl rfl HE fun w2 hb2 => Wrote.no (HK.below.trans (hb2.mono HK.below.size)) (by omega) hE.out (by decide)
  have g2' : 0 ≤ re ∧ re ≤ 18 := by simpa [inB] using g2
  obtain ⟨d2, d3⟩ := g2'
  replace hR1 : Hid (repE ⟨rv, re, ra, ps⟩ = if inB ra 0 65535 = false then 3 else if 4096 < ps.length then 3 else presE ps) := Lib.hid (by rw [hR1.out, if_neg g2])
  clear g2
  by_cases g3 : inB ra 0 65535 = false
  · have hbad := u64_badX ra 0 65535 b4 b5 (by decide) (by decide) g3
    have hE : Hid (repE ⟨rv, re, ra, ps⟩ = 3) := Lib.hid (by rw [hR1.out, if_pos g3])
    clear g3
    go_enter_defers Try.func15, Try.ntmps15
    (repeat (first | with_reducible refine xThenN ?_ | with_reducible refine xThenE ?_ | with_reducible refine xThenR ?_ | with_reducible refine xThenP ?_ | with_reducible refine xBlockEq ?_ | with_reducible refine xBlockNe rfl ?_ | with_reducible refine xBlockN ?_ | with_reducible refine xBlockR ?_ | with_reducible refine xBlockP ?_ | (go_at_call 31; (with_reducible refine (wnum_okX _ _ _ _ _ _ _ _ _ hW hbw (by omega) (by omega) (by omega) (by omega) (by omega) (by omega) (by (try simp only [List.length_append, beI_len, Int.reduceToNat, List.length_cons, List.length_nil]); omega)).mono ?_); rintro e w1 ⟨rfl, hk1, v1, hW1⟩; replace HX := hk1.box HX hx1 (by decide); replace HE := hk1.box HE hx2 (by decide); obtain ⟨c0, c1, c2, c3⟩ := cells4 HX; replace HK := HK.trans hk1; clear hk1 hW; have hW := hW1; clear hW1) | (go_at_call 31; (with_reducible refine (wnum_okX _ _ _ _ _ _ _ _ _ hW hbw (by omega) (by omega) (by omega) (by omega) (by omega) (by omega) (by (try simp only [List.length_append, beI_len, Int.reduceToNat, List.length_cons, List.length_nil]); omega)).mono ?_); rintro e w1 ⟨rfl, hk1, v1, hW1⟩; replace HX := hk1.box HX hx1 (by decide); replace HE := hk1.box HE hx2 (by decide); obtain ⟨c0, c1, c2, c3⟩ := cells4 HX; replace HK := HK.trans hk1; clear hk1 hW; have hW := hW1; clear hW1) | (go_at_call 31; (with_reducible refine (wnum_no _ _ _ _ _ _ (by omega)).mono ?_); rintro e w1 ⟨rfl, rfl⟩) | go_values | go_skip | go_guarded | go_step | go_upon | go_back | (dsimp only)))
    exact door_panic15 rfl rfl HE fun w2 hb2 => Wrote.no (HK.below.trans (hb2.mono HK.below.size)) (by omega) hE.out (by decide)
  have g3' : 0 ≤ ra ∧ ra ≤ 65535 := by simpa [inB] using g3
  obtain ⟨d4, d5⟩ := g3'
  have hps20 : ps.length ≤ 4096 := hf.1
  replace hR1 : Hid (repE ⟨rv, re, ra, ps⟩ = presE ps) := Lib.hid (by rw [hR1.out, if_neg g3, if_neg (by omega)])
  clear g3
  have hvs0 : (0 : Int) ≤ vs.length := by omega
  have hvs1 : (vs.length : Int) ≤ 4096 := by have := Hvl.out; omega
  go_enter_defers Try.func15, Try.ntmps15
  (repeat (first | with_reducible refine xThenN ?_ | with_reducible refine xThenE ?_ | with_reducible refine xThenR ?_ | with_reducible refine xThenP ?_ | with_reducible refine xBlockEq ?_ | with_reducible refine xBlockNe rfl ?_ | with_reducible refine xBlockN ?_ | with_reducible refine xBlockR ?_ | with_reducible refine xBlockP ?_ | (go_at_call 31; (with_reducible refine (wnum_okX _ _ _ _ _ _ _ _ _ hW hbw (by omega) (by omega) (by omega) (by omega) (by omega) (by omega) (by (try simp only [List.length_append, beI_len, Int.reduceToNat, List.length_cons, List.length_nil]); omega)).mono ?_); rintro e w1 ⟨rfl, hk1, v1, hW1⟩; replace HX := hk1.box HX hx1 (by decide); replace HE := hk1.box HE hx2 (by decide); obtain ⟨c0, c1, c2, c3⟩ := cells4 HX; replace HK := HK.trans hk1; clear hk1 hW; have hW := hW1; clear hW1) | go_values | go_skip | go_guarded | go_step | go_upon | go_back | (dsimp only)))
  have hl2 : ([66, 82, 82, 80] ++ beI rv (Int.toNat 1) ++ beI re (Int.toNat 1) ++ beI ra (Int.toNat 2) ++ beI vs.length (Int.toNat 2)).length = 10 := by simp [beI_len]
  have hbs0 : Hid ([66, 82, 82, 80] ++ beI rv (Int.toNat 1) ++ beI re (Int.toNat 1) ++ beI ra (Int.toNat 2) ++ beI vs.length (Int.toNat 2) ++ presB ps = repB ⟨rv, re, ra, ps⟩) := Lib.hid (by simp [repB, Hvl.out])
  generalize [66, 82, 82, 80] ++ beI rv (Int.toNat 1) ++ beI re (Int.toNat 1) ++ beI ra (Int.toNat 2) ++ beI vs.length (Int.toNat 2) = bs0 at hW hl2 hbs0
  have Hl2 := Lib.hid hl2
  have Hps := Lib.hid hps
  have Hfew : Hid (∀ p ∈ ps, prMed p) := Lib.hid hf.2.1
  have Htot : Hid ((presB ps).length ≤ 900000) := Lib.hid hf.2.2
  clear hl2 c0 c1 c2 c3 hps hf kc
  go_loopw [6, 36] (fun _ i wr => ∃ (k : Nat) (v1 : Value) (bs1 : List Int), k ≤ vs.length ∧ bs1.length ≤ 1000000 ∧ Hid (bs1 = bs0 ++ presB (ps.take k)) ∧ i = .int .i64 k ∧ WR wr (w.heap.size + 1 + 1 + 1) w.heap.size v1 bs1 ∧ WKeep w.heap.size (w.heap.size + 1 + 1 + 1) w wr ∧ wr.heap[w.heap.size]? = some (.cells #[.int .i64 rv, .int .i64 re, .int .i64 ra, .slice av vs.length mv] 25 (0, 0)) ∧ wr.heap[w.heap.size + 1]? = some (.cells #[.int .i64 0] 22 (0, 0)) ∧ Hid (presE ps = presE (ps.drop k))) (fun _ i _ => vs.length - (intOf i).toNat)
  case atStart => exact ⟨0, v1, _, by omega, by have := Hl2.out; omega, Lib.hid (by simp [presB]), rfl, hW, HK, HX, HE, Lib.hid rfl⟩
  case round =>
    clear hW HK HX HE
    obtain ⟨k, v2, bs1, hk, hl1, hbs, rfl, hW, HK, HX, HE, hdr⟩ := hrel
    have HB := HK.below
    have hsz := HB.size
    obtain ⟨c0, c1, c2, c3⟩ := cells4 HX
    rcases Nat.lt_or_ge k vs.length with hlt1 | hge
    · obtain ⟨t, ht⟩ : ∃ t, vs[k]? = some t := ⟨_, List.getElem?_eq_getElem hlt1⟩
      obtain ⟨p, hp⟩ : ∃ p, ps[k]? = some p := ⟨_, List.getElem?_eq_getElem (by rw [← Hvl.out]; exact hlt1)⟩
      have Hpr := Lib.hid (HPs.out k t p ht hp)
      obtain ⟨q1, q2, q3⟩ := HPs.out k t p ht hp
      obtain ⟨a1, m1, e1⟩ := q1.shape
      obtain ⟨a2, m2, e2⟩ := q2.shape
      obtain ⟨a3, m3, e3⟩ := q3.shape
      obtain ⟨t1, t2, t3⟩ := t
      dsimp only at e1 e2 e3
      subst e1; subst e2; subst e3
      have Hp := Lib.hid hp
      have hwp := Lib.hid (Hps.out p (List.mem_of_getElem? hp))
      have hfp := Lib.hid (Hfew.out p (List.mem_of_getElem? hp))
      have hi := Lib.hid ht
      have hst : presE (ps.drop k) = if preE p ≠ 0 then preE p else presE (ps.drop (k + 1)) := by
        have hlt : k < ps.length := by rw [← Hvl.out]; exact hlt1
        rw [List.getElem?_eq_getElem hlt] at hp
        injection hp with hp
        rw [List.drop_eq_getElem_cons hlt, hp]
        rfl
      clear hp ht q1 q2 q3
      obtain ⟨b9, o9, rfl, HR⟩ : ∃ b o, av = some ⟨b, o, none⟩ ∧ RowAt 3 tripc w b o vs := by
        rcases hS.casesA with ⟨ao, cap, e0, he⟩ | ⟨b2, o2, cap, e0, _, _, HR2⟩
        · rw [he] at hlt1; simp at hlt1
        injection e0 with e0 _ e1
        exact ⟨b2, o2, e0, HR2⟩
      obtain ⟨E, hE⟩ : ∃ E, Hid (preE p = E) := ⟨_, Lib.hid rfl⟩
      by_cases hz : E = 0
      · subst hz
        have hdr2 : Hid (presE ps = presE (ps.drop (k + 1))) := Lib.hid (by rw [hdr.out, hst, hE.out]; simp)
        clear hst
        (repeat (first | with_reducible refine xThenN ?_ | with_reducible refine xThenE ?_ | with_reducible refine xThenR ?_ | with_reducible refine xThenP ?_ | with_reducible refine xBlockEq ?_ | with_reducible refine xBlockNe rfl ?_ | with_reducible refine xBlockN ?_ | with_reducible refine xBlockR ?_ | with_reducible refine xBlockP ?_ | ((with_reducible refine wl_id ?_); refine wl_ldTr HR (by first | exact HB | ((repeat (first | with_reducible exact Below.refl _ _ | assumption | with_reducible refine below_drewN ?_ _ | with_reducible refine Below.drew ?_ | with_reducible refine Below.setRow ?_ ?_ _ | with_reducible refine Below.alloc ?_ ?_ _ | with_reducible refine Below.setCell ?_ ?_ _ | with_reducible exact Nat.le_refl _ | (focus (simp; done)) | (focus (simp; omega)) | omega)))) k hi rfl _ rfl rfl ?_; simp only [Act.put, List.setIfInBounds_toArray, List.set_cons_succ, List.set_cons_zero]; (try dsimp only)) | (go_at_call 32; (with_reducible refine (wpre_ok w _ _ _ p Hpr.out hwp.out hfp.out _ _ _ _ (by (repeat (first | with_reducible exact Below.refl _ _ | assumption | with_reducible refine below_drewN ?_ _ | with_reducible refine Below.drew ?_ | with_reducible refine Below.setRow ?_ ?_ _ | with_reducible refine Below.alloc ?_ ?_ _ | with_reducible refine Below.setCell ?_ ?_ _ | with_reducible exact Nat.le_refl _ | (focus (simp; done)) | (focus (simp; omega)) | omega))) (hW.alloc _) hbw (by omega) hE.out).mono ?_); rintro e w1 ⟨rfl, hk1, v1, hW1⟩) | go_values | go_skip | go_guarded | go_step | go_upon | go_back | (dsimp only)))
        have hbs2 : bs1 ++ preB p = bs0 ++ presB (ps.take (k + 1)) := by
          rw [hbs.out, List.take_add_one, Hp.out]
          simp [presB]
        have HX' := (Below.heap_alloc wr (.cells #[.slice a1 p.path.length m1, .slice a2 p.term.length m2, .slice a3 p.input.length m3] 43) _ (lt_of_block HX)).trans HX
        have HE' := (Below.heap_alloc wr (.cells #[.slice a1 p.path.length m1, .slice a2 p.term.length m2, .slice a3 p.input.length m3] 43) _ (lt_of_block HE)).trans HE
        refine ⟨⟨k + 1, v1, _, by omega, ?_, Lib.hid hbs2, by go_num, hW1, (HK.alloc hsz _).trans hk1, hk1.box HX' hx1 (by decide), hk1.box HE' hx2 (by decide), hdr2⟩, by simp [intOf]; omega⟩
        rw [hbs2, List.length_append, Hl2.out]
        have h1 := presB_take ps (k + 1)
        have h2 := Htot.out
        omega
      · have hE3 : Hid (repE ⟨rv, re, ra, ps⟩ = E) := Lib.hid (by rw [hR1.out, hdr.out, hst, hE.out, if_pos hz])
        have Hz := Lib.hid hz
        have HE' := (Below.heap_alloc wr (.cells #[.slice a1 p.path.length m1, .slice a2 p.term.length m2, .slice a3 p.input.length m3] 43) _ (lt_of_block HE)).trans HE
        clear hst hz
        (repeat (first | with_reducible refine xThenN ?_ | with_reducible refine xThenE ?_ | with_reducible refine xThenR ?_ | with_reducible refine xThenP ?_ | with_reducible refine xBlockEq ?_ | with_reducible refine xBlockNe rfl ?_ | with_reducible refine xBlockN ?_ | with_reducible refine xBlockR ?_ | with_reducible refine xBlockP ?_ | ((with_reducible refine wl_id ?_); refine wl_ldTr HR (by first | exact HB | ((repeat (first | with_reducible exact Below.refl _ _ | assumption | with_reducible refine below_drewN ?_ _ | with_reducible refine Below.drew ?_ | with_reducible refine Below.setRow ?_ ?_ _ | with_reducible refine Below.alloc ?_ ?_ _ | with_reducible refine Below.setCell ?_ ?_ _ | with_reducible exact Nat.le_refl _ | (focus (simp; done)) | (focus (simp; omega)) | omega)))) k hi rfl _ rfl rfl ?_; simp only [Act.put, List.setIfInBounds_toArray, List.set_cons_succ, List.set_cons_zero]; (try dsimp only)) | (go_at_call 32; (with_reducible refine (wpre_no w _ _ _ p Hpr.out hwp.out hfp.out _ _ _ _ (by (repeat (first | with_reducible exact Below.refl _ _ | assumption | with_reducible refine below_drewN ?_ _ | with_reducible refine Below.drew ?_ | with_reducible refine Below.setRow ?_ ?_ _ | with_reducible refine Below.alloc ?_ ?_ _ | with_reducible refine Below.setCell ?_ ?_ _ | with_reducible exact Nat.le_refl _ | (focus (simp; done)) | (focus (simp; omega)) | omega))) (hW.alloc _) hbw (by omega) E hE Hz).mono ?_); rintro e w1 ⟨rfl, hk1⟩) | go_values | go_skip | go_guarded | go_step | go_upon | go_back | (dsimp only)))
        replace HE := hk1.box HE' hx2 (by decide)
        replace HK := (HK.alloc hsz _).trans hk1
        exact door_panic15 rfl rfl HE fun w2 hb2 => Wrote.no (HK.below.trans (hb2.mono HK.below.size)) (by omega) hE3.out Hz.out
    · have hkk : k = vs.length := by omega
      subst hkk
      have hfin : Hid (bs1 = repB ⟨rv, re, ra, ps⟩) := Lib.hid (by rw [hbs.out, ← hbs0.out, List.take_of_length_le (by rw [Hvl.out]; exact Nat.le_refl _)])
      have hzero : Hid (repE ⟨rv, re, ra, ps⟩ = 0) := Lib.hid (by rw [hR1.out, hdr.out, List.drop_eq_nil_of_le (by rw [Hvl.out]; exact Nat.le_refl _)]; rfl)
      have hc := hW.cell
      have e0 := cell_of_one HE
      have e1 := free_of_one HE
      (repeat (first | with_reducible refine xThenN ?_ | with_reducible refine xThenE ?_ | with_reducible refine xThenR ?_ | with_reducible refine xThenP ?_ | with_reducible refine xBlockEq ?_ | with_reducible refine xBlockNe rfl ?_ | with_reducible refine xBlockN ?_ | with_reducible refine xBlockR ?_ | with_reducible refine xBlockP ?_ | go_values | go_skip | go_guarded | go_step | go_upon | go_back | (dsimp only)))
      refine door_ret15 rfl rfl (one_setCell HE) ⟨Below.setCell HB (Nat.le_succ _) _, .inl ⟨hzero.out, v2, rfl, ?_⟩⟩
      rw [← hfin.out]
      refine hW.2.same fun k hk => Below.heap_setCell _ _ _ _ ?_
      rintro rfl
      obtain ⟨cur, fr, hh⟩ := hW.2.ty _ hk
      rw [HE] at hh
      simp at hh

def Encoded (w : World) (r : Rp) (e : Ending) (w' : World) : Prop :=
  Below w.heap.size w w' ∧ ((repE r = 0 ∧ ∃ v', e = .returned (.tuple #[v', .int .i64 0]) ∧ Owns w' w.heap.size v' (repB r)) ∨
    (repE r ≠ 0 ∧ e = .returned (.tuple #[.slice none 0 0, .int .i64 (repE r)])))

theorem Encoded.no {w w1 : World} {r : Rp} {E : Int} (hB : Below w.heap.size w w1) (hE : repE r = E) (hz : E ≠ 0) : Encoded w r (.returned (.tuple #[.slice none 0 0, .int .i64 E])) w1 := by
  subst hE
  exact ⟨hB, .inr ⟨hz, rfl⟩⟩

theorem written_ok (r : Rp) (rv re ra : Int) (ps : List Pr) (v : Value) (w w0 : World) (hr : Hid (r = ⟨rv, re, ra, ps⟩)) (hP : PresIn w v ps) (hwf : Hid (RpWf r)) (hf : medB ps) (hE : Hid (repE r = 0)) (hs : w0.heap.size ≤ w.heap.size) :
    Calls Try.prog 15 #[.agg #[.int .i64 rv, .int .i64 re, .int .i64 ra, v]] w fun e w' => Below w.heap.size w w' ∧ ∃ v', e = .returned (.tuple #[v', .int .i64 0]) ∧ Owns w' w0.heap.size v' (repB r) := by
  have hr := hr.out
  subst hr
  refine (written_any ⟨rv, re, ra, ps⟩ v w hP hwf.out hf).mono ?_
  rintro e w' ⟨hb, ⟨h0, v', rfl, ho⟩ | h⟩
  · refine ⟨hb, v', rfl, ?_⟩
    rcases ho with ho | ⟨g, cs, fz, rfl, hbb, r⟩
    · left
      refine ⟨ho.1, ?_⟩
      rcases ho.2 with hn | ⟨g, c, cur, rfl, hbb, r⟩
      · exact .inl hn
      · exact .inr ⟨g, c, cur, rfl, Nat.le_trans hs hbb, r⟩
    · exact .inr ⟨g, cs, fz, rfl, Nat.le_trans hs hbb, r⟩
  · exact absurd hE.out h.1
theorem written_no (r : Rp) (rv re ra : Int) (ps : List Pr) (v : Value) (w : World) (hr : Hid (r = ⟨rv, re, ra, ps⟩)) (hP : PresIn w v ps) (hwf : Hid (RpWf r)) (hf : medB ps) (E : Int) (hE : Hid (repE r = E)) (hz : Hid (E ≠ 0)) :
    Calls Try.prog 15 #[.agg #[.int .i64 rv, .int .i64 re, .int .i64 ra, v]] w fun e w' => e = .returned (.tuple #[.slice none 0 0, .int .i64 E]) ∧ Below w.heap.size w w' := by
  have hr := hr.out
  subst hr
  refine (written_any ⟨rv, re, ra, ps⟩ v w hP hwf.out hf).mono ?_
  rintro e w' ⟨hb, ⟨h0, _⟩ | h⟩
  · exact absurd (hE.out.symm.trans h0) hz.out
  · exact ⟨by rw [h.2, hE.out], hb⟩

set_option maxHeartbeats 400000 in
theorem encode_any (r : Rp) (v : Value) (w : World) (hP : PresIn w v r.pres) (hwf : RpWf r) (hf : medB r.pres) :
    Calls Try.prog 9 #[.agg #[.int .i64 r.v, .int .i64 r.e, .int .i64 r.a, v]] w (Encoded w r) := by
  obtain ⟨rr, hrr⟩ : ∃ rr, rr = r := ⟨_, rfl⟩
  have Hwf := Lib.hid hwf
  obtain ⟨rv, re, ra, ps⟩ := r
  dsimp only at hP hf ⊢
  rw [← hrr] at Hwf ⊢
  have Hr := Lib.hid hrr
  have HP := Lib.hid hP
  obtain ⟨vs, hS, -, -⟩ := hP
  obtain ⟨av, mv, rfl⟩ := hS.shape
  clear hrr hwf hS
  obtain ⟨E, hE⟩ : ∃ E, Hid (repE rr = E) := ⟨_, Lib.hid rfl⟩
  by_cases hz : E = 0
  · subst hz
    go_enter Try.func9, Try.ntmps9
    (repeat (first | with_reducible refine xThenN ?_ | with_reducible refine xThenE ?_ | with_reducible refine xThenR ?_ | with_reducible refine xThenP ?_ | with_reducible refine xBlockEq ?_ | with_reducible refine xBlockNe rfl ?_ | with_reducible refine xBlockN ?_ | with_reducible refine xBlockR ?_ | with_reducible refine xBlockP ?_ | (go_at_call 15; (with_reducible refine (written_ok rr _ _ _ _ _ _ w Hr (HP.out.below (by (repeat (first | with_reducible exact Below.refl _ _ | assumption | with_reducible refine below_drewN ?_ _ | with_reducible refine Below.drew ?_ | with_reducible refine Below.setRow ?_ ?_ _ | with_reducible refine Below.alloc ?_ ?_ _ | with_reducible refine Below.setCell ?_ ?_ _ | with_reducible exact Nat.le_refl _ | (focus (simp; done)) | (focus (simp; omega)) | omega)))) Hwf hf hE (by simp)).mono ?_); rintro e w1 ⟨hb, v1, rfl, ho⟩) | go_values | go_skip | go_guarded | go_step | go_upon | go_back | (dsimp only)))
    go_ret2
    exact ⟨Below.trans (by (repeat (first | with_reducible exact Below.refl _ _ | assumption | with_reducible refine below_drewN ?_ _ | with_reducible refine Below.drew ?_ | with_reducible refine Below.setRow ?_ ?_ _ | with_reducible refine Below.alloc ?_ ?_ _ | with_reducible refine Below.setCell ?_ ?_ _ | with_reducible exact Nat.le_refl _ | (focus (simp; done)) | (focus (simp; omega)) | omega))) (hb.mono (by simp)), .inl ⟨hE.out, v1, rfl, ho⟩⟩
  · have hf0 : (E != 0) = true := by simpa using hz
    have Hz := Lib.hid hz
    clear hz
    go_enter Try.func9, Try.ntmps9
    (repeat (first | with_reducible refine xThenN ?_ | with_reducible refine xThenE ?_ | with_reducible refine xThenR ?_ | with_reducible refine xThenP ?_ | with_reducible refine xBlockEq ?_ | with_reducible refine xBlockNe rfl ?_ | with_reducible refine xBlockN ?_ | with_reducible refine xBlockR ?_ | with_reducible refine xBlockP ?_ | (go_at_call 15; (with_reducible refine (written_no rr _ _ _ _ _ _ Hr (HP.out.below (by (repeat (first | with_reducible exact Below.refl _ _ | assumption | with_reducible refine below_drewN ?_ _ | with_reducible refine Below.drew ?_ | with_reducible refine Below.setRow ?_ ?_ _ | with_reducible refine Below.alloc ?_ ?_ _ | with_reducible refine Below.setCell ?_ ?_ _ | with_reducible exact Nat.le_refl _ | (focus (simp; done)) | (focus (simp; omega)) | omega)))) Hwf hf E hE Hz).mono ?_); rintro e w1 ⟨rfl, hb⟩) | go_values | go_skip | go_guarded | go_step | go_upon | go_back | (dsimp only)))
    go_ret2
    exact Encoded.no (Below.trans (by (repeat (first | with_reducible exact Below.refl _ _ | assumption | with_reducible refine below_drewN ?_ _ | with_reducible refine Below.drew ?_ | with_reducible refine Below.setRow ?_ ?_ _ | with_reducible refine Below.alloc ?_ ?_ _ | with_reducible refine Below.setCell ?_ ?_ _ | with_reducible exact Nat.le_refl _ | (focus (simp; done)) | (focus (simp; omega)) | omega))) (hb.mono (by simp))) hE.out Hz.out

end Go.Proofs.Ytcffgbmgjdhkjaa
