import Derived.Test.YtcffgbmgjdhkjaaN
set_option linter.unusedSimpArgs false
set_option linter.unusedVariables false
namespace Go.Proofs.Ytcffgbmgjdhkjaa
open Go.RowKit

theorem WKeep.alloc {base Wb : Nat} {a w : World} (h : WKeep base Wb a w) (hb : base ≤ w.heap.size) (o : Obj) : WKeep base Wb a (w.alloc o) :=
  h.trans ⟨Below.alloc (Below.refl _ _) hb o, fun k hk _ _ => Below.heap_alloc w o k hk⟩
theorem WR.alloc {w : World} {Wb base : Nat} {v : Value} {bs : List Int} (h : WR w Wb base v bs) (o : Obj) : WR (w.alloc o) Wb base v bs :=
  ⟨(Below.heap_alloc w o _ h.lt).trans h.1, h.2.same fun k hk => Below.heap_alloc w o k (h.2.lt k hk).2⟩
theorem WKeep.box {base Wb : Nat} {w w' : World} (h : WKeep base Wb w w') {k : Nat} {cs : Array Value} {t : TypeId} {fr : Nat × Nat} (hk : w.heap[k]? = some (.cells cs t fr)) (hne : k ≠ Wb) (ht : t ≠ 5) : w'.heap[k]? = some (.cells cs t fr) :=
  (h.far k (lt_of_block hk) hne (fun cur f e => by rw [hk] at e; injection e with e; injection e with _ e; exact ht e)).trans hk

theorem cells6 {w : World} {b : Nat} {c0 c1 c2 c3 c4 c5 : Value} {t : TypeId} (h : w.heap[b]? = some (.cells #[c0, c1, c2, c3, c4, c5] t (0, 0))) :
    w.cell? ⟨b, 0, none⟩ = some c0 ∧ w.cell? ⟨b, 1, none⟩ = some c1 ∧ w.cell? ⟨b, 2, none⟩ = some c2 ∧ w.cell? ⟨b, 3, none⟩ = some c3 ∧ w.cell? ⟨b, 4, none⟩ = some c4 ∧ w.cell? ⟨b, 5, none⟩ = some c5 := by
  simp [World.cell?, h]

/-- a node's bytes -/
def nodeB (d : Nd) : List Int := beI d.op 1 ++ (beI d.w 1 ++ (beI d.n 8 ++ (beI d.k0 3 ++ (beI d.k1 3 ++ beI d.k2 3))))
theorem nodeB_len (d : Nd) : (nodeB d).length = 19 := by simp [nodeB, beI_len]
def NdSm (d : Nd) : Prop := (0 ≤ d.op ∧ d.op ≤ 255) ∧ (0 ≤ d.w ∧ d.w ≤ 255) ∧ (0 ≤ d.n ∧ d.n ≤ 18446744073709551615) ∧ (0 ≤ d.k0 ∧ d.k0 ≤ 16777215) ∧ (0 ≤ d.k1 ∧ d.k1 ≤ 16777215) ∧ (0 ≤ d.k2 ∧ d.k2 ≤ 16777215)

theorem wnum_okX (x N lo hi : Int) (Wb base : Nat) (v : Value) (bs : List Int) (w : World) (hW : WR w Wb base v bs) (hbw : base ≤ Wb) (h0 : lo ≤ x) (h1 : x ≤ hi) (hx : 0 ≤ x) (hx1 : x < 18446744073709551616) (hn0 : 0 ≤ N) (hn : N ≤ 8) (hl : bs.length ≤ 1000000000) :
    Calls Try.prog 31 #[.pointer (some ⟨Wb, 0, none⟩), .int .u64 x, .int .i64 N, .int .u64 lo, .int .u64 hi] w fun e w' => e = .returned (.tuple #[]) ∧ WKeep base Wb w w' ∧ ∃ v', WR w' Wb base v' (bs ++ beI x N.toNat) := by
  obtain ⟨n, rfl⟩ := Int.eq_ofNat_of_zero_le hn0
  exact wnum_ok x n lo hi Wb base v bs w hW hbw h0 h1 hx hx1 (by omega) hl

set_option maxRecDepth 100000 in
set_option maxHeartbeats 1000000 in
theorem wnode_ok (op wd n k0 k1 k2 : Int) (hd : NdSm ⟨op, wd, n, k0, k1, k2⟩) (Wb base : Nat) (v : Value) (bs : List Int) (w : World) (hW : WR w Wb base v bs) (hbw : base ≤ Wb) (hl : bs.length ≤ 900000000) :
    Calls Try.prog 42 #[.pointer (some ⟨Wb, 0, none⟩), .agg #[.int .i64 op, .int .i64 wd, .int .u64 n, .int .i64 k0, .int .i64 k1, .int .i64 k2]] w fun e w' => e = .returned (.tuple #[]) ∧ WKeep base Wb w w' ∧ ∃ v', WR w' Wb base v' (bs ++ nodeB ⟨op, wd, n, k0, k1, k2⟩) := by
  obtain ⟨⟨a0, a1⟩, ⟨a2, a3⟩, ⟨a4, a5⟩, ⟨a6, a7⟩, ⟨a8, a9⟩, ⟨a10, a11⟩⟩ := hd
  dsimp only at a0 a1 a2 a3 a4 a5 a6 a7 a8 a9 a10 a11
  have hlt := hW.lt
  have hxw : w.heap.size ≠ Wb := by omega
  have HX : (w.alloc (.cells #[.int .i64 op, .int .i64 wd, .int .u64 n, .int .i64 k0, .int .i64 k1, .int .i64 k2] 49)).heap[w.heap.size]? = _ := heap_alloc_new w _
  have HK := (WKeep.refl base Wb w).alloc (by omega) (.cells #[.int .i64 op, .int .i64 wd, .int .u64 n, .int .i64 k0, .int .i64 k1, .int .i64 k2] 49)
  replace hW := hW.alloc (.cells #[.int .i64 op, .int .i64 wd, .int .u64 n, .int .i64 k0, .int .i64 k1, .int .i64 k2] 49)
  have i0 : ∀ w, (Instr.index 47 (.agg #[.int .i64 k0, .int .i64 k1, .int .i64 k2]) (.int .i64 0)).run Try.prog w = .ok (.int .i64 k0) w := fun _ => by kernel_rfl
  have i1 : ∀ w, (Instr.index 47 (.agg #[.int .i64 k0, .int .i64 k1, .int .i64 k2]) (.int .i64 1)).run Try.prog w = .ok (.int .i64 k1) w := fun _ => by kernel_rfl
  have i2 : ∀ w, (Instr.index 47 (.agg #[.int .i64 k0, .int .i64 k1, .int .i64 k2]) (.int .i64 2)).run Try.prog w = .ok (.int .i64 k2) w := fun _ => by kernel_rfl
  go_enter Try.func42, Try.ntmps42
  (repeat (first | with_reducible refine xThenN ?_ | with_reducible refine xThenE ?_ | with_reducible refine xThenR ?_ | with_reducible refine xThenP ?_ | with_reducible refine xBlockEq ?_ | with_reducible refine xBlockNe rfl ?_ | with_reducible refine xBlockN ?_ | with_reducible refine xBlockR ?_ | with_reducible refine xBlockP ?_ | (go_at_call 31; (with_reducible refine (wnum_okX _ _ _ _ _ _ _ _ _ hW hbw (by omega) (by omega) (by omega) (by omega) (by omega) (by omega) (by (try simp only [List.length_append, beI_len, Int.reduceToNat]); omega)).mono ?_); rintro e w1 ⟨rfl, hk1, v1, hW1⟩; replace HX := hk1.box HX hxw (by decide); obtain ⟨c0, c1, c2, c3, c4, c5⟩ := cells6 HX; replace HK := HK.trans hk1; clear hk1 hW; have hW := hW1; clear hW1) | (with_reducible refine wp_loop_rounds 4 ?_) | rw [rounds_succ] | go_values | go_skip | go_guarded | go_step | go_upon | go_back | (dsimp only)))
  go_end0
  exact ⟨rfl, HK, v1, by simpa [nodeB] using hW⟩

end Go.Proofs.Ytcffgbmgjdhkjaa
