import Derived.Test.YtcffgbmgjdhkjaaJ
set_option linter.unusedSimpArgs false
set_option linter.unusedVariables false
namespace Go.Proofs.Ytcffgbmgjdhkjaa
open Go.RowKit

theorem in_any (a b c : Int) (w : World) :
    Calls Try.prog 33 #[.int .i64 a, .int .i64 b, .int .i64 c] w fun e w' => e = .returned (.bool (decide (b ≤ a ∧ a ≤ c))) ∧ w = w' := by
  go_enter Try.func33, Try.ntmps33
  (repeat' (first | with_reducible refine xThenN ?_ | with_reducible refine xThenE ?_ | with_reducible refine xThenR ?_ | with_reducible refine xThenP ?_ | with_reducible refine xBlockEq ?_ | with_reducible refine xBlockNe rfl ?_ | with_reducible refine xBlockN ?_ | with_reducible refine xBlockR ?_ | with_reducible refine xBlockP ?_ | go_values | go_skip | go_guarded | go_step | go_upon | go_back | (dsimp only)))
  all_goals
    go_ret
    exact ⟨ret_bool (by simp_all <;> omega), rfl⟩

structure Pr where
  path : List Int
  term : List Nd
  input : List Int
deriving DecidableEq
structure Rp where
  v : Int
  e : Int
  a : Int
  pres : List Pr
deriving DecidableEq

def i64c (n : Int) : List Value := [.int .i64 n]
def u8c (n : Int) : List Value := [.int .u8 n]
abbrev Trip := Value × Value × Value
def tripc (t : Trip) : List Value := [t.1, t.2.1, t.2.2]

/-- a precondition's three slices and what they hold -/
def PrIn (w : World) (t : Trip) (p : Pr) : Prop := SlIs 1 i64c w t.1 p.path ∧ SlIs 6 Nd.cells w t.2.1 p.term ∧ SlIs 1 u8c w t.2.2 p.input
theorem PrIn.below {w w' : World} {t : Trip} {p : Pr} (h : PrIn w t p) (hb : Below w.heap.size w w') : PrIn w' t p := ⟨h.1.below hb, h.2.1.below hb, h.2.2.below hb⟩
def PresIn (w : World) (v : Value) (ps : List Pr) : Prop := ∃ vs : List Trip, SlIs 3 tripc w v vs ∧ vs.length = ps.length ∧ ∀ (i : Nat) (t : Trip) (p : Pr), vs[i]? = some t → ps[i]? = some p → PrIn w t p
theorem PresIn.below {w w' : World} {v : Value} {ps : List Pr} (h : PresIn w v ps) (hb : Below w.heap.size w w') : PresIn w' v ps :=
  let ⟨vs, h1, h2, h3⟩ := h
  ⟨vs, h1.below hb, h2, fun i t p a b => (h3 i t p a b).below hb⟩

def prFew (p : Pr) : Bool := decide (p.path.length ≤ 80 ∧ p.term.length ≤ 400 ∧ p.input.length ≤ 40)
def fewB (ps : List Pr) : Bool := decide (ps.length ≤ 20) && ps.all prFew

end Go.Proofs.Ytcffgbmgjdhkjaa
