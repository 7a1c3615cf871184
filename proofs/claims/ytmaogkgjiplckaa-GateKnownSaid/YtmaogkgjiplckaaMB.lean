import Derived.Test.YtmaogkgjiplckaaMA
import Derived.Test.YtmaogkgjiplckaaSH
import Derived.Sort.OwnSortedInts
import Derived.Shelf.SlSortFunc.HeapSort
set_option linter.unusedSimpArgs false
set_option linter.unusedVariables false
namespace Go.Proofs.Ytmaogkgjiplckaa
open Go.RowKit
open Go.Shelf Go.RowKit Go.Lib Go.Sort

/-- the variable of a literal, as the program works it out -/
def vr (x : Int) : Int := max x (wrap64 (-x))
theorem vr_abs {x : Int} (h : okL x) : vr x = absI x := by
  obtain ⟨_, h1, h2⟩ := h
  unfold vr absI
  have : wrap64 (-x) = -x := by simp [wrap64, IntKind.wrap, IntKind.bits, IntKind.signed]; omega
  rw [this]
  split <;> omega
set_option maxRecDepth 100000 in
theorem variable_any (x : Int) (w : World) : Calls Try.prog 70 #[.int .i64 x] w fun e w' => e = .returned (.int .i64 (vr x)) ∧ w' = w := by
  go_enter Try.func70, Try.ntmps70
  (repeat (first | (with_reducible first | refine xA ?_ | refine xB ?_ | refine xC ?_ | refine xD ?_ | refine xH ?_ | refine xI rfl ?_ | refine xE ?_ | refine xF ?_ | refine xG ?_) | go_values | go_skip | go_guarded | go_step | go_upon | go_back | ((with_reducible show Oper.upon _ _ _ _ _ _); go_simp) | (dsimp only)))
  go_ret
  exact ⟨rfl, rfl⟩

/-- the comparison -/
def cfV (x y : Int) : Int := Lib.compareInt (vr x) (vr y)
theorem ltV (x y : Int) : ltOf cfV x y = decide (vr x < vr y) := by
  unfold ltOf cfV Lib.compareInt
  by_cases h1 : vr x < vr y
  · simp [h1]
  · by_cases h2 : vr y < vr x <;> simp [h1, h2]
theorem swoV : SWO (ltOf cfV) where
  irrefl x := by rw [ltV]; simp
  trans x y z h1 h2 := by rw [ltV] at *; simp at *; omega
  ntrans x y z h1 h2 := by rw [ltV] at *; simp at *; omega
set_option maxRecDepth 100000 in
theorem less_any (x y : Int) (bp : Nat) (W : World) (hb : W.cell? ⟨bp, 0, none⟩ = some (.func (.func 70) #[] #[])) :
    Calls Try.prog 104 #[.int .i64 x, .int .i64 y, .pointer (some ⟨bp, 0, none⟩)] W fun e w' => e = .returned (.int .i64 (cfV x y)) ∧ ∃ q, w' = W.drewN q := by
  have hcon := fun a b W => Try.cmp_Compare_int a b W
  unfold cfV
  have h1 := fun W => variable_any x W
  have h2 := fun W => variable_any y W
  generalize vr x = a at *
  generalize vr y = b at *
  have h3 := fun W => hcon a b W
  clear hcon
  generalize Lib.compareInt a b = r at *
  go_enter Try.func104, Try.ntmps104
  (repeat (first | (with_reducible first | refine xA ?_ | refine xB ?_ | refine xC ?_ | refine xD ?_ | refine xH ?_ | refine xI rfl ?_ | refine xE ?_ | refine xF ?_ | refine xG ?_) | go_values | go_skip | go_guarded | go_step | go_upon | go_back | ((with_reducible show Oper.upon _ _ _ _ _ _); go_simp) | (dsimp only)))
  go_quiet (first | (go_at_call 70; first | (refine Calls.quiet_of_same (h1 _)) | (refine Calls.quiet_of_same (h2 _))) | (go_at_call 105; refine Calls.quiet_of_same (h3 _)))
  (repeat (first | (with_reducible first | refine xA ?_ | refine xB ?_ | refine xC ?_ | refine xD ?_ | refine xH ?_ | refine xI rfl ?_ | refine xE ?_ | refine xF ?_ | refine xG ?_) | go_values | go_skip | go_guarded | go_step | go_upon | go_back | ((with_reducible show Oper.upon _ _ _ _ _ _); go_simp) | (dsimp only)))
  go_ret
  exact ⟨rfl, _, rfl⟩

theorem sort_lays (b n : Nat) (w : World) (v : Value) (T : TypeId) (hb : b < w.heap.size) : CmpLays1 Try.prog 104 #[.pointer (some ⟨w.heap.size, 0, none⟩)] (Value.int .i64) cfV b 0 n (w.alloc (.cells #[.func (.func 70) #[] #[]] T)) := by
  intro m os dk hs x y
  refine (less_any x y w.heap.size _ ?_).mono ?_
  · rw [cell?_sortWorld_other _ _ _ _ _ _ _ _ (by show w.heap.size ≠ b; omega) (by simp)]
    exact cell_new _ _ _
  · rintro e w' ⟨he, q, hq⟩
    exact ⟨he, q, #[], by rw [hq, grow_empty]⟩
theorem sorted_list {l l' : List Int} (hp : PermIn 0 l.toArray.size l.toArray l'.toArray) (hs : SortedIn (ltOf cfV) 0 l.toArray.size l'.toArray) (hl : ∀ x ∈ l, okL x) : l'.Perm l ∧ l'.Pairwise (fun x y => absI x ≤ absI y) := by
  obtain ⟨h1, _, h2⟩ := hp
  simp only [List.size_toArray] at h1 h2
  have e1 : (l'.toArray.extract 0 l.length).toList = l' := by
    rw [← h1]; simp
  have e2 : (l.toArray.extract 0 l.length).toList = l := by simp
  rw [e1, e2] at h2
  refine ⟨h2, ?_⟩
  rw [List.pairwise_iff_getElem]
  intro i j hi hj hij
  have h3 := hs i j (Nat.zero_le _) hij (by simp; omega)
  rw [ltV] at h3
  have g1 : l'.toArray[i]! = l'[i] := by simp [hi]
  have g2 : l'.toArray[j]! = l'[j] := by simp [hj]
  rw [g1, g2, vr_abs (hl _ (h2.mem_iff.1 (List.getElem_mem hi))), vr_abs (hl _ (h2.mem_iff.1 (List.getElem_mem hj)))] at h3
  simpa using h3
set_option maxRecDepth 100000 in
set_option maxHeartbeats 1000000 in
theorem sorted_any (w : World) (B b cap : Nat) (l : List Int) (hO : w.ownsRow B 3 1 (.slice (some ⟨b, 0, none⟩) l.length cap) l.length (l.map (Value.int .i64))) (hl : ∀ x ∈ l, okL x) (hsz : l.length < 4611686018427387904) :
    Calls Try.prog 69 #[.slice (some ⟨b, 0, none⟩) l.length cap, .func (.func 70) #[] #[]] w fun e w' => e = .returned (.slice (some ⟨b, 0, none⟩) l.length cap) ∧ ∃ l' : List Int, l'.Perm l ∧ l'.Pairwise (fun x y => absI x ≤ absI y) ∧ w'.ownsRow B 3 1 (.slice (some ⟨b, 0, none⟩) l.length cap) l.length (l'.map (Value.int .i64)) ∧ w.grownBy w' (some b) := by
  have hmf : ∀ (fn : Fn) (first cap : Array Value) (w : World), (Instr.makeFunc fn first cap).run Try.prog w = .ok (.func fn first cap) w := fun _ _ _ _ => rfl
  obtain ⟨hBb, hbl⟩ := hO.lt b rfl
  have hO1 := hO.alloc (.cells #[.func (.func 70) #[] #[]] 54)
  obtain ⟨_, cap', cur, e0, hBg, hh, hnc, hcm, hcs, htk⟩ := hO1.2.resolve_left (by rintro ⟨h, _⟩; cases h)
  cases e0
  have hH : Holds (Value.int .i64) (w.alloc (.cells #[.func (.func 70) #[] #[]] 54)) b 0 l.toArray := holds_of_blockI hh (by simpa using htk)
  have eg : ∀ args w, (callFunc 104 args).run Try.prog w = .ok (.enter 104 args) w := enters_of Try.func104 (by kernel_rfl) rfl
  have hcon := Try.slices_SortFunc (Value.int .i64) (fun _ => rfl) cfV swoV 104 #[.pointer (some ⟨w.heap.size, 0, none⟩)] b 0 cap l.toArray _ eg (sort_lays b _ w (.int .i64 0) 54 hbl) hH (by simp; omega) (by simpa using hsz)
  simp only [List.size_toArray] at hcon
  have HC := Lib.hid hcon
  have HO := Lib.hid hO
  have HH := Lib.hid hh
  have HL := Lib.hid hl
  have HN := Lib.hid hnc
  have HM := Lib.hid hcm
  have HS := Lib.hid hcs
  clear hcon hO hO1 hH hh hl hnc hcm hcs htk
  go_enter Try.func69, Try.ntmps69
  (repeat (first | (with_reducible first | refine xA ?_ | refine xB ?_ | refine xC ?_ | refine xD ?_ | refine xH ?_ | refine xI rfl ?_ | refine xE ?_ | refine xF ?_ | refine xG ?_) | go_skip | go_guarded | (go_at_call 103; (with_reducible refine (HC.out).mono ?_); rintro _ w1 ⟨rfl, d', n, os, hp, hs, hw1⟩) | go_values | go_skip | go_guarded | go_step | go_upon | go_back | ((with_reducible show Oper.upon _ _ _ _ _ _); go_simp) | (dsimp only)))
  go_ret
  refine ⟨rfl, d'.toList, ?_⟩
  have hd : d'.toList.toArray = d' := by simp
  obtain ⟨r1, r2⟩ := sorted_list (l' := d'.toList) (by simpa using hp) (by simpa using hs) HL.out
  subst hw1
  refine ⟨r1, r2, ?_, ?_⟩
  · have := ownsRow_sortedI (n := n) (os := os) (ts := d'.toList) (ss := l) r1.length_eq hBb HH.out HN.out HM.out HS.out
    rw [hd] at this
    exact this
  · have h1 := grownBy_sortedI (w := w.alloc (.cells #[.func (.func 70) #[] #[]] 54)) (g := b) (n := n) (os := os) d'
    exact (World.grownBy_alloc w _ _).trans h1

end Go.Proofs.Ytmaogkgjiplckaa

set_option linter.unusedSimpArgs false
set_option linter.unusedVariables false
namespace Go.Proofs.Ytmaogkgjiplckaa
open Go.RowKit

/-- values in a row, from its beginning -/
def RowV (w : World) (q : Nat) (vs : List Value) : Prop := ∀ (j : Nat) (x : Value), vs[j]? = some x → w.cell? ⟨q, j, none⟩ = some x
theorem RowV.kept {X : Nat → Prop} {w w' : World} {q : Nat} {vs : List Value} (h : RowV w q vs) (hk : Kept X w w') (hx : X q) : RowV w' q vs := fun j x hj => hk.cell (h j x hj) hx
theorem RowV.one (w : World) (v : Value) (T : TypeId) : RowV (w.alloc (.cells #[v] T)) w.heap.size [v] := by
  intro j x hj
  rcases j with _ | j
  · simp at hj; subst hj; exact cell_new _ _ _
  · simp at hj
theorem OwnW.rows {w : World} {q n : Nat} {vs : List Value} (h : OwnW w q n vs) : RowV w q vs := by
  intro j x hj
  have := h.2.cells (g := q) rfl j x hj
  rcases j with _ | j
  · simpa [Addr.add] using this
  · simpa [Addr.add] using this

set_option maxRecDepth 100000 in
theorem literal_any {x : Int} (w : World) (h : okL x) : Calls Try.prog 102 #[.int .i64 x] w fun e w' => e = .returned (.bool true) ∧ w' = w := by
  obtain ⟨h0, h1, h2⟩ := h
  have e0 : (x != 0) = true := by simpa using h0
  go_enter Try.func102, Try.ntmps102
  (repeat (first | (with_reducible first | refine xA ?_ | refine xB ?_ | refine xC ?_ | refine xD ?_ | refine xH ?_ | refine xI rfl ?_ | refine xE ?_ | refine xF ?_ | refine xG ?_) | go_values | go_skip | go_guarded | go_step | go_upon | go_back | ((with_reducible show Oper.upon _ _ _ _ _ _); go_simp) | (dsimp only)))
  go_ret
  exact ⟨rfl, rfl⟩

set_option maxRecDepth 100000 in
set_option maxHeartbeats 1000000 in
theorem Right_any {Y : Nat → Prop} (w : World) (q n : Nat) (vs : List Value) (cl : List (List Int)) (hq : RowV w q vs) (hS : SlsX Y w vs cl) (hn : cl.length = n) (hok : ∀ c ∈ cl, ∀ x ∈ c, okL x) (hlen : n ≤ 100000000) (hll : ∀ c ∈ cl, c.length ≤ 1000000) :
    Calls Try.prog 65 #[.slice (some ⟨q, 0, none⟩) n n] w fun e w' => e = .returned (.int .i64 0) ∧ w' = w := by
  have HQ := Lib.hid hq
  have HS := Lib.hid hS
  have HN := Lib.hid hn
  have HOK := Lib.hid hok
  have HLL := Lib.hid hll
  have hnI : (n : Int) ≤ 100000000 := by omega
  clear hq hS hn hok hlen hll
  go_enter Try.func65, Try.ntmps65
  (repeat (first | (with_reducible first | refine xA ?_ | refine xB ?_ | refine xC ?_ | refine xD ?_ | refine xH ?_ | refine xI rfl ?_ | refine xE ?_ | refine xF ?_ | refine xG ?_) | go_values | go_skip | go_guarded | go_step | go_upon | go_back | ((with_reducible show Oper.upon _ _ _ _ _ _); go_simp) | (dsimp only)))
  go_loopw [9] (fun i wr => ∃ k : Nat, k ≤ n ∧ i = .int .i64 k ∧ wr = w) (fun i _ => n - (intOf i).toNat)
  case atStart => exact ⟨0, Nat.zero_le _, rfl, rfl⟩
  case round =>
    obtain ⟨k, hk, rfl, rfl⟩ := hrel
    rcases Nat.lt_or_ge k n with hlt | hge
    · obtain ⟨c, hc⟩ : ∃ c, cl[k]? = some c := ⟨_, List.getElem?_eq_getElem (by have := HN.out; omega)⟩
      obtain ⟨x, hx⟩ : ∃ x, vs[k]? = some x := ⟨_, List.getElem?_eq_getElem (by have := HN.out; have := HS.out.1; omega)⟩
      have hcx := HQ.out k x hx
      have hsx := HS.out.2 k x c hx hc
      have hcl := HLL.out c (List.mem_of_getElem? hc)
      have hclI : (c.length : Int) ≤ 1000000 := by omega
      have HC := Lib.hid (HOK.out c (List.mem_of_getElem? hc))
      obtain ⟨ax, cx, rfl⟩ := hsx.shape
      have HSx := Lib.hid hsx
      clear hsx hc hx hcl
      (repeat (first | (with_reducible first | refine xA ?_ | refine xB ?_ | refine xC ?_ | refine xD ?_ | refine xH ?_ | refine xI rfl ?_ | refine xE ?_ | refine xF ?_ | refine xG ?_) | go_values | go_skip | go_guarded | go_step | go_upon | go_back | ((with_reducible show Oper.upon _ _ _ _ _ _); go_simp) | (dsimp only)))
      go_loopw [15] (fun i wr' => ∃ j : Nat, j ≤ c.length ∧ i = .int .i64 j ∧ wr' = wr) (fun i _ => c.length - (intOf i).toNat)
      case atStart => exact ⟨0, Nat.zero_le _, rfl, rfl⟩
      case round =>
        obtain ⟨j, hj, rfl, rfl⟩ := hrel
        rcases Nat.lt_or_ge j c.length with hlt' | hge'
        · obtain ⟨b, o, rfl, _, _, _, hR⟩ := HSx.out.row (by omega)
          obtain ⟨y, hy⟩ : ∃ y, c[j]? = some y := ⟨_, List.getElem?_eq_getElem hlt'⟩
          have hcy := hR j y hy
          have HL := Lib.hid (HC.out y (List.mem_of_getElem? hy))
          clear hR hy
          (repeat (first | (with_reducible first | refine xA ?_ | refine xB ?_ | refine xC ?_ | refine xD ?_ | refine xH ?_ | refine xI rfl ?_ | refine xE ?_ | refine xF ?_ | refine xG ?_) | go_skip | go_guarded | (go_at_call 102; (with_reducible refine (literal_any _ HL.out).mono ?_); rintro _ w1 ⟨rfl, rfl⟩) | go_values | go_skip | go_guarded | go_step | go_upon | go_back | ((with_reducible show Oper.upon _ _ _ _ _ _); go_simp) | (dsimp only)))
          exact ⟨⟨j + 1, by omega, by go_num, rfl⟩, by simp [intOf]; omega⟩
        · obtain rfl : j = c.length := by omega
          (repeat (first | (with_reducible first | refine xA ?_ | refine xB ?_ | refine xC ?_ | refine xD ?_ | refine xH ?_ | refine xI rfl ?_ | refine xE ?_ | refine xF ?_ | refine xG ?_) | go_values | go_skip | go_guarded | go_step | go_upon | go_back | ((with_reducible show Oper.upon _ _ _ _ _ _); go_simp) | (dsimp only)))
          exact ⟨⟨k + 1, by omega, by go_num, rfl⟩, by simp [intOf]; omega⟩
    · obtain rfl : k = n := by omega
      (repeat (first | (with_reducible first | refine xA ?_ | refine xB ?_ | refine xC ?_ | refine xD ?_ | refine xH ?_ | refine xI rfl ?_ | refine xE ?_ | refine xF ?_ | refine xG ?_) | go_values | go_skip | go_guarded | go_step | go_upon | go_back | ((with_reducible show Oper.upon _ _ _ _ _ _); go_simp) | (dsimp only)))
      go_ret
      exact ⟨rfl, rfl⟩

end Go.Proofs.Ytmaogkgjiplckaa

set_option linter.unusedSimpArgs false
set_option linter.unusedVariables false
namespace Go.Proofs.Ytmaogkgjiplckaa
open Go.RowKit
/-- a set of ints, as the program keeps it -/
def oneM (l : List Int) : List (Int × Value) := l.map fun x => (x, .int .i64 1)
theorem oneM_get (l : List Int) (x : Int) : (getM (oneM l) x).isSome = decide (x ∈ l) := by
  unfold getM oneM
  rw [Option.isSome_map]
  by_cases h : x ∈ l
  · rw [decide_eq_true h]
    rw [List.find?_isSome]
    exact ⟨_, List.mem_map.2 ⟨x, h, rfl⟩, by simp⟩
  · rw [decide_eq_false h, Bool.eq_false_iff]
    intro hs
    rw [List.find?_isSome] at hs
    obtain ⟨p, hp, he⟩ := hs
    obtain ⟨y, hy, rfl⟩ := List.mem_map.1 hp
    have : y = x := by simpa using he
    exact h (this ▸ hy)
theorem oneM_keys (l : List Int) : (oneM l).map (·.1) = l := by simp [oneM, Function.comp_def]
theorem oneM_put (l : List Int) {x : Int} (h : x ∉ l) : putM (oneM l) x (.int .i64 1) = oneM (l ++ [x]) := by
  unfold putM
  rw [oneM_keys, if_neg h]
  simp [oneM]
theorem oneM_rem {l : List Int} (h : l.Nodup) (x : Int) : remM (oneM l) x = oneM (l.erase x) := by
  unfold remM oneM
  rw [List.filter_map, h.erase_eq_filter]
  congr 1
  refine List.filter_congr fun y _ => ?_
  simp [bne, Bool.beq_eq_decide_eq]
theorem oneM_len (l : List Int) : (oneM l).length = l.length := by simp [oneM]

/-- the spreader, as it lies -/
structure SPR (w : World) (sb : Nat) (lv : Value) (mi ms mw : Nat) (is wt : List Int) : Prop where
  box : w.heap[sb]? = some (.cells #[lv, .map (some mi), .map (some ms), .map (some mw)] 109 (0, 0))
  mis : MapV encI okI w ms (oneM is)
  mwt : MapV encI okI w mw (oneM wt)
  ne : ms ≠ mw
  sub : ∀ x ∈ wt, x ∈ is
def SK (ms mw : Nat) (k : Nat) : Prop := k ≠ ms ∧ k ≠ mw
theorem SPR.apart {w : World} {sb : Nat} {lv : Value} {mi ms mw : Nat} {is wt : List Int} (h : SPR w sb lv mi ms mw is wt) : SK ms mw sb := by
  obtain ⟨es, c, h1, _⟩ := h.mis
  obtain ⟨es', c', h2, _⟩ := h.mwt
  have hb := h.box
  constructor
  · rintro rfl; rw [hb] at h1; simp at h1
  · rintro rfl; rw [hb] at h2; simp at h2
theorem SPR.kept {w w' : World} {sb : Nat} {lv : Value} {mi ms mw : Nat} {is wt : List Int} (h : SPR w sb lv mi ms mw is wt) {X : Nat → Prop} (hk : Kept X w w') (h1 : X sb) (h2 : X ms) (h3 : X mw) : SPR w' sb lv mi ms mw is wt :=
  ⟨hk.at h.box h1, h.mis.kept hk h2, h.mwt.kept hk h3, h.ne, h.sub⟩
/-- what hold and ask answer -/
def SPost (sb : Nat) (lv : Value) (mi ms mw : Nat) (w : World) (r : Option (List Int × List Int)) (e : Ending) (w' : World) : Prop :=
  e = .returned (.bool r.isSome) ∧ (∀ p, r = some p → SPR w' sb lv mi ms mw p.1 p.2) ∧ Kept (SK ms mw) w w'

set_option maxRecDepth 100000 in
set_option maxHeartbeats 1000000 in
theorem hold_any {sb : Nat} {lv : Value} {mi ms mw : Nat} {is wt : List Int} (w : World) (h : SPR w sb lv mi ms mw is wt) (x : Int) (hx : okL x) :
    Calls Try.prog 66 #[.pointer (some ⟨sb, 0, none⟩), .int .i64 x] w (SPost sb lv mi ms mw w (holdP is wt x)) := by
  have hok : okI x := ⟨by have := hx.2.1; omega, by have := hx.2.2; omega⟩
  have hokn : okI (-x) := ⟨by have := hx.2.2; omega, by have := hx.2.1; omega⟩
  have hsb : sb < w.heap.size := lt_of_block h.box
  have c2 : w.cell? ⟨sb, 2, none⟩ = some (.map (some ms)) := by simp [World.cell?, h.box]
  have c3 : w.cell? ⟨sb, 3, none⟩ = some (.map (some mw)) := by simp [World.cell?, h.box]
  have HM := Lib.hid h.mis
  have HW := Lib.hid h.mwt
  have HAP := Lib.hid h.apart
  have HNE := Lib.hid h.ne
  have H := Lib.hid h
  have hxb : -1048576 ≤ x ∧ x ≤ 1048576 := hx.2
  clear h hx
  by_cases h1 : -x ∈ is
  · have HG1 := Lib.hid (show (getM (oneM is) (-x)).isSome = true by rw [oneM_get, decide_eq_true h1])
    have e : holdP is wt x = none := by unfold holdP; rw [if_pos h1]
    rw [e]
    clear h1 e
    go_enter Try.func66, Try.ntmps66
    (repeat (first | (with_reducible first | refine xA ?_ | refine xB ?_ | refine xC ?_ | refine xD ?_ | refine xH ?_ | refine xI rfl ?_ | refine xE ?_ | refine xF ?_ | refine xG ?_) | go_skip | go_guarded | ((with_reducible refine wl_id ?_); refine wl_lookup rfl _ _ 39 true rfl 3 3 keyI Try.underlying39 (.int .i64 0) (zero3 _) ms (oneM is) rfl HM.out (-x) rfl hokn ?_; (simp only [if_true]; (rw [HG1.out]); generalize (getM (oneM is) (-x)).getD (.int .i64 0) = g1); (try simp only [Act.put, List.setIfInBounds_toArray, List.set_cons_succ, List.set_cons_zero])) | go_values | go_skip | go_guarded | go_step | go_upon | go_back | ((with_reducible show Oper.upon _ _ _ _ _ _); go_simp) | (dsimp only)))
    go_ret
    exact ⟨rfl, by simp, Kept.refl _ _⟩
  have HG1 := Lib.hid (show (getM (oneM is) (-x)).isSome = false by rw [oneM_get, decide_eq_false h1])
  by_cases h2 : x ∈ is
  · have HG2 := Lib.hid (show (getM (oneM is) x).isSome = true by rw [oneM_get, decide_eq_true h2])
    have e : holdP is wt x = some (is, wt) := by unfold holdP; rw [if_neg h1, if_pos h2]
    rw [e]
    clear h1 h2 e
    go_enter Try.func66, Try.ntmps66
    (repeat (first | (with_reducible first | refine xA ?_ | refine xB ?_ | refine xC ?_ | refine xD ?_ | refine xH ?_ | refine xI rfl ?_ | refine xE ?_ | refine xF ?_ | refine xG ?_) | go_skip | go_guarded | ((with_reducible refine wl_id ?_); refine wl_lookup rfl _ _ 39 true rfl 3 3 keyI Try.underlying39 (.int .i64 0) (zero3 _) ms (oneM is) rfl HM.out (-x) rfl hokn ?_; (simp only [if_true]; (rw [HG1.out]); generalize (getM (oneM is) (-x)).getD (.int .i64 0) = g1); (try simp only [Act.put, List.setIfInBounds_toArray, List.set_cons_succ, List.set_cons_zero])) | ((with_reducible refine wl_id ?_); refine wl_lookup rfl _ _ 39 true rfl 3 3 keyI Try.underlying39 (.int .i64 0) (zero3 _) ms (oneM is) rfl HM.out x rfl hok ?_; (simp only [if_true]; (rw [HG2.out]); generalize (getM (oneM is) x).getD (.int .i64 0) = g2); (try simp only [Act.put, List.setIfInBounds_toArray, List.set_cons_succ, List.set_cons_zero])) | go_values | go_skip | go_guarded | go_step | go_upon | go_back | ((with_reducible show Oper.upon _ _ _ _ _ _); go_simp) | (dsimp only)))
    go_ret
    exact ⟨rfl, fun p hp => by cases hp; exact H.out, Kept.refl _ _⟩
  · have HG2 := Lib.hid (show (getM (oneM is) x).isSome = false by rw [oneM_get, decide_eq_false h2])
    have e : holdP is wt x = some (is ++ [x], wt ++ [x]) := by unfold holdP; rw [if_neg h1, if_neg h2]
    have HNI := Lib.hid h2
    have HNW := Lib.hid (show x ∉ wt from fun h => h2 (H.out.sub x h))
    rw [e]
    clear h1 h2 e
    go_enter Try.func66, Try.ntmps66
    (repeat (first | (with_reducible first | refine xA ?_ | refine xB ?_ | refine xC ?_ | refine xD ?_ | refine xH ?_ | refine xI rfl ?_ | refine xE ?_ | refine xF ?_ | refine xG ?_) | go_skip | go_guarded | ((with_reducible refine wl_id ?_); refine wl_lookup rfl _ _ 39 true rfl 3 3 keyI Try.underlying39 (.int .i64 0) (zero3 _) ms (oneM is) rfl HM.out (-x) rfl hokn ?_; (simp only [if_true]; (rw [HG1.out]); generalize (getM (oneM is) (-x)).getD (.int .i64 0) = g1); (try simp only [Act.put, List.setIfInBounds_toArray, List.set_cons_succ, List.set_cons_zero])) | ((with_reducible refine wl_id ?_); refine wl_lookup rfl _ _ 39 true rfl 3 3 keyI Try.underlying39 (.int .i64 0) (zero3 _) ms (oneM is) rfl HM.out x rfl hok ?_; (simp only [if_true]; (rw [HG2.out]); generalize (getM (oneM is) x).getD (.int .i64 0) = g2); (try simp only [Act.put, List.setIfInBounds_toArray, List.set_cons_succ, List.set_cons_zero])) | ((with_reducible refine wl_id ?_); refine wl_mapUpdate rfl _ _ _ 39 rfl _ _ keyI Try.underlying39 ms (oneM is) rfl HM.out x rfl hok (.int .i64 1) rfl ?_; intro w5 hM5 hg5; (rw [oneM_put _ HNI.out] at hM5); have c35 := (World.cell?_of_block (hg5.block _ hsb (fun e => HAP.out.1 (by injection e)))).trans c3; have hW5 := HW.out.same (hg5.block _ HW.out.lt (fun e => HNE.out (by injection e with e; exact e.symm))); (try simp only [Act.put, List.setIfInBounds_toArray, List.set_cons_succ, List.set_cons_zero])) | ((with_reducible refine wl_id ?_); refine wl_mapUpdate rfl _ _ _ 39 rfl _ _ keyI Try.underlying39 mw (oneM wt) rfl hW5 x rfl hok (.int .i64 1) rfl ?_; intro w6 hM6 hg6; (rw [oneM_put _ HNW.out] at hM6); (try simp only [Act.put, List.setIfInBounds_toArray, List.set_cons_succ, List.set_cons_zero])) | go_values | go_skip | go_guarded | go_step | go_upon | go_back | ((with_reducible show Oper.upon _ _ _ _ _ _); go_simp) | (dsimp only)))
    go_ret
    have hk : Kept (SK ms mw) w w6 := ((Kept.refl _ w).grown hg5 (fun q e _ hx => hx.1 (by injection e with e; exact e.symm))).grown hg6 (fun q e _ hx => hx.2 (by injection e with e; exact e.symm))
    refine ⟨rfl, fun p hp => ?_, hk⟩
    cases hp
    refine ⟨hk.at H.out.box HAP.out, hM5.same (hg6.block _ hM5.lt (fun e => HNE.out (by injection e))), hM6, HNE.out, fun y hy => ?_⟩
    rcases List.mem_append.1 hy with hy | hy
    · exact List.mem_append_left _ (H.out.sub y hy)
    · exact List.mem_append_right _ hy

end Go.Proofs.Ytmaogkgjiplckaa

set_option linter.unusedSimpArgs false
set_option linter.unusedVariables false
namespace Go.Proofs.Ytmaogkgjiplckaa
open Go.RowKit

theorem askL_cons (is : List Int) (x : Int) (c : List Int) (last : Int) : askL is (x :: c) last = if -x ∈ is ∨ x = last then askL is c last else if x ∈ is ∨ last ≠ 0 then none else askL is c x := rfl
theorem drop_at {α : Type} {c : List α} {k : Nat} {x : α} (h : c[k]? = some x) : c.drop k = x :: c.drop (k + 1) := by
  obtain ⟨h1, rfl⟩ := List.getElem?_eq_some_iff.1 h
  exact List.drop_eq_getElem_cons h1

set_option maxRecDepth 100000 in
set_option maxHeartbeats 1000000 in
theorem ask_any {Y : Nat → Prop} {sb : Nat} {lv : Value} {mi ms mw : Nat} {is wt : List Int} (w : World) (h : SPR w sb lv mi ms mw is wt) (v : Value) (c : List Int) (hv : SlX Y w v c) (hc : ∀ x ∈ c, okL x) (hl : c.length ≤ 1000000) (r : Option (List Int × List Int)) (hr : Hid (askP is wt c = r)) :
    Calls Try.prog 67 #[.pointer (some ⟨sb, 0, none⟩), v] w (SPost sb lv mi ms mw w r) := by
  obtain ⟨a, m, rfl⟩ := hv.shape
  have c2 : w.cell? ⟨sb, 2, none⟩ = some (.map (some ms)) := by simp [World.cell?, h.box]
  have HM := Lib.hid h.mis
  have H := Lib.hid h
  have HV := Lib.hid hv
  have HC := Lib.hid hc
  have hlI : (c.length : Int) ≤ 1000000 := by omega
  clear h hv hc hl
  go_enter Try.func67, Try.ntmps67
  (repeat (first | (with_reducible first | refine xA ?_ | refine xB ?_ | refine xC ?_ | refine xD ?_ | refine xH ?_ | refine xI rfl ?_ | refine xE ?_ | refine xF ?_ | refine xG ?_) | go_values | go_skip | go_guarded | go_step | go_upon | go_back | ((with_reducible show Oper.upon _ _ _ _ _ _); go_simp) | (dsimp only)))
  go_loopw [5, 14] (fun u i wr => ∃ (k : Nat) (last : Int), k ≤ c.length ∧ u = .int .i64 last ∧ i = .int .i64 k ∧ wr = w ∧ Hid (askL is c 0 = askL is (c.drop k) last ∧ (last ≠ 0 → okL last)) ∧ (-1048576 ≤ last ∧ last ≤ 1048576)) (fun _ i _ => c.length - (intOf i).toNat)
  case atStart => exact ⟨0, 0, Nat.zero_le _, rfl, rfl, rfl, Lib.hid ⟨rfl, fun h => absurd rfl h⟩, by omega⟩
  case round =>
    obtain ⟨k, last, hk, rfl, rfl, rfl, hA, hlast⟩ := hrel
    rcases Nat.lt_or_ge k c.length with hlt | hge
    · obtain ⟨b, o, rfl, _, _, _, hR⟩ := HV.out.row (by omega)
      obtain ⟨x, hx⟩ : ∃ y, c[k]? = some y := ⟨_, List.getElem?_eq_getElem hlt⟩
      have hcx := hR k x hx
      have hxl := HC.out x (List.mem_of_getElem? hx)
      have HXL := Lib.hid hxl
      have hok : okI x := ⟨by have := hxl.2.1; omega, by have := hxl.2.2; omega⟩
      have hokn : okI (-x) := ⟨by have := hxl.2.2; omega, by have := hxl.2.1; omega⟩
      have hxb : -1048576 ≤ x ∧ x ≤ 1048576 := hxl.2
      have HE := Lib.hid (drop_at hx)
      clear hR hx hxl
      by_cases h1 : -x ∈ is
      · have HG1 := Lib.hid (show (getM (oneM is) (-x)).isSome = true by rw [oneM_get, decide_eq_true h1])
        have HN := Lib.hid (show askL is c 0 = askL is (c.drop (k + 1)) last by rw [hA.out.1, HE.out, askL_cons, if_pos (.inl h1)])
        clear h1
        (repeat (first | (with_reducible first | refine xA ?_ | refine xB ?_ | refine xC ?_ | refine xD ?_ | refine xH ?_ | refine xI rfl ?_ | refine xE ?_ | refine xF ?_ | refine xG ?_) | go_skip | go_guarded | ((with_reducible refine wl_id ?_); refine wl_lookup rfl _ _ 39 true rfl 3 3 keyI Try.underlying39 (.int .i64 0) (zero3 _) ms (oneM is) rfl HM.out (-x) rfl hokn ?_; (simp only [if_true]; (rw [HG1.out]); generalize (getM (oneM is) (-x)).getD (.int .i64 0) = g1); (try simp only [Act.put, List.setIfInBounds_toArray, List.set_cons_succ, List.set_cons_zero])) | ((with_reducible refine wl_id ?_); refine wl_lookup rfl _ _ 39 true rfl 3 3 keyI Try.underlying39 (.int .i64 0) (zero3 _) ms (oneM is) rfl HM.out x rfl hok ?_; (simp only [if_true]; (rw [HG2.out]); generalize (getM (oneM is) x).getD (.int .i64 0) = g2); (try simp only [Act.put, List.setIfInBounds_toArray, List.set_cons_succ, List.set_cons_zero])) | go_values | go_skip | go_guarded | go_step | go_upon | go_back | ((with_reducible show Oper.upon _ _ _ _ _ _); go_simp) | (dsimp only)))
        exact ⟨⟨k + 1, last, by omega, rfl, by go_num, rfl, Lib.hid ⟨HN.out, hA.out.2⟩, hlast⟩, by simp [intOf]; omega⟩
      have HG1 := Lib.hid (show (getM (oneM is) (-x)).isSome = false by rw [oneM_get, decide_eq_false h1])
      by_cases h2 : x = last
      · have HN := Lib.hid (show askL is c 0 = askL is (c.drop (k + 1)) last by rw [hA.out.1, HE.out, askL_cons, if_pos (.inr h2)])
        have h2' : (x == last) = true := by simpa using h2
        clear h1 h2
        (repeat (first | (with_reducible first | refine xA ?_ | refine xB ?_ | refine xC ?_ | refine xD ?_ | refine xH ?_ | refine xI rfl ?_ | refine xE ?_ | refine xF ?_ | refine xG ?_) | go_skip | go_guarded | ((with_reducible refine wl_id ?_); refine wl_lookup rfl _ _ 39 true rfl 3 3 keyI Try.underlying39 (.int .i64 0) (zero3 _) ms (oneM is) rfl HM.out (-x) rfl hokn ?_; (simp only [if_true]; (rw [HG1.out]); generalize (getM (oneM is) (-x)).getD (.int .i64 0) = g1); (try simp only [Act.put, List.setIfInBounds_toArray, List.set_cons_succ, List.set_cons_zero])) | ((with_reducible refine wl_id ?_); refine wl_lookup rfl _ _ 39 true rfl 3 3 keyI Try.underlying39 (.int .i64 0) (zero3 _) ms (oneM is) rfl HM.out x rfl hok ?_; (simp only [if_true]; (rw [HG2.out]); generalize (getM (oneM is) x).getD (.int .i64 0) = g2); (try simp only [Act.put, List.setIfInBounds_toArray, List.set_cons_succ, List.set_cons_zero])) | go_values | go_skip | go_guarded | go_step | go_upon | go_back | ((with_reducible show Oper.upon _ _ _ _ _ _); go_simp) | (dsimp only)))
        exact ⟨⟨k + 1, last, by omega, rfl, by go_num, rfl, Lib.hid ⟨HN.out, hA.out.2⟩, hlast⟩, by simp [intOf]; omega⟩
      have h2' : (x == last) = false := by simpa using h2
      by_cases h3 : x ∈ is
      · have HG2 := Lib.hid (show (getM (oneM is) x).isSome = true by rw [oneM_get, decide_eq_true h3])
        have HN := Lib.hid (show r = some (is, wt) by rw [← hr.out]; unfold askP; rw [hA.out.1, HE.out, askL_cons, if_neg (by rintro (h | h); exact h1 h; exact h2 h), if_pos (.inl h3)])
        clear h1 h2 h3
        (repeat (first | (with_reducible first | refine xA ?_ | refine xB ?_ | refine xC ?_ | refine xD ?_ | refine xH ?_ | refine xI rfl ?_ | refine xE ?_ | refine xF ?_ | refine xG ?_) | go_skip | go_guarded | ((with_reducible refine wl_id ?_); refine wl_lookup rfl _ _ 39 true rfl 3 3 keyI Try.underlying39 (.int .i64 0) (zero3 _) ms (oneM is) rfl HM.out (-x) rfl hokn ?_; (simp only [if_true]; (rw [HG1.out]); generalize (getM (oneM is) (-x)).getD (.int .i64 0) = g1); (try simp only [Act.put, List.setIfInBounds_toArray, List.set_cons_succ, List.set_cons_zero])) | ((with_reducible refine wl_id ?_); refine wl_lookup rfl _ _ 39 true rfl 3 3 keyI Try.underlying39 (.int .i64 0) (zero3 _) ms (oneM is) rfl HM.out x rfl hok ?_; (simp only [if_true]; (rw [HG2.out]); generalize (getM (oneM is) x).getD (.int .i64 0) = g2); (try simp only [Act.put, List.setIfInBounds_toArray, List.set_cons_succ, List.set_cons_zero])) | go_values | go_skip | go_guarded | go_step | go_upon | go_back | ((with_reducible show Oper.upon _ _ _ _ _ _); go_simp) | (dsimp only)))
        go_ret
        rw [HN.out]
        exact ⟨rfl, fun p hp => by cases hp; exact H.out, Kept.refl _ _⟩
      have HG2 := Lib.hid (show (getM (oneM is) x).isSome = false by rw [oneM_get, decide_eq_false h3])
      by_cases h4 : last = 0
      · have h4' : (last != 0) = false := by simpa using h4
        have HN := Lib.hid (show askL is c 0 = askL is (c.drop (k + 1)) x by rw [hA.out.1, HE.out, askL_cons, if_neg (by rintro (h | h); exact h1 h; exact h2 h), if_neg (by rintro (h | h); exact h3 h; exact h h4)])
        clear h1 h2 h3 h4
        (repeat (first | (with_reducible first | refine xA ?_ | refine xB ?_ | refine xC ?_ | refine xD ?_ | refine xH ?_ | refine xI rfl ?_ | refine xE ?_ | refine xF ?_ | refine xG ?_) | go_skip | go_guarded | ((with_reducible refine wl_id ?_); refine wl_lookup rfl _ _ 39 true rfl 3 3 keyI Try.underlying39 (.int .i64 0) (zero3 _) ms (oneM is) rfl HM.out (-x) rfl hokn ?_; (simp only [if_true]; (rw [HG1.out]); generalize (getM (oneM is) (-x)).getD (.int .i64 0) = g1); (try simp only [Act.put, List.setIfInBounds_toArray, List.set_cons_succ, List.set_cons_zero])) | ((with_reducible refine wl_id ?_); refine wl_lookup rfl _ _ 39 true rfl 3 3 keyI Try.underlying39 (.int .i64 0) (zero3 _) ms (oneM is) rfl HM.out x rfl hok ?_; (simp only [if_true]; (rw [HG2.out]); generalize (getM (oneM is) x).getD (.int .i64 0) = g2); (try simp only [Act.put, List.setIfInBounds_toArray, List.set_cons_succ, List.set_cons_zero])) | go_values | go_skip | go_guarded | go_step | go_upon | go_back | ((with_reducible show Oper.upon _ _ _ _ _ _); go_simp) | (dsimp only)))
        exact ⟨⟨k + 1, x, by omega, rfl, by go_num, rfl, Lib.hid ⟨HN.out, fun _ => HXL.out⟩, hxb⟩, by simp [intOf]; omega⟩
      · have h4' : (last != 0) = true := by simpa using h4
        have HN := Lib.hid (show r = some (is, wt) by rw [← hr.out]; unfold askP; rw [hA.out.1, HE.out, askL_cons, if_neg (by rintro (h | h); exact h1 h; exact h2 h), if_pos (.inr h4)])
        clear h1 h2 h3 h4
        (repeat (first | (with_reducible first | refine xA ?_ | refine xB ?_ | refine xC ?_ | refine xD ?_ | refine xH ?_ | refine xI rfl ?_ | refine xE ?_ | refine xF ?_ | refine xG ?_) | go_skip | go_guarded | ((with_reducible refine wl_id ?_); refine wl_lookup rfl _ _ 39 true rfl 3 3 keyI Try.underlying39 (.int .i64 0) (zero3 _) ms (oneM is) rfl HM.out (-x) rfl hokn ?_; (simp only [if_true]; (rw [HG1.out]); generalize (getM (oneM is) (-x)).getD (.int .i64 0) = g1); (try simp only [Act.put, List.setIfInBounds_toArray, List.set_cons_succ, List.set_cons_zero])) | ((with_reducible refine wl_id ?_); refine wl_lookup rfl _ _ 39 true rfl 3 3 keyI Try.underlying39 (.int .i64 0) (zero3 _) ms (oneM is) rfl HM.out x rfl hok ?_; (simp only [if_true]; (rw [HG2.out]); generalize (getM (oneM is) x).getD (.int .i64 0) = g2); (try simp only [Act.put, List.setIfInBounds_toArray, List.set_cons_succ, List.set_cons_zero])) | go_values | go_skip | go_guarded | go_step | go_upon | go_back | ((with_reducible show Oper.upon _ _ _ _ _ _); go_simp) | (dsimp only)))
        go_ret
        rw [HN.out]
        exact ⟨rfl, fun p hp => by cases hp; exact H.out, Kept.refl _ _⟩
    · obtain rfl : k = c.length := by omega
      have e0 : askL is c 0 = some last := by rw [hA.out.1, List.drop_eq_nil_of_le (Nat.le_refl _)]; rfl
      by_cases h4 : last = 0
      · have h4' : (last != 0) = false := by simpa using h4
        have HN := Lib.hid (show r = none by rw [← hr.out]; unfold askP; rw [e0]; dsimp only; rw [if_pos h4])
        clear e0 h4
        (repeat (first | (with_reducible first | refine xA ?_ | refine xB ?_ | refine xC ?_ | refine xD ?_ | refine xH ?_ | refine xI rfl ?_ | refine xE ?_ | refine xF ?_ | refine xG ?_) | go_skip | go_guarded | (go_at_call 66; (with_reducible refine (HH.out).mono ?_); rintro _ w1 ⟨rfl, hR, hK⟩) | go_values | go_skip | go_guarded | go_step | go_upon | go_back | ((with_reducible show Oper.upon _ _ _ _ _ _); go_simp) | (dsimp only)))
        go_ret
        rw [HN.out]
        exact ⟨rfl, by simp, Kept.refl _ _⟩
      · have h4' : (last != 0) = true := by simpa using h4
        have HN := Lib.hid (show r = holdP is wt last by rw [← hr.out]; unfold askP; rw [e0]; dsimp only; rw [if_neg h4])
        have HH := Lib.hid (hold_any wr H.out last (hA.out.2 h4))
        rw [← HN.out] at HH
        clear e0 h4
        (repeat (first | (with_reducible first | refine xA ?_ | refine xB ?_ | refine xC ?_ | refine xD ?_ | refine xH ?_ | refine xI rfl ?_ | refine xE ?_ | refine xF ?_ | refine xG ?_) | go_skip | go_guarded | (go_at_call 66; (with_reducible refine (HH.out).mono ?_); rintro _ w1 ⟨rfl, hR, hK⟩) | go_values | go_skip | go_guarded | go_step | go_upon | go_back | ((with_reducible show Oper.upon _ _ _ _ _ _); go_simp) | (dsimp only)))
        go_ret
        exact ⟨rfl, hR, hK⟩

end Go.Proofs.Ytmaogkgjiplckaa

set_option linter.unusedSimpArgs false
set_option linter.unusedVariables false
namespace Go.Proofs.Ytmaogkgjiplckaa
open Go.RowKit
theorem holdP_len {is wt : List Int} {x : Int} {r : List Int × List Int} (h : holdP is wt x = some r) : r.1.length + wt.length = is.length + r.2.length ∧ is.length ≤ r.1.length := by
  unfold holdP at h
  split at h
  · cases h
  split at h
  · cases h; exact ⟨rfl, Nat.le_refl _⟩
  · cases h; simp; omega
theorem askP_len {is wt c : List Int} {r : List Int × List Int} (h : askP is wt c = some r) : r.1.length + wt.length = is.length + r.2.length ∧ is.length ≤ r.1.length := by
  unfold askP at h
  rcases hl : askL is c 0 with _ | l
  · rw [hl] at h; cases h; exact ⟨rfl, Nat.le_refl _⟩
  · rw [hl] at h
    dsimp only at h
    split at h
    · cases h
    · exact holdP_len h
theorem nodup_bound (a : Int) : ∀ (n : Nat) (l : List Int), l.Nodup → (∀ x ∈ l, a ≤ x ∧ x < a + n) → l.length ≤ n := by
  intro n
  induction n with
  | zero =>
    intro l _ h
    rcases l with _ | ⟨x, l⟩
    · simp
    · have := h x List.mem_cons_self; omega
  | succ n ih =>
    intro l hn h
    have h1 := ih (l.erase (a + n)) (hn.erase _) (fun x hx => by
      have h2 := h x (List.mem_of_mem_erase hx)
      have h3 : x ≠ a + n := by
        rintro rfl
        exact (List.Nodup.mem_erase_iff hn).1 hx |>.1 rfl
      omega)
    have h4 := List.length_erase (a := a + (n : Int)) (l := l)
    split at h4 <;> omega
theorem okL_len {l : List Int} (hn : l.Nodup) (h : ∀ x ∈ l, okL x) : l.length ≤ 2097153 := nodup_bound (-1048576) 2097153 l hn (fun x hx => by obtain ⟨_, h1, h2⟩ := h x hx; omega)
/-- a map's size in the heap -/
def mapSz (w : World) (b : Nat) : Nat := match w.heap[b]? with | some (.map es _) => es.size | _ => 0
theorem MapV.sz {κ : Type} {enc : κ → Value} {ok : κ → Prop} {w : World} {b : Nat} {m : List (κ × Value)} (h : MapV enc ok w b m) : mapSz w b = m.length := by
  obtain ⟨es, c, hb, he, _⟩ := h
  have : es.size = m.length := by have := congrArg List.length he; simpa using this
  unfold mapSz
  rw [hb]; exact this
theorem SPR.sizes {w : World} {sb : Nat} {lv : Value} {mi ms mw : Nat} {is wt : List Int} (h : SPR w sb lv mi ms mw is wt) : mapSz w ms = is.length ∧ mapSz w mw = wt.length := ⟨by rw [h.mis.sz, oneM_len], by rw [h.mwt.sz, oneM_len]⟩
def qOf (cl : List (List Int)) (l : List Int) : List (List Int) := l.map fun i => cl.getD i.toNat []
/-- where each literal stands -/
structure GIN (cl : List (List Int)) (gi : Int → List Int) : Prop where
  bd : ∀ x, ∀ i ∈ gi x, 0 ≤ i ∧ i < cl.length
  all : ∀ (x : Int) (k : Nat) (c : List Int), cl[k]? = some c → x ∈ c → (k : Int) ∈ gi x
  len : ∀ x, (gi x).length ≤ 1000000000
theorem GIN.q {cl : List (List Int)} {gi : Int → List Int} (h : GIN cl gi) (x : Int) : ∀ c ∈ cl, x ∈ c → c ∈ qOf cl (gi x) := by
  intro c hc hx
  obtain ⟨k, hk⟩ := List.mem_iff_getElem?.1 hc
  unfold qOf
  refine List.mem_map.2 ⟨k, h.all x k c hk hx, ?_⟩
  rw [Int.toNat_natCast, List.getD_eq_getElem?_getD, hk]; rfl
theorem qOf_at {cl : List (List Int)} {l : List Int} {j : Nat} {i : Int} {c : List Int} (hj : l[j]? = some i) (hc : cl[i.toNat]? = some c) : (qOf cl l).drop j = c :: (qOf cl l).drop (j + 1) := by
  refine drop_at ?_
  unfold qOf
  rw [List.getElem?_map, hj, Option.map_some, List.getD_eq_getElem?_getD, hc]; rfl

end Go.Proofs.Ytmaogkgjiplckaa

set_option linter.unusedSimpArgs false
set_option linter.unusedVariables false
namespace Go.Proofs.Ytmaogkgjiplckaa
open Go.RowKit
theorem zeroS (w : World) : (zeroValue 26).run Try.prog w = .ok (.slice none 0 0) w := by kernel_rfl
/-- the spreader's own ground: what is never written while it runs -/
structure SGr (w : World) (q n : Nat) (vs : List Value) (cl : List (List Int)) (gi : Int → List Int) (mi ms mw : Nat) : Prop where
  rows : RowV w q vs
  sk : SK ms mw q
  sls : SlsX (SK ms mw) w vs cl
  gin : ∃ m, MapV encI okI w mi m ∧ (∀ x, getM m x = none → gi x = []) ∧ ∀ x v, getM m x = some v → SlX (SK ms mw) w v (gi x)
  ki : SK ms mw mi
theorem SGr.kept {w w' : World} {q n : Nat} {vs : List Value} {cl : List (List Int)} {gi : Int → List Int} {mi ms mw : Nat} (h : SGr w q n vs cl gi mi ms mw) (hk : Kept (SK ms mw) w w') : SGr w' q n vs cl gi mi ms mw := by
  obtain ⟨h1, h2, h3, ⟨m, h4, h5, h6⟩, h7⟩ := h
  exact ⟨h1.kept hk h2, h2, h3.kept hk, ⟨m, h4.kept hk h7, h5, fun x v hx => (h6 x v hx).kept hk⟩, h7⟩

theorem SGr.look {w : World} {q n : Nat} {vs : List Value} {cl : List (List Int)} {gi : Int → List Int} {mi ms mw : Nat} (h : SGr w q n vs cl gi mi ms mw) : ∃ m, MapV encI okI w mi m ∧ ∀ x, ∃ a c, (getM m x).getD (.slice none 0 0) = .slice a (gi x).length c ∧ SlX (SK ms mw) w (.slice a (gi x).length c) (gi x) := by
  obtain ⟨m, h1, h2, h3⟩ := h.gin
  refine ⟨m, h1, fun x => ?_⟩
  rcases hx : getM m x with _ | v
  · rw [h2 x hx]
    exact ⟨none, 0, rfl, SlX.nil _ _⟩
  · have := h3 x v hx
    obtain ⟨a, c, rfl⟩ := this.shape
    exact ⟨a, c, rfl, this⟩
set_option maxRecDepth 100000 in
set_option maxHeartbeats 2000000 in
theorem run_any {cl : List (List Int)} {fr F : List Int} {gi : Int → List Int} {sb q n : Nat} {vs : List Value} {mi ms mw : Nat} {is0 wt0 : List Int} (w : World) (h : SPR w sb (.slice (some ⟨q, 0, none⟩) n n) mi ms mw is0 wt0) (hg : SGr w q n vs cl gi mi ms mw) (hn : cl.length = n) (hnb : n ≤ 100000000) (hG : GIN cl gi) (hcl : ∀ c ∈ cl, ∀ x ∈ c, okL x) (hll : ∀ c ∈ cl, c.length ≤ 1000000) (hQ : SQ cl fr F is0 wt0 []) :
    Calls Try.prog 68 #[.pointer (some ⟨sb, 0, none⟩)] w fun e w' => ∃ b, e = .returned (.bool b) ∧ (b = true → ∃ is', SPR w' sb (.slice (some ⟨q, 0, none⟩) n n) mi ms mw is' [] ∧ SQ cl fr F is' [] []) ∧ (b = false → Conflict cl fr) ∧ Kept (SK ms mw) w w' := by
  have HG := Lib.hid hg
  have HGI := Lib.hid hG
  have HCL := Lib.hid hcl
  have HLL := Lib.hid hll
  have HN := Lib.hid hn
  have hnI : (n : Int) ≤ 100000000 := by omega
  have HS0 := Lib.hid (show SPR w sb (.slice (some ⟨q, 0, none⟩) n n) mi ms mw is0 wt0 ∧ SQ cl fr F is0 wt0 [] from ⟨h, hQ⟩)
  obtain ⟨m, hmi⟩ := hg.look
  have HMI := Lib.hid hmi
  clear h hg hn hnb hG hcl hll hQ hmi
  go_enter Try.func68, Try.ntmps68
  (repeat (first | (with_reducible first | refine xA ?_ | refine xB ?_ | refine xC ?_ | refine xD ?_ | refine xH ?_ | refine xI rfl ?_ | refine xE ?_ | refine xF ?_ | refine xG ?_) | go_values | go_skip | go_guarded | go_step | go_upon | go_back | ((with_reducible show Oper.upon _ _ _ _ _ _); go_simp) | (dsimp only)))
  go_loopw [] (fun wr => ∃ (is wt : List Int), Hid (SPR wr sb (.slice (some ⟨q, 0, none⟩) n n) mi ms mw is wt) ∧ Hid (SQ cl fr F is wt []) ∧ Kept (SK ms mw) w wr) (fun wr => 2 * (2097153 - mapSz wr ms) + mapSz wr mw)
  case atStart => exact ⟨is0, wt0, Lib.hid HS0.out.1, Lib.hid HS0.out.2, Kept.refl _ _⟩
  case round =>
    obtain ⟨is, wt, HR, HQ, hK⟩ := hrel
    have hsz := Lib.hid HR.out.sizes
    have c0 : wr.cell? ⟨sb, 0, none⟩ = some (.slice (some ⟨q, 0, none⟩) n n) := by simp [World.cell?, HR.out.box]
    have c1 : wr.cell? ⟨sb, 1, none⟩ = some (.map (some mi)) := by simp [World.cell?, HR.out.box]
    have c3 : wr.cell? ⟨sb, 3, none⟩ = some (.map (some mw)) := by simp [World.cell?, HR.out.box]
    rcases Nat.eq_zero_or_pos wt.length with hz | hp
    · have hzI : decide ((wt.length : Int) > 0) = false := decide_eq_false (by omega)
      (repeat (first | (with_reducible first | refine xA ?_ | refine xB ?_ | refine xC ?_ | refine xD ?_ | refine xH ?_ | refine xI rfl ?_ | refine xE ?_ | refine xF ?_ | refine xG ?_) | go_skip | go_guarded | ((with_reducible refine wl_id ?_); refine wl_len rfl _ 39 rfl 3 3 Try.underlying39 mw (oneM wt) rfl HR.out.mwt ?_; (rw [oneM_len]); (try simp only [Act.put, List.setIfInBounds_toArray, List.set_cons_succ, List.set_cons_zero])) | go_values | go_skip | go_guarded | go_step | go_upon | go_back | ((with_reducible show Oper.upon _ _ _ _ _ _); go_simp) | (dsimp only)))
      go_ret
      obtain rfl : wt = [] := List.length_eq_zero_iff.1 hz
      exact ⟨true, rfl, fun _ => ⟨is, HR.out, HQ.out⟩, by simp, hK⟩
    · have hzI : decide ((wt.length : Int) > 0) = true := decide_eq_true (by omega)
      (repeat (first | (with_reducible first | refine xA ?_ | refine xB ?_ | refine xC ?_ | refine xD ?_ | refine xH ?_ | refine xI rfl ?_ | refine xE ?_ | refine xF ?_ | refine xG ?_) | go_skip | go_guarded | ((with_reducible refine wl_id ?_); refine wl_len rfl _ 39 rfl 3 3 Try.underlying39 mw (oneM wt) rfl HR.out.mwt ?_; (rw [oneM_len]); (try simp only [Act.put, List.setIfInBounds_toArray, List.set_cons_succ, List.set_cons_zero])) | ((with_reducible refine wl_id ?_); refine wl_range rfl _ 39 rfl 3 3 Try.underlying39 mw (oneM wt) rfl HR.out.mwt ?_; intro w1 hI hb1; (rw [oneM_keys] at hI); (try simp only [Act.put, List.setIfInBounds_toArray, List.set_cons_succ, List.set_cons_zero])) | go_values | go_skip | go_guarded | go_step | go_upon | go_back | ((with_reducible show Oper.upon _ _ _ _ _ _); go_simp) | (dsimp only)))
      refine wp_loop_rounds 1 ?_
      rw [rounds_succ]
      (repeat (first | (with_reducible first | refine xA ?_ | refine xB ?_ | refine xC ?_ | refine xD ?_ | refine xH ?_ | refine xI rfl ?_ | refine xE ?_ | refine xF ?_ | refine xG ?_) | go_skip | go_guarded | ((with_reducible refine wl_id ?_); refine wl_next rfl _ rfl (fun x y h => keyI.inj x y h) wr.heap.size mw (oneM wt) wt rfl hI (fun e => absurd e (by rintro rfl; simp at hp)) ?_; intro x xv w2 hxL hxm hI2 hg2 hent; have hb2 : Below wr.heap.size wr w2 := ((Kept.ofBelow (X := fun k => k < wr.heap.size) hb1).grown hg2 (fun q e hl => by injection e with e; omega)).toBelow (Nat.le_refl _) (fun k h => h); have hW2 := HR.out.mwt.kept (Kept.ofBelow (X := fun _ => True) hb2) trivial; have d3 := cell_keep hb2 c3; have hxo := HQ.out.rng x (HQ.out.sub x hxL); have hxb := hxo.2; have hokx : okI x := ⟨by omega, by omega⟩; have hoknx : okI (-x) := ⟨by omega, by omega⟩; obtain ⟨a3, m3, he3, hs3⟩ := HMI.out.2 (-x); have HE3 := Lib.hid he3; have HS3 := Lib.hid hs3; have hgl := HGI.out.len (-x); have hglI : ((gi (-x)).length : Int) ≤ 1000000000 := (by omega); have HX := Lib.hid hxL; have HXO := Lib.hid hxo; clear hxm hI2 hI hg2 he3 hs3 hxo hxL; (simp only [encI] at hent ⊢); (try simp only [Act.put, List.setIfInBounds_toArray, List.set_cons_succ, List.set_cons_zero])) | ((with_reducible refine wl_id ?_); refine wl_entry rfl _ rfl wr.heap.size rfl _ hent ?_; (try simp only [Act.put, List.setIfInBounds_toArray, List.set_cons_succ, List.set_cons_zero])) | ((with_reducible refine wl_id ?_); refine wl_delete rfl _ _ 39 3 rfl 3 keyI Try.underlying39 mw (oneM wt) rfl hW2 x rfl hokx ?_; intro w3 hM3 hg3; (rw [oneM_rem HQ.out.nodw] at hM3); have hk3 : Kept (SK ms mw) wr w3 := (Kept.ofBelow hb2).grown hg3 (fun q e _ hx => hx.2 (by injection e with e; exact e.symm)); have hK3 := hK.trans hk3; have d1 := hk3.cell c1 HR.out.apart; have hMi := HMI.out.1.kept hK3 HG.out.ki; have d0 := hk3.cell c0 HR.out.apart; have HM3 := Lib.hid (show SPR w3 sb (.slice (some ⟨q, 0, none⟩) n n) mi ms mw is (wt.erase x) from ⟨hk3.at HR.out.box HR.out.apart, (HR.out.mis.kept (Kept.ofBelow (X := fun _ => True) hb2) trivial).same (hg3.block _ (Nat.lt_of_lt_of_le HR.out.mis.lt hb2.size) (fun e => HR.out.ne (by injection e))), hM3, HR.out.ne, fun y hy => HR.out.sub y (List.mem_of_mem_erase hy)⟩); have HQ3 := Lib.hid (HQ.out.pick (x := x) (qOf cl (gi (-x))) (HGI.out.q (-x))); clear hM3 hg3 hW2 d3; (try simp only [Act.put, List.setIfInBounds_toArray, List.set_cons_succ, List.set_cons_zero])) | ((with_reducible refine wl_id ?_); refine wl_lookup rfl _ _ 107 false rfl 3 26 keyI Try.underlying107 (.slice none 0 0) (zeroS _) mi m rfl hMi (-x) rfl hoknx ?_; (simp only [Bool.false_eq_true, if_false]; (rw [HE3.out])); (try simp only [Act.put, List.setIfInBounds_toArray, List.set_cons_succ, List.set_cons_zero])) | go_values | go_skip | go_guarded | go_step | go_upon | go_back | ((with_reducible show Oper.upon _ _ _ _ _ _); go_simp) | (dsimp only)))
      clear hent hokx hoknx hxb d1 hMi hk3 hb2 hb1 c0 c1 c3 hzI
      go_loopw [34] (fun i wj => ∃ (j : Nat) (is2 wt2 : List Int), j ≤ (gi (-x)).length ∧ i = .int .i64 j ∧ Hid (SPR wj sb (.slice (some ⟨q, 0, none⟩) n n) mi ms mw is2 wt2) ∧ Hid (SQ cl fr F is2 wt2 ((qOf cl (gi (-x))).drop j)) ∧ Kept (SK ms mw) w wj ∧ Hid (is2.length + (wt.erase x).length = is.length + wt2.length ∧ is.length ≤ is2.length)) (fun i _ => (gi (-x)).length - (intOf i).toNat)
      case atStart => exact ⟨0, is, wt.erase x, Nat.zero_le _, rfl, HM3, HQ3, hK3, Lib.hid ⟨rfl, Nat.le_refl _⟩⟩
      case round =>
        clear hK3 HM3 HQ3 d0
        obtain ⟨j, is2, wt2, hj, rfl, HR2, HQ2, hK2, hms⟩ := hrel
        rcases Nat.lt_or_ge j (gi (-x)).length with hlt | hge
        · obtain ⟨b, o, rfl, hbs, _, _, hRow⟩ := HS3.out.row (by omega)
          obtain ⟨i, hi⟩ : ∃ y, (gi (-x))[j]? = some y := ⟨_, List.getElem?_eq_getElem hlt⟩
          have hci := hK2.cell (hRow j i hi) hbs
          have hib := HGI.out.bd _ i (List.mem_of_getElem? hi)
          obtain ⟨k, rfl⟩ := Int.eq_ofNat_of_zero_le hib.1
          obtain ⟨c, hc⟩ : ∃ c, cl[k]? = some c := ⟨_, List.getElem?_eq_getElem (by omega)⟩
          obtain ⟨v, hv⟩ : ∃ v, vs[k]? = some v := ⟨_, List.getElem?_eq_getElem (by have := HG.out.sls.1; omega)⟩
          have hcv := hK2.cell (HG.out.rows k v hv) HG.out.sk
          have hsv := (HG.out.sls.2 k v c hv hc).kept hK2
          have hkn : (k : Int) < (n : Int) := by have := HN.out; omega
          have d0 : wr.cell? ⟨sb, 0, none⟩ = some (.slice (some ⟨q, 0, none⟩) n n) := by simp [World.cell?, HR2.out.box]
          have HQD := Lib.hid (show (qOf cl (gi (-x))).drop j = c :: (qOf cl (gi (-x))).drop (j + 1) from qOf_at hi (by rw [Int.toNat_natCast]; exact hc))
          obtain ⟨av, mv, rfl⟩ := hsv.shape
          obtain ⟨r, hr⟩ : ∃ r, Hid (askP is2 wt2 c = r) := ⟨_, Lib.hid rfl⟩
          have HCM := Lib.hid (List.mem_of_getElem? hc)
          have HA := Lib.hid (ask_any wr HR2.out _ c hsv (HCL.out c HCM.out) (HLL.out c HCM.out) r hr)
          have HQ4 := HQ2.out
          rw [HQD.out] at HQ4
          have HQ5 := Lib.hid (HQ4.ask HCM.out (HCL.out c HCM.out))
          rw [hr.out] at HQ5
          clear hi hib hc hv hRow hsv HQ4
          (repeat (first | (with_reducible first | refine xA ?_ | refine xB ?_ | refine xC ?_ | refine xD ?_ | refine xH ?_ | refine xI rfl ?_ | refine xE ?_ | refine xF ?_ | refine xG ?_) | go_skip | go_guarded | (go_at_call 67; (with_reducible refine (HA.out).mono ?_); rintro _ w4 ⟨rfl, hR4, hK4⟩; have hK24 := hK2.trans hK4; rcases r with _ | r; rotate_left; all_goals (simp only [Option.isSome_some, Option.isSome_none])) | go_values | go_skip | go_guarded | go_step | go_upon | go_back | ((with_reducible show Oper.upon _ _ _ _ _ _); go_simp) | (dsimp only)))
          · have hq6 := HQ5.out.1 r rfl
            have hl := askP_len hr.out
            exact ⟨⟨j + 1, r.1, r.2, by omega, by go_num, Lib.hid (hR4 r rfl), Lib.hid hq6.1, hK24, Lib.hid (by have := hms.out; omega)⟩, by simp [intOf]; omega⟩
          · (repeat (first | (with_reducible first | refine xA ?_ | refine xB ?_ | refine xC ?_ | refine xD ?_ | refine xH ?_ | refine xI rfl ?_ | refine xE ?_ | refine xF ?_ | refine xG ?_) | go_values | go_skip | go_guarded | go_step | go_upon | go_back | ((with_reducible show Oper.upon _ _ _ _ _ _); go_simp) | (dsimp only)))
            go_ret
            exact ⟨false, rfl, by simp, fun _ => HQ5.out.2 rfl, hK24⟩
        · obtain rfl : j = (gi (-x)).length := by omega
          (repeat (first | (with_reducible first | refine xA ?_ | refine xB ?_ | refine xC ?_ | refine xD ?_ | refine xH ?_ | refine xI rfl ?_ | refine xE ?_ | refine xF ?_ | refine xG ?_) | go_values | go_skip | go_guarded | go_step | go_upon | go_back | ((with_reducible show Oper.upon _ _ _ _ _ _); go_simp) | (dsimp only)))
          have hq6 := HQ2.out
          rw [show (qOf cl (gi (-x))).drop (gi (-x)).length = [] from List.drop_eq_nil_of_le (by simp [qOf])] at hq6
          refine ⟨⟨is2, wt2, HR2, Lib.hid hq6, hK2⟩, ?_⟩
          have hz2 := HR2.out.sizes
          have hz1 := hsz.out
          have hb2 := okL_len hq6.nod hq6.rng
          have hm := hms.out
          rw [List.length_erase_of_mem HX.out] at hm
          rw [hz1.1, hz1.2, hz2.1, hz2.2]
          omega

end Go.Proofs.Ytmaogkgjiplckaa

set_option linter.unusedSimpArgs false
set_option linter.unusedVariables false
namespace Go.Proofs.Ytmaogkgjiplckaa
open Go.RowKit

def updG (gi : Int → List Int) (x i : Int) : Int → List Int := fun y => if y = x then gi x ++ [i] else gi y
structure GI2 (cl : List (List Int)) (gi : Int → List Int) (k j : Nat) : Prop where
  bd : ∀ x, ∀ i ∈ gi x, 0 ≤ i ∧ i < cl.length
  all : ∀ (x : Int) (k' : Nat) (c : List Int), k' < k → cl[k']? = some c → x ∈ c → (k' : Int) ∈ gi x
  cur : ∀ (x : Int) (c : List Int), cl[k]? = some c → x ∈ c.take j → (k : Int) ∈ gi x
  len : ∀ x, (gi x).length ≤ 64 * k + j
section
variable {cl : List (List Int)} {gi : Int → List Int} {k j : Nat}
theorem GI2.start : GI2 cl (fun _ => []) 0 0 := ⟨by simp, fun x k' c h => by omega, by simp, by simp⟩
theorem updG_mem {x i y u : Int} (h : u ∈ gi y) : u ∈ updG gi x i y := by
  unfold updG
  split
  · rename_i e; subst e; exact List.mem_append_left _ h
  · exact h
theorem GI2.nextJ (h : GI2 cl gi k j) {c : List Int} {x : Int} (hc : cl[k]? = some c) (hx : c[j]? = some x) : GI2 cl (updG gi x k) k (j + 1) := by
  have hk := (List.getElem?_eq_some_iff.1 hc).1
  refine ⟨fun y i hi => ?_, fun y k' c' a b d => updG_mem (h.all y k' c' a b d), fun y c' a b => ?_, fun y => ?_⟩
  · unfold updG at hi
    split at hi
    · rcases List.mem_append.1 hi with hi | hi
      · exact h.bd _ i hi
      · rw [List.mem_singleton] at hi; subst hi; omega
    · exact h.bd _ i hi
  · rw [hc] at a; cases a
    rw [list_upto hx] at b
    rcases List.mem_append.1 b with b | b
    · exact updG_mem (h.cur y c hc b)
    · rw [List.mem_singleton] at b; subst b
      unfold updG; rw [if_pos rfl]; simp
  · unfold updG
    have h1 := h.len x
    have h2 := h.len y
    split
    · rw [List.length_append, List.length_singleton]; omega
    · omega
theorem GI2.nextK (h : GI2 cl gi k j) {c : List Int} (hc : cl[k]? = some c) (hj : j = c.length) (hl : c.length ≤ 64) : GI2 cl gi (k + 1) 0 := by
  refine ⟨h.bd, fun y k' c' a b d => ?_, by simp, fun y => by have := h.len y; omega⟩
  rcases Nat.lt_or_ge k' k with hlt | hge
  · exact h.all y k' c' hlt b d
  · obtain rfl : k' = k := by omega
    rw [hc] at b; cases b
    exact h.cur y c hc (by rw [hj, List.take_of_length_le (Nat.le_refl _)]; exact d)
theorem GI2.done (h : GI2 cl gi k 0) (hk : k = cl.length) (hn : cl.length ≤ 10000000) : GIN cl gi :=
  ⟨h.bd, fun x k' c a b => h.all x k' c (by have := (List.getElem?_eq_some_iff.1 a).1; omega) a b, fun x => by have := h.len x; omega⟩
end

theorem get_put {κ : Type} [DecidableEq κ] (m : List (κ × Value)) (x y : κ) (v : Value) : getM (putM m x v) y = if y = x then some v else getM m y := by
  unfold putM
  by_cases hm : x ∈ m.map (·.1)
  · rw [if_pos hm]
    unfold getM
    induction m with
    | nil => simp at hm
    | cons p m ih =>
      rw [List.map_cons, List.find?_cons, List.find?_cons]
      by_cases e : p.1 = x
      · rw [if_pos e]
        by_cases hy : y = x
        · subst hy; simp
        · have : ¬ x = y := fun h => hy h.symm
          rw [if_neg hy, decide_eq_false this, e, decide_eq_false this]
          dsimp only
          by_cases hm2 : x ∈ m.map (·.1)
          · have := ih hm2; rw [if_neg hy] at this; exact this
          · have e2 : m.map (fun p => if p.1 = x then (x, v) else p) = m := by
              conv => rhs; rw [← List.map_id m]
              refine List.map_congr_left fun q hq => ?_
              have : q.1 ≠ x := fun h => hm2 (List.mem_map.2 ⟨q, hq, h⟩)
              rw [if_neg this]; rfl
            rw [e2]
      · rw [if_neg e]
        by_cases hy : p.1 = y
        · rw [decide_eq_true hy]
          have : ¬ y = x := fun h => e (hy.trans h)
          rw [if_neg this]
        · rw [decide_eq_false hy]
          rw [List.map_cons, List.mem_cons] at hm
          exact ih (hm.resolve_left (fun h => e h.symm))
  · rw [if_neg hm]
    unfold getM
    rw [List.find?_append]
    by_cases hy : y = x
    · subst hy
      have : m.find? (fun p => decide (p.1 = y)) = none := List.find?_eq_none.2 fun p hp => by
        simpa using fun h => hm (List.mem_map.2 ⟨p, hp, h⟩)
      rw [this, if_pos rfl]; simp
    · rw [if_neg hy]
      cases h : m.find? (fun p => decide (p.1 = y)) with
      | some q => rfl
      | none =>
        have : ¬ x = y := fun h => hy h.symm
        simp [this]

/-- a map of slices of ints, each in a row of its own -/
def Grp (w : World) (B b : Nat) (gi : Int → List Int) (m : List (Int × Value)) : Prop :=
  MapV encI okI w b m ∧ (∀ x, getM m x = none → gi x = []) ∧ (∀ x v, getM m x = some v → w.ownsRow B 3 1 v (gi x).length ((gi x).map (Value.int .i64))) ∧
    ∀ x y v u, getM m x = some v → getM m y = some u → x ≠ y → ∀ k, v.ownBlock = some k → u.ownBlock ≠ some k
theorem Grp.made {w : World} {B b : Nat} (h : MapV encI okI w b []) : Grp w B b (fun _ => []) [] := ⟨h, fun _ _ => rfl, by simp [getM], by simp [getM]⟩
theorem Grp.own {w : World} {B b : Nat} {gi : Int → List Int} {m : List (Int × Value)} (h : Grp w B b gi m) (x : Int) : w.ownsRow B 3 1 ((getM m x).getD (.slice none 0 0)) (gi x).length ((gi x).map (Value.int .i64)) := by
  rcases hx : getM m x with _ | v
  · rw [h.2.1 x hx]; exact World.ownsRow_nil _ _ _ _
  · exact h.2.2.1 x v hx
theorem Grp.put {w w2 w3 : World} {B b : Nat} {gi : Int → List Int} {m : List (Int × Value)} (h : Grp w B b gi m) {x i : Int} {v' : Value} (hg : w.grownBy w2 ((getM m x).getD (.slice none 0 0)).ownBlock)
    (ho : w2.ownsRow B 3 1 v' ((gi x).length + 1) ((gi x ++ [i]).map (Value.int .i64))) (hl : v'.ownBlock = ((getM m x).getD (.slice none 0 0)).ownBlock ∨ ∀ k, v'.ownBlock = some k → w.heap.size ≤ k)
    (hM : MapV encI okI w3 b (putM m x v')) (hg3 : w2.grownBy w3 (some b)) (hb : b < B) : Grp w3 B b (updG gi x i) (putM m x v') := by
  have keep3 : ∀ (v : Value) (n : Nat) (l : List Value), w2.ownsRow B 3 1 v n l → w3.ownsRow B 3 1 v n l := fun v n l h => h.kept hg3 (by
    rcases hv : v.ownBlock with _ | k
    · exact .inl rfl
    · right; intro e; injection e with e; have := (h.lt k hv).1; omega)
  have other : ∀ y u, y ≠ x → getM m y = some u → w3.ownsRow B 3 1 u (gi y).length ((gi y).map (Value.int .i64)) := fun y u hne hu => by
    refine keep3 _ _ _ ((h.2.2.1 y u hu).kept hg ?_)
    rcases hv : u.ownBlock with _ | k
    · exact .inl rfl
    · right
      intro e
      rcases hx : getM m x with _ | v
      · rw [hx] at e; simp [Value.ownBlock] at e
      · rw [hx] at e
        exact h.2.2.2 x y v u hx hu (Ne.symm hne) k e.symm hv
  have far : ∀ y u k, y ≠ x → getM m y = some u → v'.ownBlock = some k → u.ownBlock ≠ some k := fun y u k hne hu hk e => by
    rcases hl with hl | hl
    · rcases hx : getM m x with _ | v
      · rw [hl, hx] at hk; simp [Value.ownBlock] at hk
      · rw [hl, hx] at hk
        exact h.2.2.2 x y v u hx hu (Ne.symm hne) k hk e
    · have h1 := hl k hk
      have h2 := ((h.2.2.1 y u hu).lt k e).2
      omega
  refine ⟨hM, fun y hy => ?_, fun y u hu => ?_, fun y z u t hu ht hne k hk => ?_⟩
  · rw [get_put] at hy
    unfold updG
    split at hy
    · cases hy
    · rename_i hn; rw [if_neg hn]; exact h.2.1 y hy
  · rw [get_put] at hu
    unfold updG
    split at hu
    · rename_i e; cases hu; subst e; rw [if_pos rfl]
      have := keep3 _ _ _ ho
      simpa using this
    · rename_i e; rw [if_neg e]; exact other y u e hu
  · rw [get_put] at hu ht
    split at hu
    · rename_i ey; cases hu
      split at ht
      · rename_i ez; exact absurd (ey.trans ez.symm) hne
      · rename_i ez; exact far z t k ez ht hk
    · rename_i ey
      split at ht
      · cases ht; exact fun e => far y u k ey hu e hk
      · exact h.2.2.2 y z u t hu ht hne k hk

end Go.Proofs.Ytmaogkgjiplckaa

set_option linter.unusedSimpArgs false
set_option linter.unusedVariables false
namespace Go.Proofs.Ytmaogkgjiplckaa
open Go.RowKit
def lenOf : Value → Nat
  | .slice _ n _ => n
  | _ => 0
theorem own_len {w : World} {B T n : Nat} {v : Value} {l : List Value} (h : w.ownsRow B T 1 v n l) : lenOf v = n := by
  rcases h.2 with ⟨rfl, h0⟩ | ⟨g, cap, cur, rfl, _⟩
  · exact h0.symm
  · rfl
theorem owns_base {w : World} {B B' T n : Nat} {v : Value} {l : List Value} (h : w.ownsRow B T 1 v n l) (hb : B' ≤ B) : w.ownsRow B' T 1 v n l := by
  rcases h with ⟨b2, ⟨e, r⟩ | ⟨g, cap, cur, e, h1, h2⟩⟩
  · exact ⟨b2, .inl ⟨e, r⟩⟩
  · exact ⟨b2, .inr ⟨g, cap, cur, e, by omega, h2⟩⟩
theorem perm_pick {L : List Int} (hn : L.Nodup) {x : Int} (hx : x ∈ L) : (x :: L.filter fun y => decide (y ≠ x)).Perm L := by
  have h1 := List.perm_cons_erase hx
  rw [hn.erase_eq_filter] at h1
  have : (L.filter fun y => decide (y ≠ x)) = L.filter fun y => y != x := List.filter_congr fun y _ => by simp [bne, Bool.beq_eq_decide_eq]
  rw [this]
  exact h1.symm
/-- while the places are gathered -/
structure S1 (w0 : World) (lv : Value) (gi : Int → List Int) (m : List (Int × Value)) (u : World) : Prop where
  box : u.heap[w0.heap.size + 1 + 1 + 1]? = some (.cells #[lv, .map (some w0.heap.size), .map (some (w0.heap.size + 1)), .map (some (w0.heap.size + 1 + 1))] 109 (0, 0))
  ms : MapV encI okI u (w0.heap.size + 1) []
  mw : MapV encI okI u (w0.heap.size + 1 + 1) []
  grp : Grp u (w0.heap.size + 1 + 1 + 1 + 1) w0.heap.size gi m
  bel : Below w0.heap.size w0 u
section
variable {w0 u u2 u3 : World} {lv : Value} {gi : Int → List Int} {m : List (Int × Value)}
theorem S1.same (h : S1 w0 lv gi m u) (hg : u.grownBy u2 none) : S1 w0 lv gi m u2 := by
  have hk : Kept (fun _ => True) u u2 := ⟨hg.os, hg.tape, hg.output, hg.size, fun i hi _ => hg.block i hi (by simp)⟩
  obtain ⟨h1, h2, h3, ⟨g1, g2, g3, g4⟩, h5⟩ := h
  exact ⟨hk.at h1 trivial, h2.kept hk trivial, h3.kept hk trivial, ⟨g1.kept hk trivial, g2, fun x v hx => owns_kept (g3 x v hx) hk fun _ _ => trivial, g4⟩, h5.trans (hk.toBelow h5.size fun _ _ => trivial)⟩
theorem S1.step (h : S1 w0 lv gi m u) {x i : Int} {v' : Value} (hg : u.grownBy u2 ((getM m x).getD (.slice none 0 0)).ownBlock)
    (ho : u2.ownsRow (w0.heap.size + 1 + 1 + 1 + 1) 3 1 v' ((gi x).length + 1) ((gi x ++ [i]).map (Value.int .i64))) (hl : v'.ownBlock = ((getM m x).getD (.slice none 0 0)).ownBlock ∨ ∀ k, v'.ownBlock = some k → u.heap.size ≤ k)
    (hM : MapV encI okI u3 w0.heap.size (putM m x v')) (hg3 : u2.grownBy u3 (some w0.heap.size)) : S1 w0 lv (updG gi x i) (putM m x v') u3 := by
  have ho0 := h.grp.own x
  have hk : Kept (fun k => k < w0.heap.size + 1 + 1 + 1 + 1) u u2 := ⟨hg.os, hg.tape, hg.output, hg.size, fun j hj hx => hg.block j hj (fun e => by have := (ho0.lt j e.symm).1; omega)⟩
  have hk3 : Kept (fun k => k < w0.heap.size + 1 + 1 + 1 + 1 ∧ k ≠ w0.heap.size) u u3 := (hk.mono fun _ _ h => h.1).trans ⟨hg3.os, hg3.tape, hg3.output, hg3.size, fun j hj hx => hg3.block j hj (fun e => hx.2 (by injection e))⟩
  refine ⟨hk3.at h.box ⟨by omega, by omega⟩, h.ms.kept hk3 ⟨by omega, by omega⟩, h.mw.kept hk3 ⟨by omega, by omega⟩, h.grp.put hg ho hl hM hg3 (by omega), h.bel.trans (hk3.toBelow h.bel.size fun k hk => ⟨by omega, by omega⟩)⟩
end


theorem S1.new (w : World) (lv : Value) : S1 w lv (fun _ => []) [] ((((w.alloc (.map #[] 0)).alloc (.map #[] 0)).alloc (.map #[] 0)).alloc (.cells #[lv, .map (some w.heap.size), .map (some (w.heap.size + 1)), .map (some (w.heap.size + 1 + 1))] 109)) := by
  have k0 := MapV.made (enc := encI) (ok := okI) w
  have k1 := MapV.made (enc := encI) (ok := okI) (w.alloc (.map #[] 0))
  have k2 := MapV.made (enc := encI) (ok := okI) ((w.alloc (.map #[] 0)).alloc (.map #[] 0))
  have k3 := heap_alloc_new (((w.alloc (.map #[] 0)).alloc (.map #[] 0)).alloc (.map #[] 0)) (.cells #[lv, .map (some w.heap.size), .map (some (w.heap.size + 1)), .map (some (w.heap.size + 1 + 1))] 109)
  have al : ∀ (u : World) (o : Obj), Kept (fun _ => True) u (u.alloc o) := fun u o => (Kept.refl _ u).alloc o
  simp only [World.size_alloc] at k0 k1 k2 k3
  refine ⟨k3, ?_, ?_, Grp.made ?_, ?_⟩
  · exact ((k1.kept (al _ _) trivial).kept (al _ _) trivial)
  · exact k2.kept (al _ _) trivial
  · exact ((k0.kept (al _ _) trivial).kept (al _ _) trivial).kept (al _ _) trivial
  · exact ((((((Kept.refl (fun _ => True) w).alloc _).alloc _).alloc _).alloc _).toBelow (Nat.le_refl _) fun _ _ => trivial)
theorem S1.alloc {w0 u : World} {lv : Value} {gi : Int → List Int} {m : List (Int × Value)} (h : S1 w0 lv gi m u) (o : Obj) : S1 w0 lv gi m (u.alloc o) := h.same ⟨rfl, rfl, rfl, by simp, fun k hk _ => Below.heap_alloc u o k hk⟩
set_option maxRecDepth 100000 in
set_option maxHeartbeats 4000000 in
theorem Spread_any {Y : Nat → Prop} (w : World) (q n : Nat) (vs : List Value) (cl : List (List Int)) (vf : Value) (fr : List Int) (hq : RowV w q vs) (hqb : q < w.heap.size) (hS : SlsX Y w vs cl) (hn : cl.length = n) (hf : SlX Y w vf fr) (hcl : ∀ c ∈ cl, ∀ x ∈ c, okL x) (hfr : ∀ x ∈ fr, okL x) (hnb : n ≤ 10000000) (hll : ∀ c ∈ cl, c.length ≤ 64) (hfl : fr.length ≤ 1000000) (hone : ∃ x, Der cl fr x) :
    Calls Try.prog 34 #[.slice (some ⟨q, 0, none⟩) n n, vf] w fun e w' => (Conflict cl fr ∧ e = .returned (.tuple #[.slice none 0 0, .bool false]) ∧ Below w.heap.size w w') ∨
      ∃ (v : Value) (out is : List Int), e = .returned (.tuple #[v, .bool true]) ∧ w'.ownsRow w.heap.size 3 1 v out.length (out.map (Value.int .i64)) ∧ (∀ x, x ∈ is ↔ Der cl fr x) ∧ (∀ x ∈ is, -x ∉ is) ∧ is.Nodup ∧ out.Perm is ∧ out.Pairwise (fun x y => absI x ≤ absI y) ∧ ¬ Conflict cl fr ∧ Below w.heap.size w w' := by
  have hmm := @run_makeMap Try.prog
  obtain ⟨af, mf, rfl⟩ := hf.shape
  have HQ := Lib.hid hq
  have HS := Lib.hid hS
  have HN := Lib.hid hn
  have HF := Lib.hid hf
  have HCL := Lib.hid hcl
  have HFR := Lib.hid hfr
  have HLL := Lib.hid hll
  have HQB := Lib.hid hqb
  have hnI : (n : Int) ≤ 10000000 := by omega
  have hfI : (fr.length : Int) ≤ 1000000 := by omega
  have HONE := Lib.hid hone
  clear hq hS hn hf hcl hfr hll hfl hqb hone
  go_enter Try.func34, Try.ntmps34
  (repeat (first | (with_reducible first | refine xA ?_ | refine xB ?_ | refine xC ?_ | refine xD ?_ | refine xH ?_ | refine xI rfl ?_ | refine xE ?_ | refine xF ?_ | refine xG ?_) | go_skip | go_guarded | (go_at_call 65; (with_reducible refine (Right_any _ q n vs cl (HQ.out.kept (Kept.ofBelow (X := fun _ => True) (S1.new w _).bel) trivial) (HS.out.kept (Kept.ofBelow (S1.new w _).bel)) HN.out HCL.out (by omega) (fun c hc => by have := HLL.out c hc; omega)).mono ?_); rintro _ w1 ⟨rfl, hw1⟩; have HS1 := Lib.hid (S1.new w (.slice (some ⟨q, 0, none⟩) n n)); (rw [← hw1] at HS1); clear hw1) | (go_at_call 65; (with_reducible refine (Right_any (Y := Y) _ w1.heap.size 1 [.slice af fr.length mf] [fr] (RowV.one _ _ _) (SlsX.one (HF.out.kept (Kept.ofBelow (HS1.out.alloc _).bel))) rfl (fun c hc => by (rw [List.mem_singleton] at hc); subst hc; exact HFR.out) (by omega) (fun c hc => by (rw [List.mem_singleton] at hc); subst hc; omega)).mono ?_); rintro _ w2 ⟨rfl, hw2⟩; replace HS1 := Lib.hid (HS1.out.alloc (.cells #[.slice af fr.length mf] 26)); (rw [← hw2] at HS1); clear hw2) | go_values | go_skip | go_guarded | go_step | go_upon | go_back | (dsimp only)))
  go_loopw [34] (fun i wr => ∃ (k : Nat) (gi : Int → List Int) (m : List (Int × Value)), k ≤ n ∧ i = .int .i64 k ∧ Hid (GI2 cl gi k 0) ∧ Hid (S1 w (.slice (some ⟨q, 0, none⟩) n n) gi m wr)) (fun i _ => n - (intOf i).toNat)
  case atStart => exact ⟨0, _, _, Nat.zero_le _, rfl, Lib.hid GI2.start, HS1⟩
  case round =>
    clear HS1
    obtain ⟨k, gi, m, hk, rfl, HG2, HS1⟩ := hrel
    rcases Nat.lt_or_ge k n with hlt | hge
    · obtain ⟨c, hc⟩ : ∃ c, cl[k]? = some c := ⟨_, List.getElem?_eq_getElem (by have := HN.out; omega)⟩
      obtain ⟨xv, hx⟩ : ∃ x, vs[k]? = some x := ⟨_, List.getElem?_eq_getElem (by have := HN.out; have := HS.out.1; omega)⟩
      have hcx := cell_keep HS1.out.bel (HQ.out k xv hx)
      have hsx := HS.out.2 k xv c hx hc
      have hcl := HLL.out c (List.mem_of_getElem? hc)
      have hclI : (c.length : Int) ≤ 64 := by omega
      have HC := Lib.hid (HCL.out c (List.mem_of_getElem? hc))
      have Hck := Lib.hid hc
      have Hcl := Lib.hid hcl
      obtain ⟨ax, cx, rfl⟩ := hsx.shape
      have HSx := Lib.hid hsx
      clear hsx hc hx hcl
      (repeat (first | (with_reducible first | refine xA ?_ | refine xB ?_ | refine xC ?_ | refine xD ?_ | refine xH ?_ | refine xI rfl ?_ | refine xE ?_ | refine xF ?_ | refine xG ?_) | go_values | go_skip | go_guarded | go_step | go_upon | go_back | (dsimp only)))
      go_loopw [41] (fun i wr => ∃ (j : Nat) (gi : Int → List Int) (m : List (Int × Value)), j ≤ c.length ∧ i = .int .i64 j ∧ Hid (GI2 cl gi k j) ∧ Hid (S1 w (.slice (some ⟨q, 0, none⟩) n n) gi m wr)) (fun i _ => c.length - (intOf i).toNat)
      case atStart => exact ⟨0, gi, m, Nat.zero_le _, rfl, HG2, HS1⟩
      case round =>
        clear HS1 HG2 hcx gi m
        obtain ⟨j, gi, m, hj, rfl, HG2, HS1⟩ := hrel
        rcases Nat.lt_or_ge j c.length with hlt' | hge'
        · obtain ⟨b, o, rfl, _, _, _, hR⟩ := HSx.out.row (by omega)
          obtain ⟨x, hx⟩ : ∃ y, c[j]? = some y := ⟨_, List.getElem?_eq_getElem hlt'⟩
          have hcy := cell_keep HS1.out.bel (hR j x hx)
          have hxo := HC.out x (List.mem_of_getElem? hx)
          have hokx : okI x := ⟨by have := hxo.2.1; omega, by have := hxo.2.2; omega⟩
          have Hx := Lib.hid hx
          clear hR hx hxo
          (repeat (first | (with_reducible first | refine xA ?_ | refine xB ?_ | refine xC ?_ | refine xD ?_ | refine xH ?_ | refine xI rfl ?_ | refine xE ?_ | refine xF ?_ | refine xG ?_) | go_values | go_skip | go_guarded | go_step | go_upon | go_back | (dsimp only)))
          refine wp_region_held (S := fun u => u.heap[w.heap.size + 1 + 1 + 1]? = some (.cells #[.slice (some ⟨q, 0, none⟩) n n, .map (some w.heap.size), .map (some (w.heap.size + 1)), .map (some (w.heap.size + 1 + 1))] 109 (0, 0))) (by kernel_rfl) ?_
          replace HS1 : Hid (S1 w (.slice (some ⟨q, 0, none⟩) n n) gi m ({ wr with drawn := wr.drawn + 1 } : World)) := Lib.hid (HS1.out.same ⟨rfl, rfl, rfl, Nat.le_refl _, fun _ _ _ => rfl⟩)
          clear hcy
          generalize ({ wr with drawn := wr.drawn + 1 } : World) = u0 at *
          have HSb := HS1.out.box
          refine wpAnyH_take (i := 0) (v := .pointer (some ⟨w.heap.size + 1 + 1 + 1, 0, none⟩)) rfl (by kernel_rfl) (by kernel_rfl) (by kernel_rfl) (fun _ _ _ h => h) (Or.inl ⟨rfl, fun w _ => by go_simp⟩) HSb ?_; simp only [Act.put, List.getElem_toArray, List.getElem_cons_zero, List.getElem_cons_succ, List.setIfInBounds_toArray, List.set_cons_succ, List.set_cons_zero]
          refine wpAnyH_take (i := 1) (v := .pointer (some ⟨w.heap.size + 1 + 1 + 1, 0, none⟩)) rfl (by kernel_rfl) (by kernel_rfl) (by kernel_rfl) (fun _ _ _ h => h) (Or.inl ⟨rfl, fun w _ => by go_simp⟩) HSb ?_; simp only [Act.put, List.getElem_toArray, List.getElem_cons_zero, List.getElem_cons_succ, List.setIfInBounds_toArray, List.set_cons_succ, List.set_cons_zero]
          refine wpAnyH_take (i := 2) (v := .pointer (some ⟨w.heap.size + 1 + 1 + 1, 1, none⟩)) rfl (by kernel_rfl) (by kernel_rfl) (by kernel_rfl) (fun _ _ _ h => h) (Or.inl ⟨rfl, fun w _ => by go_simp⟩) HSb ?_; simp only [Act.put, List.getElem_toArray, List.getElem_cons_zero, List.getElem_cons_succ, List.setIfInBounds_toArray, List.set_cons_succ, List.set_cons_zero]
          refine wpAnyH_take (i := 3) (v := .map (some w.heap.size)) rfl (by kernel_rfl) (by kernel_rfl) (by kernel_rfl) (fun _ _ _ h => h) (Or.inl ⟨rfl, fun w hw => by have hx := (box4g hw).2.1; go_simp⟩) HSb ?_
          simp only [Act.put, List.getElem_toArray, List.getElem_cons_zero, List.getElem_cons_succ, List.setIfInBounds_toArray, List.set_cons_succ, List.set_cons_zero]
          refine wpAnyH_take (i := 4) (v := .int .i64 x) rfl (by kernel_rfl) (by kernel_rfl) (by kernel_rfl) (fun _ _ _ h => h) (Or.inl ⟨rfl, fun w _ => by go_simp⟩) HSb ?_; simp only [Act.put, List.getElem_toArray, List.getElem_cons_zero, List.getElem_cons_succ, List.setIfInBounds_toArray, List.set_cons_succ, List.set_cons_zero]
          refine wpAnyH_take (i := 5) (v := .pointer (some ⟨w.heap.size + 1 + 1 + 1, 0, none⟩)) rfl (by kernel_rfl) (by kernel_rfl) (by kernel_rfl) (fun _ _ _ h => h) (Or.inl ⟨rfl, fun w _ => by go_simp⟩) HSb ?_; simp only [Act.put, List.getElem_toArray, List.getElem_cons_zero, List.getElem_cons_succ, List.setIfInBounds_toArray, List.set_cons_succ, List.set_cons_zero]
          refine wpAnyH_take (i := 6) (v := .pointer (some ⟨w.heap.size + 1 + 1 + 1, 0, none⟩)) rfl (by kernel_rfl) (by kernel_rfl) (by kernel_rfl) (fun _ _ _ h => h) (Or.inl ⟨rfl, fun w _ => by go_simp⟩) HSb ?_; simp only [Act.put, List.getElem_toArray, List.getElem_cons_zero, List.getElem_cons_succ, List.setIfInBounds_toArray, List.set_cons_succ, List.set_cons_zero]
          refine wpAnyH_take (i := 7) (v := .pointer (some ⟨w.heap.size + 1 + 1 + 1, 1, none⟩)) rfl (by kernel_rfl) (by kernel_rfl) (by kernel_rfl) (fun _ _ _ h => h) (Or.inl ⟨rfl, fun w _ => by go_simp⟩) HSb ?_; simp only [Act.put, List.getElem_toArray, List.getElem_cons_zero, List.getElem_cons_succ, List.setIfInBounds_toArray, List.set_cons_succ, List.set_cons_zero]
          refine wpAnyH_take (i := 8) (v := .map (some w.heap.size)) rfl (by kernel_rfl) (by kernel_rfl) (by kernel_rfl) (fun _ _ _ h => h) (Or.inl ⟨rfl, fun w hw => by have hx := (box4g hw).2.1; go_simp⟩) HSb ?_
          simp only [Act.put, List.getElem_toArray, List.getElem_cons_zero, List.getElem_cons_succ, List.setIfInBounds_toArray, List.set_cons_succ, List.set_cons_zero]
          refine wpAnyH_take (i := 9) (v := .int .i64 x) rfl (by kernel_rfl) (by kernel_rfl) (by kernel_rfl) (fun _ _ _ h => h) (Or.inl ⟨rfl, fun w _ => by go_simp⟩) HSb ?_; simp only [Act.put, List.getElem_toArray, List.getElem_cons_zero, List.getElem_cons_succ, List.setIfInBounds_toArray, List.set_cons_succ, List.set_cons_zero]
          refine wpAnyH_take (i := 11) (v := .int .i64 k) rfl (by kernel_rfl) (by kernel_rfl) (by kernel_rfl) (fun _ _ _ h => h) (Or.inl ⟨rfl, fun w _ => by go_simp⟩) HSb ?_; simp only [Act.put, List.getElem_toArray, List.getElem_cons_zero, List.getElem_cons_succ, List.setIfInBounds_toArray, List.set_cons_succ, List.set_cons_zero]
          obtain ⟨v, hv⟩ : ∃ v, (getM m x).getD (.slice none 0 0) = v := ⟨_, rfl⟩
          have HO0 := HS1.out.grp.own x
          rw [hv] at HO0
          have HV := Lib.hid hv
          have HL := Lib.hid (show (gi x).length ≤ 1000000000 by have := HG2.out.len x; have := Hcl.out; omega)
          have HO := HO0.alloc (.cells #[.int .i64 (k : Int)] 3)
          have HBS := Lib.hid (show w.heap.size + 1 + 1 + 1 < u0.heap.size from lt_of_block HSb)
          have HSa := hp_al u0 (.cells #[.int .i64 (k : Int)] 3) HSb
          clear hv
          refine wpAnyH_all (rs := [10, 12]) (by kernel_rfl) (by simp) (fun i hi => ?_)
          rcases (show i = 10 ∨ i = 12 by simpa using hi) with rfl | rfl
          · refine wpOp_one rfl ?_
            have HM := HS1.out.grp.1
            (repeat (first | (with_reducible first | refine xA ?_ | refine xB ?_ | refine xC ?_ | refine xD ?_ | refine xH ?_ | refine xI rfl ?_ | refine xE ?_ | refine xF ?_ | refine xG ?_) | go_skip | go_guarded | ((with_reducible refine wl_id ?_); refine wl_lookup rfl _ _ 107 false rfl 3 26 keyI Try.underlying107 (.slice none 0 0) (zeroS _) w.heap.size m rfl HM x rfl hokx ?_; (simp only [Bool.false_eq_true, if_false]; (rw [HV.out])); (try simp only [Act.put, List.setIfInBounds_toArray, List.set_cons_succ, List.set_cons_zero])) | go_values | go_skip | go_guarded | go_step | go_upon | go_back | (dsimp only)))
            refine ⟨HSb, ?_⟩
            refine wpAnyH_all (rs := [12]) (by kernel_rfl) (by simp) (fun i hi => ?_)
            obtain rfl : i = 12 := by simpa using hi
            refine wpOp_one rfl ?_
            (repeat (first | (with_reducible first | refine xA ?_ | refine xB ?_ | refine xC ?_ | refine xD ?_ | refine xH ?_ | refine xI rfl ?_ | refine xE ?_ | refine xF ?_ | refine xG ?_) | go_values | go_skip | go_guarded | go_step | go_upon | go_back | (dsimp only)))
            refine ⟨HSa, ?_⟩
            refine wpAnyH_all (rs := [13]) (by kernel_rfl) (by simp) (fun i hi => ?_); obtain rfl : i = 13 := (by simpa using hi); refine wpOp_one rfl ?_; (repeat (first | (with_reducible first | refine xA ?_ | refine xB ?_ | refine xC ?_ | refine xD ?_ | refine xH ?_ | refine xI rfl ?_ | refine xE ?_ | refine xF ?_ | refine xG ?_) | go_skip | go_guarded | ((with_reducible refine wl_id ?_); refine wl_push rfl _ _ rfl (w.heap.size + 1 + 1 + 1 + 1) v (gi x).length (gi x) rfl HO u0.heap.size (k : Int) rfl (cell_new _ _ _) HL.out (by have := HBS.out; simp; omega) ?_; intro v' u2 hO2 hg2 hl2; (try simp only [Act.put, List.setIfInBounds_toArray, List.set_cons_succ, List.set_cons_zero])) | go_values | go_skip | go_guarded | go_step | go_upon | go_back | (dsimp only))); have HG := (World.grownBy_alloc u0 (.cells #[.int .i64 (k : Int)] 3) _).trans hg2; have HSc := (HG.block _ (lt_of_block HSb) (fun e => by have := (HO0.lt _ e.symm).1; omega)).trans HSb; refine ⟨HSc, ?_⟩; refine wpAnyH_all (rs := [14]) (by kernel_rfl) (by simp) (fun i hi => ?_); obtain rfl : i = 14 := (by simpa using hi); refine wpOp_one rfl ?_; have HM2 := HS1.out.grp.1.same (HG.block _ HS1.out.grp.1.lt (fun e => by have := (HO0.lt _ e.symm).1; omega)); (repeat (first | (with_reducible first | refine xA ?_ | refine xB ?_ | refine xC ?_ | refine xD ?_ | refine xH ?_ | refine xI rfl ?_ | refine xE ?_ | refine xF ?_ | refine xG ?_) | go_skip | go_guarded | ((with_reducible refine wl_id ?_); refine wl_mapUpdate rfl _ _ _ 107 rfl _ _ keyI Try.underlying107 w.heap.size m rfl HM2 x rfl hokx v' rfl ?_; intro u3 hM3 hg3; (try simp only [Act.put, List.setIfInBounds_toArray, List.set_cons_succ, List.set_cons_zero])) | go_values | go_skip | go_guarded | go_step | go_upon | go_back | (dsimp only))); have HSd := (hg3.block _ (lt_of_block HSc) (fun e => by injection e with e; omega)).trans HSc; refine ⟨HSd, ?_⟩; refine wpAnyH_done (by kernel_rfl) ?_ _; have HS3 := Lib.hid (HS1.out.step (x := x) (i := (k : Int)) (by (rw [HV.out]; exact HG)) hO2 (by (rw [HV.out]; exact hl2.imp id (fun e k ek => by (rw [e] at ek; cases ek; simp)))) hM3 hg3); clear HSd HSc HM2 hM3 hg3 hg2 hl2 hO2 HG HM HSa HO HO0; (repeat (first | (with_reducible first | refine xA ?_ | refine xB ?_ | refine xC ?_ | refine xD ?_ | refine xH ?_ | refine xI rfl ?_ | refine xE ?_ | refine xF ?_ | refine xG ?_) | go_values | go_skip | go_guarded | go_step | go_upon | go_back | (dsimp only))); exact ⟨⟨j + 1, _, _, by omega, by go_num, Lib.hid (HG2.out.nextJ Hck.out Hx.out), HS3⟩, by simp [intOf]; omega⟩
          · refine wpOp_one rfl ?_
            (repeat (first | (with_reducible first | refine xA ?_ | refine xB ?_ | refine xC ?_ | refine xD ?_ | refine xH ?_ | refine xI rfl ?_ | refine xE ?_ | refine xF ?_ | refine xG ?_) | go_values | go_skip | go_guarded | go_step | go_upon | go_back | (dsimp only)))
            refine ⟨HSa, ?_⟩
            refine wpAnyH_all (rs := [10]) (by kernel_rfl) (by simp) (fun i hi => ?_)
            obtain rfl : i = 10 := by simpa using hi
            refine wpOp_one rfl ?_
            have HM := (HS1.out.alloc (.cells #[.int .i64 (k : Int)] 3)).grp.1
            (repeat (first | (with_reducible first | refine xA ?_ | refine xB ?_ | refine xC ?_ | refine xD ?_ | refine xH ?_ | refine xI rfl ?_ | refine xE ?_ | refine xF ?_ | refine xG ?_) | go_skip | go_guarded | ((with_reducible refine wl_id ?_); refine wl_lookup rfl _ _ 107 false rfl 3 26 keyI Try.underlying107 (.slice none 0 0) (zeroS _) w.heap.size m rfl HM x rfl hokx ?_; (simp only [Bool.false_eq_true, if_false]; (rw [HV.out])); (try simp only [Act.put, List.setIfInBounds_toArray, List.set_cons_succ, List.set_cons_zero])) | go_values | go_skip | go_guarded | go_step | go_upon | go_back | (dsimp only)))
            refine ⟨HSa, ?_⟩
            refine wpAnyH_all (rs := [13]) (by kernel_rfl) (by simp) (fun i hi => ?_); obtain rfl : i = 13 := (by simpa using hi); refine wpOp_one rfl ?_; (repeat (first | (with_reducible first | refine xA ?_ | refine xB ?_ | refine xC ?_ | refine xD ?_ | refine xH ?_ | refine xI rfl ?_ | refine xE ?_ | refine xF ?_ | refine xG ?_) | go_skip | go_guarded | ((with_reducible refine wl_id ?_); refine wl_push rfl _ _ rfl (w.heap.size + 1 + 1 + 1 + 1) v (gi x).length (gi x) rfl HO u0.heap.size (k : Int) rfl (cell_new _ _ _) HL.out (by have := HBS.out; simp; omega) ?_; intro v' u2 hO2 hg2 hl2; (try simp only [Act.put, List.setIfInBounds_toArray, List.set_cons_succ, List.set_cons_zero])) | go_values | go_skip | go_guarded | go_step | go_upon | go_back | (dsimp only))); have HG := (World.grownBy_alloc u0 (.cells #[.int .i64 (k : Int)] 3) _).trans hg2; have HSc := (HG.block _ (lt_of_block HSb) (fun e => by have := (HO0.lt _ e.symm).1; omega)).trans HSb; refine ⟨HSc, ?_⟩; refine wpAnyH_all (rs := [14]) (by kernel_rfl) (by simp) (fun i hi => ?_); obtain rfl : i = 14 := (by simpa using hi); refine wpOp_one rfl ?_; have HM2 := HS1.out.grp.1.same (HG.block _ HS1.out.grp.1.lt (fun e => by have := (HO0.lt _ e.symm).1; omega)); (repeat (first | (with_reducible first | refine xA ?_ | refine xB ?_ | refine xC ?_ | refine xD ?_ | refine xH ?_ | refine xI rfl ?_ | refine xE ?_ | refine xF ?_ | refine xG ?_) | go_skip | go_guarded | ((with_reducible refine wl_id ?_); refine wl_mapUpdate rfl _ _ _ 107 rfl _ _ keyI Try.underlying107 w.heap.size m rfl HM2 x rfl hokx v' rfl ?_; intro u3 hM3 hg3; (try simp only [Act.put, List.setIfInBounds_toArray, List.set_cons_succ, List.set_cons_zero])) | go_values | go_skip | go_guarded | go_step | go_upon | go_back | (dsimp only))); have HSd := (hg3.block _ (lt_of_block HSc) (fun e => by injection e with e; omega)).trans HSc; refine ⟨HSd, ?_⟩; refine wpAnyH_done (by kernel_rfl) ?_ _; have HS3 := Lib.hid (HS1.out.step (x := x) (i := (k : Int)) (by (rw [HV.out]; exact HG)) hO2 (by (rw [HV.out]; exact hl2.imp id (fun e k ek => by (rw [e] at ek; cases ek; simp)))) hM3 hg3); clear HSd HSc HM2 hM3 hg3 hg2 hl2 hO2 HG HM HSa HO HO0; (repeat (first | (with_reducible first | refine xA ?_ | refine xB ?_ | refine xC ?_ | refine xD ?_ | refine xH ?_ | refine xI rfl ?_ | refine xE ?_ | refine xF ?_ | refine xG ?_) | go_values | go_skip | go_guarded | go_step | go_upon | go_back | (dsimp only))); exact ⟨⟨j + 1, _, _, by omega, by go_num, Lib.hid (HG2.out.nextJ Hck.out Hx.out), HS3⟩, by simp [intOf]; omega⟩
        · obtain rfl : j = c.length := by omega
          (repeat (first | (with_reducible first | refine xA ?_ | refine xB ?_ | refine xC ?_ | refine xD ?_ | refine xH ?_ | refine xI rfl ?_ | refine xE ?_ | refine xF ?_ | refine xG ?_) | go_values | go_skip | go_guarded | go_step | go_upon | go_back | (dsimp only)))
          exact ⟨⟨k + 1, gi, m, by omega, by go_num, Lib.hid (HG2.out.nextK Hck.out rfl Hcl.out), HS1⟩, by simp [intOf]; omega⟩
    · obtain rfl : k = n := by omega
      have HGI := Lib.hid (HG2.out.done HN.out.symm (by have := HN.out; omega))
      have hsz : w.heap.size + 1 + 1 + 1 < wr.heap.size := lt_of_block HS1.out.box
      have hsk : ∀ i, i < w.heap.size → SK (w.heap.size + 1) (w.heap.size + 1 + 1) i := fun i hi => ⟨by omega, by omega⟩
      have HSP := Lib.hid (show SPR wr (w.heap.size + 1 + 1 + 1) (.slice (some ⟨q, 0, none⟩) k k) w.heap.size (w.heap.size + 1) (w.heap.size + 1 + 1) [] [] from ⟨HS1.out.box, HS1.out.ms, HS1.out.mw, by omega, by simp⟩)
      have HSG := Lib.hid (show SGr wr q k vs cl gi w.heap.size (w.heap.size + 1) (w.heap.size + 1 + 1) from ⟨HQ.out.kept (Kept.ofBelow (X := fun _ => True) HS1.out.bel) trivial, hsk q HQB.out, (HS.out.mono (Z := SK (w.heap.size + 1) (w.heap.size + 1 + 1)) fun i hi _ => hsk i hi).kept (Kept.ofBelow HS1.out.bel), ⟨m, HS1.out.grp.1, HS1.out.grp.2.1, fun x v hv => SlX.ofOwns (HS1.out.grp.2.2.1 x v hv) fun g hg _ => ⟨by omega, by omega⟩⟩, ⟨by omega, by omega⟩⟩)
      have HFX := Lib.hid ((HF.out.mono (Y := SK (w.heap.size + 1) (w.heap.size + 1 + 1)) fun i hi _ => hsk i hi).kept (Kept.ofBelow HS1.out.bel))
      have HBW := Lib.hid HS1.out.bel
      have HSK := Lib.hid hsk
      have HLL2 := Lib.hid (show ∀ c ∈ cl, c.length ≤ 1000000 from fun c hc => by have := HLL.out c hc; omega)
      clear HS1 HG2 hsk hge
      obtain ⟨wB, hwB⟩ : ∃ u, u = wr := ⟨_, rfl⟩
      rw [← hwB] at HSP HSG HFX HBW hsz ⊢
      clear hwB
      generalize hsbE : w.heap.size + 1 + 1 + 1 = sb at HSP hsz ⊢
      generalize hmwE : w.heap.size + 1 + 1 = mw at HSP HSG HFX HSK ⊢
      generalize hmsE : w.heap.size + 1 = ms at HSP HSG HFX HSK ⊢
      (repeat (first | (with_reducible first | refine xA ?_ | refine xB ?_ | refine xC ?_ | refine xD ?_ | refine xH ?_ | refine xI rfl ?_ | refine xE ?_ | refine xF ?_ | refine xG ?_) | go_values | go_skip | go_guarded | go_step | go_upon | go_back | (dsimp only)))
      go_loopw [63] (fun i wr => ∃ (j : Nat) (is wt : List Int), j ≤ fr.length ∧ i = .int .i64 j ∧ Hid (SPR wr (sb) (.slice (some ⟨q, 0, none⟩) k k) w.heap.size ms mw is wt) ∧ Hid (SQ cl fr (fr.take j) is wt cl) ∧ Kept (SK ms mw) wB wr) (fun i _ => fr.length - (intOf i).toNat)
      case atStart => exact ⟨0, [], [], Nat.zero_le _, rfl, HSP, Lib.hid (SQ.start trivial), Kept.refl _ _⟩
      case round =>
        clear HSP
        obtain ⟨j, is, wt, hj, rfl, HSP, HSQ, hK⟩ := hrel
        rcases Nat.lt_or_ge j fr.length with hlt | hge
        · obtain ⟨b, o, rfl, hbs, _, _, hR⟩ := HFX.out.row (by omega)
          obtain ⟨x, hx⟩ : ∃ y, fr[j]? = some y := ⟨_, List.getElem?_eq_getElem hlt⟩
          have hcx := hK.cell (hR j x hx) hbs
          have HXO := Lib.hid (HFR.out x (List.mem_of_getElem? hx))
          have HXM := Lib.hid (List.mem_of_getElem? hx)
          have HTK := Lib.hid (list_upto hx)
          obtain ⟨r, hr⟩ : ∃ r, Hid (holdP is wt x = r) := ⟨_, Lib.hid rfl⟩
          have HA := Lib.hid (hold_any wr HSP.out x HXO.out)
          rw [hr.out] at HA
          clear hR hx
          (repeat (first | (with_reducible first | refine xA ?_ | refine xB ?_ | refine xC ?_ | refine xD ?_ | refine xH ?_ | refine xI rfl ?_ | refine xE ?_ | refine xF ?_ | refine xG ?_) | go_skip | go_guarded | (go_at_call 66; (with_reducible refine (HA.out).mono ?_); rintro _ w4 ⟨rfl, hR4, hK4⟩; have hK24 := hK.trans hK4; rcases r with _ | r; rotate_left; all_goals (simp only [Option.isSome_some, Option.isSome_none])) | go_values | go_skip | go_guarded | go_step | go_upon | go_back | (dsimp only)))
          · have hq6 := HSQ.out.hold (.base x HXM.out) HXO.out hr.out
            exact ⟨⟨j + 1, r.1, r.2, by omega, by go_num, Lib.hid (hR4 r rfl), Lib.hid (by rw [HTK.out]; exact hq6.1), hK24⟩, by simp [intOf]; omega⟩
          · (repeat (first | (with_reducible first | refine xA ?_ | refine xB ?_ | refine xC ?_ | refine xD ?_ | refine xH ?_ | refine xI rfl ?_ | refine xE ?_ | refine xF ?_ | refine xG ?_) | go_values | go_skip | go_guarded | go_step | go_upon | go_back | (dsimp only)))
            go_ret2
            exact .inl ⟨.inl ⟨x, HXM.out, hold_no HSQ.out.sound hr.out⟩, rfl, HBW.out.trans (hK24.toBelow HBW.out.size HSK.out)⟩
        · obtain rfl : j = fr.length := by omega
          have HSQ2 := HSQ.out
          rw [List.take_of_length_le (Nat.le_refl _)] at HSQ2
          have HSQ3 := Lib.hid HSQ2
          clear HSQ HSQ2 hge
          (repeat (first | (with_reducible first | refine xA ?_ | refine xB ?_ | refine xC ?_ | refine xD ?_ | refine xH ?_ | refine xI rfl ?_ | refine xE ?_ | refine xF ?_ | refine xG ?_) | go_values | go_skip | go_guarded | go_step | go_upon | go_back | (dsimp only)))
          go_loopw [74] (fun i wr => ∃ (j : Nat) (is wt : List Int), j ≤ k ∧ i = .int .i64 j ∧ Hid (SPR wr (sb) (.slice (some ⟨q, 0, none⟩) k k) w.heap.size ms mw is wt) ∧ Hid (SQ cl fr fr is wt (cl.drop j)) ∧ Kept (SK ms mw) wB wr) (fun i _ => k - (intOf i).toNat)
          case atStart => exact ⟨0, is, wt, Nat.zero_le _, rfl, HSP, HSQ3, hK⟩
          case round =>
            clear HSP HSQ3 hK is wt
            obtain ⟨j, is, wt, hj, rfl, HSP, HSQ, hK⟩ := hrel
            rcases Nat.lt_or_ge j k with hlt | hge
            · obtain ⟨c, hc⟩ : ∃ c, cl[j]? = some c := ⟨_, List.getElem?_eq_getElem (by have := HN.out; omega)⟩
              obtain ⟨v, hv⟩ : ∃ v, vs[j]? = some v := ⟨_, List.getElem?_eq_getElem (by have := HN.out; have := HSG.out.sls.1; omega)⟩
              have hcv := hK.cell (HSG.out.rows j v hv) HSG.out.sk
              have hsv := (HSG.out.sls.2 j v c hv hc).kept hK
              obtain ⟨av, mv, rfl⟩ := hsv.shape
              obtain ⟨r, hr⟩ : ∃ r, Hid (askP is wt c = r) := ⟨_, Lib.hid rfl⟩
              have HCM := Lib.hid (List.mem_of_getElem? hc)
              have HA := Lib.hid (ask_any wr HSP.out _ c hsv (HCL.out c HCM.out) (HLL2.out c HCM.out) r hr)
              have HQ4 := HSQ.out
              rw [drop_at hc] at HQ4
              have HQ5 := Lib.hid (HQ4.ask HCM.out (HCL.out c HCM.out))
              rw [hr.out] at HQ5
              clear hc hv hsv HQ4
              (repeat (first | (with_reducible first | refine xA ?_ | refine xB ?_ | refine xC ?_ | refine xD ?_ | refine xH ?_ | refine xI rfl ?_ | refine xE ?_ | refine xF ?_ | refine xG ?_) | go_skip | go_guarded | (go_at_call 67; (with_reducible refine (HA.out).mono ?_); rintro _ w4 ⟨rfl, hR4, hK4⟩; have hK24 := hK.trans hK4; rcases r with _ | r; rotate_left; all_goals (simp only [Option.isSome_some, Option.isSome_none])) | go_values | go_skip | go_guarded | go_step | go_upon | go_back | (dsimp only)))
              · have hq6 := HQ5.out.1 r rfl
                exact ⟨⟨j + 1, r.1, r.2, by omega, by go_num, Lib.hid (hR4 r rfl), Lib.hid hq6.1, hK24⟩, by simp [intOf]; omega⟩
              · (repeat (first | (with_reducible first | refine xA ?_ | refine xB ?_ | refine xC ?_ | refine xD ?_ | refine xH ?_ | refine xI rfl ?_ | refine xE ?_ | refine xF ?_ | refine xG ?_) | go_values | go_skip | go_guarded | go_step | go_upon | go_back | (dsimp only)))
                go_ret2
                exact .inl ⟨HQ5.out.2 rfl, rfl, HBW.out.trans (hK24.toBelow HBW.out.size HSK.out)⟩
            · obtain rfl : j = k := by omega
              have HSQ2 := HSQ.out
              rw [List.drop_eq_nil_of_le (by have := HN.out; omega)] at HSQ2
              have HRU := Lib.hid (run_any wr HSP.out (HSG.out.kept hK) HN.out (by omega) HGI.out HCL.out HLL2.out HSQ2)
              clear HSQ HSQ2 hge
              (repeat (first | (with_reducible first | refine xA ?_ | refine xB ?_ | refine xC ?_ | refine xD ?_ | refine xH ?_ | refine xI rfl ?_ | refine xE ?_ | refine xF ?_ | refine xG ?_) | go_skip | go_guarded | (go_at_call 68; (with_reducible refine (HRU.out).mono ?_); rintro _ w5 ⟨b, rfl, hb1, hb2, hK5⟩; have hK25 := hK.trans hK5; cases b; rotate_left) | go_values | go_skip | go_guarded | go_step | go_upon | go_back | (dsimp only)))
              · obtain ⟨is', hSP5, hSQ5⟩ := hb1 rfl
                have c2 : w5.cell? ⟨sb, 2, none⟩ = some (.map (some ms)) := by simp [World.cell?, hSP5.box]
                have hM5 := hSP5.mis
                have HB5 := Lib.hid (HBW.out.trans (hK25.toBelow HBW.out.size HSK.out))
                have HQ5 := Lib.hid hSQ5
                clear hb1 hb2 hSP5 hSQ5 HRU HSP hK
                (repeat (first | (with_reducible first | refine xA ?_ | refine xB ?_ | refine xC ?_ | refine xD ?_ | refine xH ?_ | refine xI rfl ?_ | refine xE ?_ | refine xF ?_ | refine xG ?_) | go_skip | go_guarded | ((with_reducible refine wl_id ?_); refine wl_range rfl _ 39 rfl 3 3 Try.underlying39 ms (oneM is') rfl hM5 ?_; intro w6 hI hb6; (rw [oneM_keys] at hI); (try simp only [Act.put, List.setIfInBounds_toArray, List.set_cons_succ, List.set_cons_zero])) | ((with_reducible show Oper.upon _ _ _ _ _ _); go_simp) | go_values | go_skip | go_guarded | go_step | go_upon | go_back | (dsimp only)))
                have HLN := Lib.hid (okL_len HQ5.out.nod HQ5.out.rng)
                have hlI : (is'.length : Int) ≤ 2097153 := by have := HLN.out; omega
                have HB6 := Lib.hid (HB5.out.trans (hb6.mono HB5.out.size))
                have hrl := hI.lt.1
                have hwi : w.heap.size ≤ w5.heap.size := HB5.out.size
                have hml := hI.lt.2
                generalize hitE : w5.heap.size = it at hI hrl hwi ⊢
                have HB56 : w.heap.size ≤ w6.heap.size := HB6.out.size
                clear hb6 hM5 c2
                go_loopw [15] (fun u wr => ∃ (outs L : List Int), Hid (IterV encI okI wr it ms (oneM is') L) ∧ Hid ((outs ++ L).Perm is') ∧ wr.ownsRow w6.heap.size 3 1 u outs.length (outs.map (Value.int .i64)) ∧ Kept (fun k => k ≠ it) w6 wr) (fun u _ => is'.length - lenOf u)
                case atStart => exact ⟨[], is', Lib.hid hI, Lib.hid (List.Perm.refl _), World.ownsRow_nil _ _ _ _, Kept.refl _ _⟩
                case round =>
                  clear hI
                  obtain ⟨outs, L, HI, HP, hO, hB⟩ := hrel
                  have HO := Lib.hid hO
                  have hle := HP.out.length_eq
                  rw [List.length_append] at hle
                  rcases L with _ | ⟨x0, L⟩
                  · rw [List.append_nil] at HP
                    have HD := Lib.hid (HQ5.out.done (fun x h => h))
                    obtain ⟨z1, hz1⟩ := HONE.out
                    have h1m : z1 ∈ outs := HP.out.mem_iff.2 ((HD.out.1 z1).2 hz1)
                    rcases hO.2 with ⟨_, h0⟩ | ⟨g, cap, cur, rfl, hgb, _⟩
                    · exact absurd h1m (by rw [List.length_eq_zero_iff.1 h0]; simp)
                    · have HRT := Lib.hid (sorted_any wr w6.heap.size g cap outs hO (fun x hx => HQ5.out.rng x (HP.out.mem_iff.1 hx)) (by have := HLN.out; simp at hle; omega))
                      have HGB := Lib.hid hgb
                      clear h1m hO hgb hle hz1
                      (repeat (first | (with_reducible first | refine xA ?_ | refine xB ?_ | refine xC ?_ | refine xD ?_ | refine xH ?_ | refine xI rfl ?_ | refine xE ?_ | refine xF ?_ | refine xG ?_) | go_skip | go_guarded | ((with_reducible refine wl_id ?_); refine wl_next rfl _ rfl (fun x y h => keyI.inj x y h) it ms (oneM is') [] rfl HI.out (fun _ => ?_) (fun x xv w7 hxL => by cases hxL); (try simp only [Act.put, List.setIfInBounds_toArray, List.set_cons_succ, List.set_cons_zero])) | (go_at_call 69; (with_reducible refine (HRT.out).mono ?_); rintro _ w9 ⟨rfl, l', hp9, hs9, hO9, hg9⟩) | go_values | go_skip | go_guarded | go_step | go_upon | go_back | (dsimp only)))
                      go_ret2
                      have hl9 := hp9.length_eq
                      rw [← hl9] at hO9 ⊢
                      have hbw : Below w.heap.size w wr := HB6.out.trans (hB.toBelow HB56 fun i hi => by omega)
                      exact .inr ⟨_, l', is', rfl, owns_base hO9 HB56, HD.out.1, HQ5.out.cons, HQ5.out.nod, hp9.trans HP.out, hs9, HD.out.2, Below.grown hbw hg9 hbw.size (fun i hi => by injection hi with hi; have := HGB.out; omega)⟩
                  · rw [List.length_cons] at hle
                    (repeat (first | (with_reducible first | refine xA ?_ | refine xB ?_ | refine xC ?_ | refine xD ?_ | refine xH ?_ | refine xI rfl ?_ | refine xE ?_ | refine xF ?_ | refine xG ?_) | go_skip | go_guarded | ((with_reducible refine wl_id ?_); refine wl_next rfl _ rfl (fun x y h => keyI.inj x y h) it ms (oneM is') (x0 :: L) rfl HI.out (fun e => by cases e) ?_; intro x xv w7 hxL hxm hI2 hg2 hent; have HI2 := Lib.hid hI2; have HXL := Lib.hid hxL; have HG2 := Lib.hid hg2; have hO7 := HO.out.kept hg2 (.inr (fun e => by have := (HO.out.lt _ e).1; omega)); have HO7 := Lib.hid hO7; have hb7 := hB.grown hg2 (fun q e _ hx => hx (by injection e with e; exact e.symm)); clear hxm hI2 hg2 hxL hO7; (simp only [encI] at hent ⊢); (try simp only [Act.put, List.setIfInBounds_toArray, List.set_cons_succ, List.set_cons_zero])) | ((with_reducible refine wl_id ?_); refine wl_entry rfl _ rfl it rfl _ hent ?_; (try simp only [Act.put, List.setIfInBounds_toArray, List.set_cons_succ, List.set_cons_zero])) | ((with_reducible refine wl_id ?_); refine wl_push rfl _ _ rfl w6.heap.size u15 outs.length outs rfl (HO7.out.alloc _) w7.heap.size x rfl (cell_new _ _ _) (by omega) (by have := hb7.size; simp; omega) ?_; intro v8 w8 hO8 hg8 hl8; (try simp only [Act.put, List.setIfInBounds_toArray, List.set_cons_succ, List.set_cons_zero])) | go_values | go_skip | go_guarded | go_step | go_upon | go_back | (dsimp only)))
                    have k8 : Kept (fun k => k < w6.heap.size) w7 w8 := ((Kept.refl _ w7).alloc _).grown hg8 (fun q e _ hx => by have := (HO7.out.lt q e).1; omega)
                    have hnd := (List.nodup_append.1 (HP.out.nodup_iff.2 HQ5.out.nod)).2.1
                    have e8 := own_len hO8
                    have e7 := own_len hO
                    refine ⟨⟨outs ++ [x], _, Lib.hid (HI2.out.same (k8.block _ HI2.out.lt.2 hml) (k8.block _ HI2.out.lt.1 hrl)), Lib.hid ?_, by simpa using hO8, (hb7.alloc _).grown hg8 (fun q e hlt _ => by have := (HO7.out.lt q e).1; omega)⟩, by rw [e8, e7]; omega⟩
                    rw [List.append_assoc, List.singleton_append]
                    exact (List.Perm.append_left outs (perm_pick hnd HXL.out)).trans HP.out
              · (repeat (first | (with_reducible first | refine xA ?_ | refine xB ?_ | refine xC ?_ | refine xD ?_ | refine xH ?_ | refine xI rfl ?_ | refine xE ?_ | refine xF ?_ | refine xG ?_) | go_values | go_skip | go_guarded | go_step | go_upon | go_back | (dsimp only)))
                go_ret2
                exact .inl ⟨hb2 rfl, rfl, HBW.out.trans (hK25.toBelow HBW.out.size HSK.out)⟩

end Go.Proofs.Ytmaogkgjiplckaa

