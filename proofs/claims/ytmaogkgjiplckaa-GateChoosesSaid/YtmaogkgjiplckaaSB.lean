import Derived.Test.YtmaogkgjiplckaaGX
import Derived.Test.YtmaogkgjiplckaaSH
import Derived.Sort.OwnSortedInts
import Derived.Shelf.SlSortFunc.HeapSort
set_option linter.unusedSimpArgs false
set_option linter.unusedVariables false
namespace Go.Proofs.Ytmaogkgjiplckaa
open Go.RowKit
open Go.Shelf Go.RowKit Go.Lib Go.Sort

/-- the variable of a literal, as the program works it out -/
def vr (x : Int) : Int := max x (wrap64 (-x))
theorem vr_abs {x : Int} (h : okL x) : vr x = absI x := by
  obtain ⟨_, h1, h2⟩ := h
  unfold vr absI
  have : wrap64 (-x) = -x := by simp [wrap64, IntKind.wrap, IntKind.bits, IntKind.signed]; omega
  rw [this]
  split <;> omega
set_option maxRecDepth 100000 in
theorem variable_any (x : Int) (w : World) : Calls Try.prog 70 #[.int .i64 x] w fun e w' => e = .returned (.int .i64 (vr x)) ∧ w' = w := by
  go_enter Try.func70, Try.ntmps70
  (repeat (first | (with_reducible first | refine xA ?_ | refine xB ?_ | refine xC ?_ | refine xD ?_ | refine xH ?_ | refine xI rfl ?_ | refine xE ?_ | refine xF ?_ | refine xG ?_) | go_values | go_skip | go_guarded | go_step | go_upon | go_back | (dsimp only)))
  go_ret
  exact ⟨rfl, rfl⟩

/-- the comparison -/
def cfV (x y : Int) : Int := Lib.compareInt (vr x) (vr y)
theorem ltV (x y : Int) : ltOf cfV x y = decide (vr x < vr y) := by
  unfold ltOf cfV Lib.compareInt
  by_cases h1 : vr x < vr y
  · simp [h1]
  · by_cases h2 : vr y < vr x <;> simp [h1, h2]
theorem swoV : SWO (ltOf cfV) where
  irrefl x := by rw [ltV]; simp
  trans x y z h1 h2 := by rw [ltV] at *; simp at *; omega
  ntrans x y z h1 h2 := by rw [ltV] at *; simp at *; omega
set_option maxRecDepth 100000 in
theorem less_any (x y : Int) (bp : Nat) (W : World) (hb : W.cell? ⟨bp, 0, none⟩ = some (.func (.func 70) #[] #[])) :
    Calls Try.prog 104 #[.int .i64 x, .int .i64 y, .pointer (some ⟨bp, 0, none⟩)] W fun e w' => e = .returned (.int .i64 (cfV x y)) ∧ ∃ q, w' = W.drewN q := by
  have hcon := fun a b W => Try.cmp_Compare_int a b W
  unfold cfV
  have h1 := fun W => variable_any x W
  have h2 := fun W => variable_any y W
  generalize vr x = a at *
  generalize vr y = b at *
  have h3 := fun W => hcon a b W
  clear hcon
  generalize Lib.compareInt a b = r at *
  go_enter Try.func104, Try.ntmps104
  (repeat (first | (with_reducible first | refine xA ?_ | refine xB ?_ | refine xC ?_ | refine xD ?_ | refine xH ?_ | refine xI rfl ?_ | refine xE ?_ | refine xF ?_ | refine xG ?_) | go_values | go_skip | go_guarded | go_step | go_upon | go_back | (dsimp only)))
  go_quiet (first | (go_at_call 70; first | (refine Calls.quiet_of_same (h1 _)) | (refine Calls.quiet_of_same (h2 _))) | (go_at_call 105; refine Calls.quiet_of_same (h3 _)))
  (repeat (first | (with_reducible first | refine xA ?_ | refine xB ?_ | refine xC ?_ | refine xD ?_ | refine xH ?_ | refine xI rfl ?_ | refine xE ?_ | refine xF ?_ | refine xG ?_) | go_values | go_skip | go_guarded | go_step | go_upon | go_back | (dsimp only)))
  go_ret
  exact ⟨rfl, _, rfl⟩

theorem sort_lays (b n : Nat) (w : World) (v : Value) (T : TypeId) (hb : b < w.heap.size) : CmpLays1 Try.prog 104 #[.pointer (some ⟨w.heap.size, 0, none⟩)] (Value.int .i64) cfV b 0 n (w.alloc (.cells #[.func (.func 70) #[] #[]] T)) := by
  intro m os dk hs x y
  refine (less_any x y w.heap.size _ ?_).mono ?_
  · rw [cell?_sortWorld_other _ _ _ _ _ _ _ _ (by show w.heap.size ≠ b; omega) (by simp)]
    exact cell_new _ _ _
  · rintro e w' ⟨he, q, hq⟩
    exact ⟨he, q, #[], by rw [hq, grow_empty]⟩
theorem sorted_list {l l' : List Int} (hp : PermIn 0 l.toArray.size l.toArray l'.toArray) (hs : SortedIn (ltOf cfV) 0 l.toArray.size l'.toArray) (hl : ∀ x ∈ l, okL x) : l'.Perm l ∧ l'.Pairwise (fun x y => absI x ≤ absI y) := by
  obtain ⟨h1, _, h2⟩ := hp
  simp only [List.size_toArray] at h1 h2
  have e1 : (l'.toArray.extract 0 l.length).toList = l' := by
    rw [← h1]; simp
  have e2 : (l.toArray.extract 0 l.length).toList = l := by simp
  rw [e1, e2] at h2
  refine ⟨h2, ?_⟩
  rw [List.pairwise_iff_getElem]
  intro i j hi hj hij
  have h3 := hs i j (Nat.zero_le _) hij (by simp; omega)
  rw [ltV] at h3
  have g1 : l'.toArray[i]! = l'[i] := by simp [hi]
  have g2 : l'.toArray[j]! = l'[j] := by simp [hj]
  rw [g1, g2, vr_abs (hl _ (h2.mem_iff.1 (List.getElem_mem hi))), vr_abs (hl _ (h2.mem_iff.1 (List.getElem_mem hj)))] at h3
  simpa using h3
set_option maxRecDepth 100000 in
set_option maxHeartbeats 1000000 in
theorem sorted_any (w : World) (B b cap : Nat) (l : List Int) (hO : w.ownsRow B 3 1 (.slice (some ⟨b, 0, none⟩) l.length cap) l.length (l.map (Value.int .i64))) (hl : ∀ x ∈ l, okL x) (hsz : l.length < 4611686018427387904) :
    Calls Try.prog 69 #[.slice (some ⟨b, 0, none⟩) l.length cap, .func (.func 70) #[] #[]] w fun e w' => e = .returned (.slice (some ⟨b, 0, none⟩) l.length cap) ∧ ∃ l' : List Int, l'.Perm l ∧ l'.Pairwise (fun x y => absI x ≤ absI y) ∧ w'.ownsRow B 3 1 (.slice (some ⟨b, 0, none⟩) l.length cap) l.length (l'.map (Value.int .i64)) ∧ w.grownBy w' (some b) := by
  have hmf : ∀ (fn : Fn) (first cap : Array Value) (w : World), (Instr.makeFunc fn first cap).run Try.prog w = .ok (.func fn first cap) w := fun _ _ _ _ => rfl
  obtain ⟨hBb, hbl⟩ := hO.lt b rfl
  have hO1 := hO.alloc (.cells #[.func (.func 70) #[] #[]] 54)
  obtain ⟨_, cap', cur, e0, hBg, hh, hnc, hcm, hcs, htk⟩ := hO1.2.resolve_left (by rintro ⟨h, _⟩; cases h)
  cases e0
  have hH : Holds (Value.int .i64) (w.alloc (.cells #[.func (.func 70) #[] #[]] 54)) b 0 l.toArray := holds_of_blockI hh (by simpa using htk)
  have eg : ∀ args w, (callFunc 104 args).run Try.prog w = .ok (.enter 104 args) w := enters_of Try.func104 (by kernel_rfl) rfl
  have hcon := Try.slices_SortFunc (Value.int .i64) (fun _ => rfl) cfV swoV 104 #[.pointer (some ⟨w.heap.size, 0, none⟩)] b 0 cap l.toArray _ eg (sort_lays b _ w (.int .i64 0) 54 hbl) hH (by simp; omega) (by simpa using hsz)
  simp only [List.size_toArray] at hcon
  have HC := Lib.hid hcon
  have HO := Lib.hid hO
  have HH := Lib.hid hh
  have HL := Lib.hid hl
  have HN := Lib.hid hnc
  have HM := Lib.hid hcm
  have HS := Lib.hid hcs
  clear hcon hO hO1 hH hh hl hnc hcm hcs htk
  go_enter Try.func69, Try.ntmps69
  (repeat (first | (with_reducible first | refine xA ?_ | refine xB ?_ | refine xC ?_ | refine xD ?_ | refine xH ?_ | refine xI rfl ?_ | refine xE ?_ | refine xF ?_ | refine xG ?_) | go_skip | go_guarded | (go_at_call 103; (with_reducible refine (HC.out).mono ?_); rintro _ w1 ⟨rfl, d', n, os, hp, hs, hw1⟩) | go_values | go_skip | go_guarded | go_step | go_upon | go_back | (dsimp only)))
  go_ret
  refine ⟨rfl, d'.toList, ?_⟩
  have hd : d'.toList.toArray = d' := by simp
  obtain ⟨r1, r2⟩ := sorted_list (l' := d'.toList) (by simpa using hp) (by simpa using hs) HL.out
  subst hw1
  refine ⟨r1, r2, ?_, ?_⟩
  · have := ownsRow_sortedI (n := n) (os := os) (ts := d'.toList) (ss := l) r1.length_eq hBb HH.out HN.out HM.out HS.out
    rw [hd] at this
    exact this
  · have h1 := grownBy_sortedI (w := w.alloc (.cells #[.func (.func 70) #[] #[]] 54)) (g := b) (n := n) (os := os) d'
    exact (World.grownBy_alloc w _ _).trans h1

end Go.Proofs.Ytmaogkgjiplckaa
