import Derived.Test.YtmaogkgjiplckaaGreatQR8
set_option linter.unusedVariables false
set_option linter.unusedSimpArgs false
namespace Go.Proofs.YtmaogkgjiplckaaGreat
open Go.RowKit
theorem rkids_anyX (op h : Int) (w : World) (e : kidsI op = h) (h0 : 0 ≤ op ∧ op ≤ 24) :
    Calls Tryz.prog 41 #[.int .i64 op] w fun e w' => e = .returned (.int .i64 h) ∧ w = w' := by
  rw [← e]; exact rkids_any op w h0.1 h0.2
theorem right_err {d : Nd} {ls : List Nd} {a b c : Int} (h0 : 0 ≤ d.op) (h1 : d.op ≤ 24) (hR : kidsR d.op d.k0 d.k1 d.k2 ls = some (a, b, c)) (ha : 0 ≤ a) (hb : 0 ≤ b) (hn : 0 ≤ d.n) (hn' : d.n < 18446744073709551616) :
    rightE d ls = if (widI d.op d.w a b c != d.w) = true ∨ d.w < 0 then 8 else if mostI d.op d.w < d.n then 3 else 0 := by
  have hi := wide_iff (wd := d.w) (c := c) h0 h1 ha hb
  unfold rightE
  rw [if_neg (by omega), hR]
  dsimp only
  by_cases hw : wideB d.op d.w a b c = true
  · have := hi.2 hw
    have h8 : ¬ ((widI d.op d.w a b c != d.w) = true ∨ d.w < 0) := by simp [this.1]; omega
    rw [if_pos hw, if_neg h8, num_iff hw hn hn']
    by_cases e : mostI d.op d.w < d.n <;> simp [e]
  · rw [if_neg hw, if_pos]
    have := mt hi.1 hw
    simp
    omega
set_option maxHeartbeats 2000000 in
theorem rright_0 (op wd n k0 k1 k2 : Int) (b off cap : Nat) (ls : List Nd) (w : World) (hk : kidsI op = 0) (HR : RowAt 6 Nd.cells w b off ls) (hn : 0 ≤ n) (hn' : n < 18446744073709551616) (hw : ∀ d ∈ ls, 0 ≤ d.w) :
    Calls Tryz.prog 51 #[.agg #[.int .i64 op, .int .i64 wd, .int .u64 n, .int .i64 k0, .int .i64 k1, .int .i64 k2], .slice (some ⟨b, off, none⟩) ls.length cap] w fun e w' => e = .returned (.int .i64 (rightE ⟨op, wd, n, k0, k1, k2⟩ ls)) ∧ Below w.heap.size w w' := by
  have hwA := Lib.hid (wAt_nn hw)
  clear hw
  have Hn := Lib.hid (And.intro hn hn')
  clear hn hn'
  go_enter Tryz.func51, Tryz.ntmps51
  (repeat' (first | (with_reducible first | refine xA ?_ | refine xB ?_ | refine xC ?_ | refine xD ?_ | refine xH ?_ | refine xI rfl ?_ | refine xE ?_ | refine xF ?_ | refine xG ?_) | go_skip | go_guarded | ((with_reducible refine wl_id ?_); refine wl_ldW HR (by (repeat (first | with_reducible exact Below.refl _ _ | assumption | with_reducible refine below_drewN ?_ _ | with_reducible refine Below.drew ?_ | with_reducible refine Below.setRow ?_ ?_ _ | with_reducible refine Below.alloc ?_ ?_ _ | with_reducible refine Below.setCell ?_ ?_ _ | with_reducible exact Nat.le_refl _ | (focus (simp; done)) | (focus (simp; omega)) | omega))) _ (by omega) (by omega) rfl _ rfl rfl ?_; simp only [Act.put, qz4, qz5, qz6]) | (go_at_call 41; (with_reducible refine (rkids_anyX _ 0 _ hk (by omega)).mono ?_); rintro e w1 ⟨rfl, rfl⟩) | (with_reducible refine wp_loop_rounds 4 ?_) | rw [rounds_succ] | go_values | go_skip | go_guarded | go_step | go_upon | go_back | ((with_reducible show Oper.upon _ _ _ _ _ _); go_simp) | (dsimp only)))
  all_goals (try (go_ret; exact ⟨ret_int (by simp_all [rightE, kidsR, kidW]), by (repeat (first | with_reducible exact Below.refl _ _ | assumption | with_reducible refine below_drewN ?_ _ | with_reducible refine Below.drew ?_ | with_reducible refine Below.setRow ?_ ?_ _ | with_reducible refine Below.alloc ?_ ?_ _ | with_reducible refine Below.setCell ?_ ?_ _ | with_reducible exact Nat.le_refl _ | (focus (simp; done)) | (focus (simp; omega)) | omega))⟩))
  have hop : 0 ≤ op ∧ op ≤ 24 := by omega
  have hR := Lib.hid (show kidsR op k0 k1 k2 ls = some (0, 0, 0) by simp_all [kidsR, kidW] <;> (repeat rw [if_neg (by omega)]))
  refine wp_abs (fun u => Below w.heap.size w u ∧ RowAt 6 Nd.cells u w.heap.size 0 [⟨op, wd, n, k0, k1, k2⟩] ∧ u.cell? ⟨w.heap.size + 1, 0, none⟩ = some (.int .i64 (0)) ∧ u.cell? ⟨w.heap.size + 1, 1, none⟩ = some (.int .i64 (0)) ∧ u.cell? ⟨w.heap.size + 1, 2, none⟩ = some (.int .i64 (0)))
    ⟨by (repeat (first | with_reducible exact Below.refl _ _ | assumption | with_reducible refine below_drewN ?_ _ | with_reducible refine Below.drew ?_ | with_reducible refine Below.setRow ?_ ?_ _ | with_reducible refine Below.alloc ?_ ?_ _ | with_reducible refine Below.setCell ?_ ?_ _ | with_reducible exact Nat.le_refl _ | (focus (simp; done)) | (focus (simp; omega)) | omega)), (box_row w ⟨op, wd, n, k0, k1, k2⟩ 49).below (by (repeat (first | with_reducible exact Below.refl _ _ | assumption | with_reducible refine below_drewN ?_ _ | with_reducible refine Below.drew ?_ | with_reducible refine Below.setRow ?_ ?_ _ | with_reducible refine Below.alloc ?_ ?_ _ | with_reducible refine Below.setCell ?_ ?_ _ | with_reducible exact Nat.le_refl _ | (focus (simp; done)) | (focus (simp; omega)) | omega))), by simp [go_sem], by simp [go_sem], by simp [go_sem]⟩ ?_
  rintro w9 ⟨HB, HX, c0, c1, c2⟩
  have hva : (0 : Int) ≤ 0 := Int.le_refl 0
  have hvb : (0 : Int) ≤ 0 := Int.le_refl 0
  have Herr := Lib.hid (right_err (d := ⟨op, wd, n, k0, k1, k2⟩) hop.1 hop.2 hR.out hva hvb Hn.out.1 Hn.out.2)
  obtain ⟨cW, cN⟩ := cell_x _ _ _ HX
  dsimp only at cW cN
  by_cases t1 : (widI op wd (0) (0) (0) != wd) = true
  · (refine wp_region_cls (by kernel_rfl) (by kernel_rfl) ?_; (repeat (first | go_big_quiet_skip | (go_big_quiet_want; first | (refine quiet_ldNd HX 0 _ rfl _ rfl rfl ?_; simp only [Act.put, qz4, qz5, qz6]; (try dsimp only); go_big_quiet_on) | (refine quiet_ld3 c0 _ rfl rfl ?_; simp only [Act.put, qz4, qz5, qz6]; go_big_quiet_on) | (refine quiet_ld3 c1 _ rfl rfl ?_; simp only [Act.put, qz4, qz5, qz6]; go_big_quiet_on) | (refine quiet_ld3 c2 _ rfl rfl ?_; simp only [Act.put, qz4, qz5, qz6]; go_big_quiet_on) | (refine quiet_ld3 cW _ rfl rfl ?_; simp only [Act.put, qz4, qz5, qz6]; go_big_quiet_on) | (refine quiet_ld46 cN _ rfl rfl ?_; simp only [Act.put, qz4, qz5, qz6]; go_big_quiet_on) | (go_big_quiet_op; first | go_big_quiet_on | (refine Exists.intro _ (And.intro (fun _ _ => rfl) ?_); go_big_quiet_on) | go_big_quiet_call (((intro hC; replace hC : Below _ _ _ := hC); first | (go_at_call 66; (with_reducible refine (width_any _ _ _ _ _ _ _ _ _ _).mono ?_); (rintro e w2 ⟨rfl, hb⟩; exact ⟨rfl, hC.trans (hb.mono hC.size)⟩)) | (go_at_call 67; (with_reducible refine (most_any _ _ _ _ _ _ _).mono ?_); (rintro e w2 ⟨rfl, hb⟩; exact ⟨rfl, hC.trans (hb.mono hC.size)⟩)))))))); refine wpQuiet_nil ?_; intro w8 hb; replace hb : Below _ _ _ := hb; replace HX := HX.below hb; replace HB := HB.trans (hb.mono HB.size); replace cW := cell_keep hb cW; replace cN := cell_keep hb cN; clear hb c0 c1 c2)
    (repeat (first | (with_reducible first | refine xA ?_ | refine xB ?_ | refine xC ?_ | refine xD ?_ | refine xH ?_ | refine xI rfl ?_ | refine xE ?_ | refine xF ?_ | refine xG ?_) | go_values | go_skip | go_guarded | go_step | go_upon | go_back | ((with_reducible show Oper.upon _ _ _ _ _ _); go_simp) | (dsimp only)))
    go_ret
    exact ⟨ret_int (by rw [Herr.out, if_pos (.inl t1)]), HB⟩
  replace t1 : (widI op wd (0) (0) (0) != wd) = false := by simpa using t1
  by_cases t2 : wd < 0
  · (refine wp_region_cls (by kernel_rfl) (by kernel_rfl) ?_; (repeat (first | go_big_quiet_skip | (go_big_quiet_want; first | (refine quiet_ldNd HX 0 _ rfl _ rfl rfl ?_; simp only [Act.put, qz4, qz5, qz6]; (try dsimp only); go_big_quiet_on) | (refine quiet_ld3 c0 _ rfl rfl ?_; simp only [Act.put, qz4, qz5, qz6]; go_big_quiet_on) | (refine quiet_ld3 c1 _ rfl rfl ?_; simp only [Act.put, qz4, qz5, qz6]; go_big_quiet_on) | (refine quiet_ld3 c2 _ rfl rfl ?_; simp only [Act.put, qz4, qz5, qz6]; go_big_quiet_on) | (refine quiet_ld3 cW _ rfl rfl ?_; simp only [Act.put, qz4, qz5, qz6]; go_big_quiet_on) | (refine quiet_ld46 cN _ rfl rfl ?_; simp only [Act.put, qz4, qz5, qz6]; go_big_quiet_on) | (go_big_quiet_op; first | go_big_quiet_on | (refine Exists.intro _ (And.intro (fun _ _ => rfl) ?_); go_big_quiet_on) | go_big_quiet_call (((intro hC; replace hC : Below _ _ _ := hC); first | (go_at_call 66; (with_reducible refine (width_any _ _ _ _ _ _ _ _ _ _).mono ?_); (rintro e w2 ⟨rfl, hb⟩; exact ⟨rfl, hC.trans (hb.mono hC.size)⟩)) | (go_at_call 67; (with_reducible refine (most_any _ _ _ _ _ _ _).mono ?_); (rintro e w2 ⟨rfl, hb⟩; exact ⟨rfl, hC.trans (hb.mono hC.size)⟩)))))))); refine wpQuiet_nil ?_; intro w8 hb; replace hb : Below _ _ _ := hb; replace HX := HX.below hb; replace HB := HB.trans (hb.mono HB.size); replace cW := cell_keep hb cW; replace cN := cell_keep hb cN; clear hb c0 c1 c2)
    (repeat (first | (with_reducible first | refine xA ?_ | refine xB ?_ | refine xC ?_ | refine xD ?_ | refine xH ?_ | refine xI rfl ?_ | refine xE ?_ | refine xF ?_ | refine xG ?_) | go_values | go_skip | go_guarded | go_step | go_upon | go_back | ((with_reducible show Oper.upon _ _ _ _ _ _); go_simp) | (dsimp only)))
    go_ret
    exact ⟨ret_int (by rw [Herr.out, if_pos (.inr t2)]), HB⟩
  by_cases t3 : mostI op wd < n
  · (refine wp_region_cls (by kernel_rfl) (by kernel_rfl) ?_; (repeat (first | go_big_quiet_skip | (go_big_quiet_want; first | (refine quiet_ldNd HX 0 _ rfl _ rfl rfl ?_; simp only [Act.put, qz4, qz5, qz6]; (try dsimp only); go_big_quiet_on) | (refine quiet_ld3 c0 _ rfl rfl ?_; simp only [Act.put, qz4, qz5, qz6]; go_big_quiet_on) | (refine quiet_ld3 c1 _ rfl rfl ?_; simp only [Act.put, qz4, qz5, qz6]; go_big_quiet_on) | (refine quiet_ld3 c2 _ rfl rfl ?_; simp only [Act.put, qz4, qz5, qz6]; go_big_quiet_on) | (refine quiet_ld3 cW _ rfl rfl ?_; simp only [Act.put, qz4, qz5, qz6]; go_big_quiet_on) | (refine quiet_ld46 cN _ rfl rfl ?_; simp only [Act.put, qz4, qz5, qz6]; go_big_quiet_on) | (go_big_quiet_op; first | go_big_quiet_on | (refine Exists.intro _ (And.intro (fun _ _ => rfl) ?_); go_big_quiet_on) | go_big_quiet_call (((intro hC; replace hC : Below _ _ _ := hC); first | (go_at_call 66; (with_reducible refine (width_any _ _ _ _ _ _ _ _ _ _).mono ?_); (rintro e w2 ⟨rfl, hb⟩; exact ⟨rfl, hC.trans (hb.mono hC.size)⟩)) | (go_at_call 67; (with_reducible refine (most_any _ _ _ _ _ _ _).mono ?_); (rintro e w2 ⟨rfl, hb⟩; exact ⟨rfl, hC.trans (hb.mono hC.size)⟩)))))))); refine wpQuiet_nil ?_; intro w8 hb; replace hb : Below _ _ _ := hb; replace HX := HX.below hb; replace HB := HB.trans (hb.mono HB.size); replace cW := cell_keep hb cW; replace cN := cell_keep hb cN; clear hb c0 c1 c2)
    (repeat (first | (with_reducible first | refine xA ?_ | refine xB ?_ | refine xC ?_ | refine xD ?_ | refine xH ?_ | refine xI rfl ?_ | refine xE ?_ | refine xF ?_ | refine xG ?_) | go_values | go_skip | go_guarded | go_step | go_upon | go_back | ((with_reducible show Oper.upon _ _ _ _ _ _); go_simp) | (dsimp only)))
    (refine wp_region_cls (by kernel_rfl) (by kernel_rfl) ?_; (repeat (first | go_big_quiet_skip | (go_big_quiet_want; first | (refine quiet_ldNd HX 0 _ rfl _ rfl rfl ?_; simp only [Act.put, qz4, qz5, qz6]; (try dsimp only); go_big_quiet_on) | (refine quiet_ld3 c0 _ rfl rfl ?_; simp only [Act.put, qz4, qz5, qz6]; go_big_quiet_on) | (refine quiet_ld3 c1 _ rfl rfl ?_; simp only [Act.put, qz4, qz5, qz6]; go_big_quiet_on) | (refine quiet_ld3 c2 _ rfl rfl ?_; simp only [Act.put, qz4, qz5, qz6]; go_big_quiet_on) | (refine quiet_ld3 cW _ rfl rfl ?_; simp only [Act.put, qz4, qz5, qz6]; go_big_quiet_on) | (refine quiet_ld46 cN _ rfl rfl ?_; simp only [Act.put, qz4, qz5, qz6]; go_big_quiet_on) | (go_big_quiet_op; first | go_big_quiet_on | (refine Exists.intro _ (And.intro (fun _ _ => rfl) ?_); go_big_quiet_on) | go_big_quiet_call (((intro hC; replace hC : Below _ _ _ := hC); first | (go_at_call 66; (with_reducible refine (width_any _ _ _ _ _ _ _ _ _ _).mono ?_); (rintro e w2 ⟨rfl, hb⟩; exact ⟨rfl, hC.trans (hb.mono hC.size)⟩)) | (go_at_call 67; (with_reducible refine (most_any _ _ _ _ _ _ _).mono ?_); (rintro e w2 ⟨rfl, hb⟩; exact ⟨rfl, hC.trans (hb.mono hC.size)⟩)))))))); refine wpQuiet_nil ?_; intro w7 hb; replace hb : Below _ _ _ := hb; replace HB := HB.trans (hb.mono HB.size); clear hb)
    (repeat (first | (with_reducible first | refine xA ?_ | refine xB ?_ | refine xC ?_ | refine xD ?_ | refine xH ?_ | refine xI rfl ?_ | refine xE ?_ | refine xF ?_ | refine xG ?_) | go_values | go_skip | go_guarded | go_step | go_upon | go_back | ((with_reducible show Oper.upon _ _ _ _ _ _); go_simp) | (dsimp only)))
    go_ret
    exact ⟨ret_int (by rw [Herr.out, if_neg (by simp [t1, t2]), if_pos t3]), HB⟩
  · (refine wp_region_cls (by kernel_rfl) (by kernel_rfl) ?_; (repeat (first | go_big_quiet_skip | (go_big_quiet_want; first | (refine quiet_ldNd HX 0 _ rfl _ rfl rfl ?_; simp only [Act.put, qz4, qz5, qz6]; (try dsimp only); go_big_quiet_on) | (refine quiet_ld3 c0 _ rfl rfl ?_; simp only [Act.put, qz4, qz5, qz6]; go_big_quiet_on) | (refine quiet_ld3 c1 _ rfl rfl ?_; simp only [Act.put, qz4, qz5, qz6]; go_big_quiet_on) | (refine quiet_ld3 c2 _ rfl rfl ?_; simp only [Act.put, qz4, qz5, qz6]; go_big_quiet_on) | (refine quiet_ld3 cW _ rfl rfl ?_; simp only [Act.put, qz4, qz5, qz6]; go_big_quiet_on) | (refine quiet_ld46 cN _ rfl rfl ?_; simp only [Act.put, qz4, qz5, qz6]; go_big_quiet_on) | (go_big_quiet_op; first | go_big_quiet_on | (refine Exists.intro _ (And.intro (fun _ _ => rfl) ?_); go_big_quiet_on) | go_big_quiet_call (((intro hC; replace hC : Below _ _ _ := hC); first | (go_at_call 66; (with_reducible refine (width_any _ _ _ _ _ _ _ _ _ _).mono ?_); (rintro e w2 ⟨rfl, hb⟩; exact ⟨rfl, hC.trans (hb.mono hC.size)⟩)) | (go_at_call 67; (with_reducible refine (most_any _ _ _ _ _ _ _).mono ?_); (rintro e w2 ⟨rfl, hb⟩; exact ⟨rfl, hC.trans (hb.mono hC.size)⟩)))))))); refine wpQuiet_nil ?_; intro w8 hb; replace hb : Below _ _ _ := hb; replace HX := HX.below hb; replace HB := HB.trans (hb.mono HB.size); replace cW := cell_keep hb cW; replace cN := cell_keep hb cN; clear hb c0 c1 c2)
    (repeat (first | (with_reducible first | refine xA ?_ | refine xB ?_ | refine xC ?_ | refine xD ?_ | refine xH ?_ | refine xI rfl ?_ | refine xE ?_ | refine xF ?_ | refine xG ?_) | go_values | go_skip | go_guarded | go_step | go_upon | go_back | ((with_reducible show Oper.upon _ _ _ _ _ _); go_simp) | (dsimp only)))
    (refine wp_region_cls (by kernel_rfl) (by kernel_rfl) ?_; (repeat (first | go_big_quiet_skip | (go_big_quiet_want; first | (refine quiet_ldNd HX 0 _ rfl _ rfl rfl ?_; simp only [Act.put, qz4, qz5, qz6]; (try dsimp only); go_big_quiet_on) | (refine quiet_ld3 c0 _ rfl rfl ?_; simp only [Act.put, qz4, qz5, qz6]; go_big_quiet_on) | (refine quiet_ld3 c1 _ rfl rfl ?_; simp only [Act.put, qz4, qz5, qz6]; go_big_quiet_on) | (refine quiet_ld3 c2 _ rfl rfl ?_; simp only [Act.put, qz4, qz5, qz6]; go_big_quiet_on) | (refine quiet_ld3 cW _ rfl rfl ?_; simp only [Act.put, qz4, qz5, qz6]; go_big_quiet_on) | (refine quiet_ld46 cN _ rfl rfl ?_; simp only [Act.put, qz4, qz5, qz6]; go_big_quiet_on) | (go_big_quiet_op; first | go_big_quiet_on | (refine Exists.intro _ (And.intro (fun _ _ => rfl) ?_); go_big_quiet_on) | go_big_quiet_call (((intro hC; replace hC : Below _ _ _ := hC); first | (go_at_call 66; (with_reducible refine (width_any _ _ _ _ _ _ _ _ _ _).mono ?_); (rintro e w2 ⟨rfl, hb⟩; exact ⟨rfl, hC.trans (hb.mono hC.size)⟩)) | (go_at_call 67; (with_reducible refine (most_any _ _ _ _ _ _ _).mono ?_); (rintro e w2 ⟨rfl, hb⟩; exact ⟨rfl, hC.trans (hb.mono hC.size)⟩)))))))); refine wpQuiet_nil ?_; intro w7 hb; replace hb : Below _ _ _ := hb; replace HB := HB.trans (hb.mono HB.size); clear hb)
    (repeat (first | (with_reducible first | refine xA ?_ | refine xB ?_ | refine xC ?_ | refine xD ?_ | refine xH ?_ | refine xI rfl ?_ | refine xE ?_ | refine xF ?_ | refine xG ?_) | go_values | go_skip | go_guarded | go_step | go_upon | go_back | ((with_reducible show Oper.upon _ _ _ _ _ _); go_simp) | (dsimp only)))
    go_ret
    exact ⟨ret_int (by rw [Herr.out, if_neg (by simp [t1, t2]), if_neg t3]), HB⟩
set_option maxHeartbeats 2000000 in
theorem rright_1 (op wd n k0 k1 k2 : Int) (b off cap : Nat) (ls : List Nd) (w : World) (hk : kidsI op = 1) (HR : RowAt 6 Nd.cells w b off ls) (hn : 0 ≤ n) (hn' : n < 18446744073709551616) (hw : ∀ d ∈ ls, 0 ≤ d.w) :
    Calls Tryz.prog 51 #[.agg #[.int .i64 op, .int .i64 wd, .int .u64 n, .int .i64 k0, .int .i64 k1, .int .i64 k2], .slice (some ⟨b, off, none⟩) ls.length cap] w fun e w' => e = .returned (.int .i64 (rightE ⟨op, wd, n, k0, k1, k2⟩ ls)) ∧ Below w.heap.size w w' := by
  have hwA := Lib.hid (wAt_nn hw)
  clear hw
  have Hn := Lib.hid (And.intro hn hn')
  clear hn hn'
  go_enter Tryz.func51, Tryz.ntmps51
  (repeat' (first | (with_reducible first | refine xA ?_ | refine xB ?_ | refine xC ?_ | refine xD ?_ | refine xH ?_ | refine xI rfl ?_ | refine xE ?_ | refine xF ?_ | refine xG ?_) | go_skip | go_guarded | ((with_reducible refine wl_id ?_); refine wl_ldW HR (by (repeat (first | with_reducible exact Below.refl _ _ | assumption | with_reducible refine below_drewN ?_ _ | with_reducible refine Below.drew ?_ | with_reducible refine Below.setRow ?_ ?_ _ | with_reducible refine Below.alloc ?_ ?_ _ | with_reducible refine Below.setCell ?_ ?_ _ | with_reducible exact Nat.le_refl _ | (focus (simp; done)) | (focus (simp; omega)) | omega))) _ (by omega) (by omega) rfl _ rfl rfl ?_; simp only [Act.put, qz4, qz5, qz6]) | (go_at_call 41; (with_reducible refine (rkids_anyX _ 1 _ hk (by omega)).mono ?_); rintro e w1 ⟨rfl, rfl⟩) | (with_reducible refine wp_loop_rounds 4 ?_) | rw [rounds_succ] | go_values | go_skip | go_guarded | go_step | go_upon | go_back | ((with_reducible show Oper.upon _ _ _ _ _ _); go_simp) | (dsimp only)))
  all_goals (try (go_ret; exact ⟨ret_int (by simp_all [rightE, kidsR, kidW]), by (repeat (first | with_reducible exact Below.refl _ _ | assumption | with_reducible refine below_drewN ?_ _ | with_reducible refine Below.drew ?_ | with_reducible refine Below.setRow ?_ ?_ _ | with_reducible refine Below.alloc ?_ ?_ _ | with_reducible refine Below.setCell ?_ ?_ _ | with_reducible exact Nat.le_refl _ | (focus (simp; done)) | (focus (simp; omega)) | omega))⟩))
  have hop : 0 ≤ op ∧ op ≤ 24 := by omega
  have hR := Lib.hid (show kidsR op k0 k1 k2 ls = some (wAt ls k0, 0, 0) by simp_all [kidsR, kidW] <;> (repeat rw [if_neg (by omega)]))
  refine wp_abs (fun u => Below w.heap.size w u ∧ RowAt 6 Nd.cells u w.heap.size 0 [⟨op, wd, n, k0, k1, k2⟩] ∧ u.cell? ⟨w.heap.size + 1, 0, none⟩ = some (.int .i64 (wAt ls k0)) ∧ u.cell? ⟨w.heap.size + 1, 1, none⟩ = some (.int .i64 (0)) ∧ u.cell? ⟨w.heap.size + 1, 2, none⟩ = some (.int .i64 (0)))
    ⟨by (repeat (first | with_reducible exact Below.refl _ _ | assumption | with_reducible refine below_drewN ?_ _ | with_reducible refine Below.drew ?_ | with_reducible refine Below.setRow ?_ ?_ _ | with_reducible refine Below.alloc ?_ ?_ _ | with_reducible refine Below.setCell ?_ ?_ _ | with_reducible exact Nat.le_refl _ | (focus (simp; done)) | (focus (simp; omega)) | omega)), (box_row w ⟨op, wd, n, k0, k1, k2⟩ 49).below (by (repeat (first | with_reducible exact Below.refl _ _ | assumption | with_reducible refine below_drewN ?_ _ | with_reducible refine Below.drew ?_ | with_reducible refine Below.setRow ?_ ?_ _ | with_reducible refine Below.alloc ?_ ?_ _ | with_reducible refine Below.setCell ?_ ?_ _ | with_reducible exact Nat.le_refl _ | (focus (simp; done)) | (focus (simp; omega)) | omega))), by simp [go_sem], by simp [go_sem], by simp [go_sem]⟩ ?_
  rintro w9 ⟨HB, HX, c0, c1, c2⟩
  have hva : 0 ≤ wAt ls k0 := hwA.out _
  have hvb : (0 : Int) ≤ 0 := Int.le_refl 0
  have Herr := Lib.hid (right_err (d := ⟨op, wd, n, k0, k1, k2⟩) hop.1 hop.2 hR.out hva hvb Hn.out.1 Hn.out.2)
  obtain ⟨cW, cN⟩ := cell_x _ _ _ HX
  dsimp only at cW cN
  by_cases t1 : (widI op wd (wAt ls k0) (0) (0) != wd) = true
  · (refine wp_region_cls (by kernel_rfl) (by kernel_rfl) ?_; (repeat (first | go_big_quiet_skip | (go_big_quiet_want; first | (refine quiet_ldNd HX 0 _ rfl _ rfl rfl ?_; simp only [Act.put, qz4, qz5, qz6]; (try dsimp only); go_big_quiet_on) | (refine quiet_ld3 c0 _ rfl rfl ?_; simp only [Act.put, qz4, qz5, qz6]; go_big_quiet_on) | (refine quiet_ld3 c1 _ rfl rfl ?_; simp only [Act.put, qz4, qz5, qz6]; go_big_quiet_on) | (refine quiet_ld3 c2 _ rfl rfl ?_; simp only [Act.put, qz4, qz5, qz6]; go_big_quiet_on) | (refine quiet_ld3 cW _ rfl rfl ?_; simp only [Act.put, qz4, qz5, qz6]; go_big_quiet_on) | (refine quiet_ld46 cN _ rfl rfl ?_; simp only [Act.put, qz4, qz5, qz6]; go_big_quiet_on) | (go_big_quiet_op; first | go_big_quiet_on | (refine Exists.intro _ (And.intro (fun _ _ => rfl) ?_); go_big_quiet_on) | go_big_quiet_call (((intro hC; replace hC : Below _ _ _ := hC); first | (go_at_call 66; (with_reducible refine (width_any _ _ _ _ _ _ _ _ _ _).mono ?_); (rintro e w2 ⟨rfl, hb⟩; exact ⟨rfl, hC.trans (hb.mono hC.size)⟩)) | (go_at_call 67; (with_reducible refine (most_any _ _ _ _ _ _ _).mono ?_); (rintro e w2 ⟨rfl, hb⟩; exact ⟨rfl, hC.trans (hb.mono hC.size)⟩)))))))); refine wpQuiet_nil ?_; intro w8 hb; replace hb : Below _ _ _ := hb; replace HX := HX.below hb; replace HB := HB.trans (hb.mono HB.size); replace cW := cell_keep hb cW; replace cN := cell_keep hb cN; clear hb c0 c1 c2)
    (repeat (first | (with_reducible first | refine xA ?_ | refine xB ?_ | refine xC ?_ | refine xD ?_ | refine xH ?_ | refine xI rfl ?_ | refine xE ?_ | refine xF ?_ | refine xG ?_) | go_values | go_skip | go_guarded | go_step | go_upon | go_back | ((with_reducible show Oper.upon _ _ _ _ _ _); go_simp) | (dsimp only)))
    go_ret
    exact ⟨ret_int (by rw [Herr.out, if_pos (.inl t1)]), HB⟩
  replace t1 : (widI op wd (wAt ls k0) (0) (0) != wd) = false := by simpa using t1
  by_cases t2 : wd < 0
  · (refine wp_region_cls (by kernel_rfl) (by kernel_rfl) ?_; (repeat (first | go_big_quiet_skip | (go_big_quiet_want; first | (refine quiet_ldNd HX 0 _ rfl _ rfl rfl ?_; simp only [Act.put, qz4, qz5, qz6]; (try dsimp only); go_big_quiet_on) | (refine quiet_ld3 c0 _ rfl rfl ?_; simp only [Act.put, qz4, qz5, qz6]; go_big_quiet_on) | (refine quiet_ld3 c1 _ rfl rfl ?_; simp only [Act.put, qz4, qz5, qz6]; go_big_quiet_on) | (refine quiet_ld3 c2 _ rfl rfl ?_; simp only [Act.put, qz4, qz5, qz6]; go_big_quiet_on) | (refine quiet_ld3 cW _ rfl rfl ?_; simp only [Act.put, qz4, qz5, qz6]; go_big_quiet_on) | (refine quiet_ld46 cN _ rfl rfl ?_; simp only [Act.put, qz4, qz5, qz6]; go_big_quiet_on) | (go_big_quiet_op; first | go_big_quiet_on | (refine Exists.intro _ (And.intro (fun _ _ => rfl) ?_); go_big_quiet_on) | go_big_quiet_call (((intro hC; replace hC : Below _ _ _ := hC); first | (go_at_call 66; (with_reducible refine (width_any _ _ _ _ _ _ _ _ _ _).mono ?_); (rintro e w2 ⟨rfl, hb⟩; exact ⟨rfl, hC.trans (hb.mono hC.size)⟩)) | (go_at_call 67; (with_reducible refine (most_any _ _ _ _ _ _ _).mono ?_); (rintro e w2 ⟨rfl, hb⟩; exact ⟨rfl, hC.trans (hb.mono hC.size)⟩)))))))); refine wpQuiet_nil ?_; intro w8 hb; replace hb : Below _ _ _ := hb; replace HX := HX.below hb; replace HB := HB.trans (hb.mono HB.size); replace cW := cell_keep hb cW; replace cN := cell_keep hb cN; clear hb c0 c1 c2)
    (repeat (first | (with_reducible first | refine xA ?_ | refine xB ?_ | refine xC ?_ | refine xD ?_ | refine xH ?_ | refine xI rfl ?_ | refine xE ?_ | refine xF ?_ | refine xG ?_) | go_values | go_skip | go_guarded | go_step | go_upon | go_back | ((with_reducible show Oper.upon _ _ _ _ _ _); go_simp) | (dsimp only)))
    go_ret
    exact ⟨ret_int (by rw [Herr.out, if_pos (.inr t2)]), HB⟩
  by_cases t3 : mostI op wd < n
  · (refine wp_region_cls (by kernel_rfl) (by kernel_rfl) ?_; (repeat (first | go_big_quiet_skip | (go_big_quiet_want; first | (refine quiet_ldNd HX 0 _ rfl _ rfl rfl ?_; simp only [Act.put, qz4, qz5, qz6]; (try dsimp only); go_big_quiet_on) | (refine quiet_ld3 c0 _ rfl rfl ?_; simp only [Act.put, qz4, qz5, qz6]; go_big_quiet_on) | (refine quiet_ld3 c1 _ rfl rfl ?_; simp only [Act.put, qz4, qz5, qz6]; go_big_quiet_on) | (refine quiet_ld3 c2 _ rfl rfl ?_; simp only [Act.put, qz4, qz5, qz6]; go_big_quiet_on) | (refine quiet_ld3 cW _ rfl rfl ?_; simp only [Act.put, qz4, qz5, qz6]; go_big_quiet_on) | (refine quiet_ld46 cN _ rfl rfl ?_; simp only [Act.put, qz4, qz5, qz6]; go_big_quiet_on) | (go_big_quiet_op; first | go_big_quiet_on | (refine Exists.intro _ (And.intro (fun _ _ => rfl) ?_); go_big_quiet_on) | go_big_quiet_call (((intro hC; replace hC : Below _ _ _ := hC); first | (go_at_call 66; (with_reducible refine (width_any _ _ _ _ _ _ _ _ _ _).mono ?_); (rintro e w2 ⟨rfl, hb⟩; exact ⟨rfl, hC.trans (hb.mono hC.size)⟩)) | (go_at_call 67; (with_reducible refine (most_any _ _ _ _ _ _ _).mono ?_); (rintro e w2 ⟨rfl, hb⟩; exact ⟨rfl, hC.trans (hb.mono hC.size)⟩)))))))); refine wpQuiet_nil ?_; intro w8 hb; replace hb : Below _ _ _ := hb; replace HX := HX.below hb; replace HB := HB.trans (hb.mono HB.size); replace cW := cell_keep hb cW; replace cN := cell_keep hb cN; clear hb c0 c1 c2)
    (repeat (first | (with_reducible first | refine xA ?_ | refine xB ?_ | refine xC ?_ | refine xD ?_ | refine xH ?_ | refine xI rfl ?_ | refine xE ?_ | refine xF ?_ | refine xG ?_) | go_values | go_skip | go_guarded | go_step | go_upon | go_back | ((with_reducible show Oper.upon _ _ _ _ _ _); go_simp) | (dsimp only)))
    (refine wp_region_cls (by kernel_rfl) (by kernel_rfl) ?_; (repeat (first | go_big_quiet_skip | (go_big_quiet_want; first | (refine quiet_ldNd HX 0 _ rfl _ rfl rfl ?_; simp only [Act.put, qz4, qz5, qz6]; (try dsimp only); go_big_quiet_on) | (refine quiet_ld3 c0 _ rfl rfl ?_; simp only [Act.put, qz4, qz5, qz6]; go_big_quiet_on) | (refine quiet_ld3 c1 _ rfl rfl ?_; simp only [Act.put, qz4, qz5, qz6]; go_big_quiet_on) | (refine quiet_ld3 c2 _ rfl rfl ?_; simp only [Act.put, qz4, qz5, qz6]; go_big_quiet_on) | (refine quiet_ld3 cW _ rfl rfl ?_; simp only [Act.put, qz4, qz5, qz6]; go_big_quiet_on) | (refine quiet_ld46 cN _ rfl rfl ?_; simp only [Act.put, qz4, qz5, qz6]; go_big_quiet_on) | (go_big_quiet_op; first | go_big_quiet_on | (refine Exists.intro _ (And.intro (fun _ _ => rfl) ?_); go_big_quiet_on) | go_big_quiet_call (((intro hC; replace hC : Below _ _ _ := hC); first | (go_at_call 66; (with_reducible refine (width_any _ _ _ _ _ _ _ _ _ _).mono ?_); (rintro e w2 ⟨rfl, hb⟩; exact ⟨rfl, hC.trans (hb.mono hC.size)⟩)) | (go_at_call 67; (with_reducible refine (most_any _ _ _ _ _ _ _).mono ?_); (rintro e w2 ⟨rfl, hb⟩; exact ⟨rfl, hC.trans (hb.mono hC.size)⟩)))))))); refine wpQuiet_nil ?_; intro w7 hb; replace hb : Below _ _ _ := hb; replace HB := HB.trans (hb.mono HB.size); clear hb)
    (repeat (first | (with_reducible first | refine xA ?_ | refine xB ?_ | refine xC ?_ | refine xD ?_ | refine xH ?_ | refine xI rfl ?_ | refine xE ?_ | refine xF ?_ | refine xG ?_) | go_values | go_skip | go_guarded | go_step | go_upon | go_back | ((with_reducible show Oper.upon _ _ _ _ _ _); go_simp) | (dsimp only)))
    go_ret
    exact ⟨ret_int (by rw [Herr.out, if_neg (by simp [t1, t2]), if_pos t3]), HB⟩
  · (refine wp_region_cls (by kernel_rfl) (by kernel_rfl) ?_; (repeat (first | go_big_quiet_skip | (go_big_quiet_want; first | (refine quiet_ldNd HX 0 _ rfl _ rfl rfl ?_; simp only [Act.put, qz4, qz5, qz6]; (try dsimp only); go_big_quiet_on) | (refine quiet_ld3 c0 _ rfl rfl ?_; simp only [Act.put, qz4, qz5, qz6]; go_big_quiet_on) | (refine quiet_ld3 c1 _ rfl rfl ?_; simp only [Act.put, qz4, qz5, qz6]; go_big_quiet_on) | (refine quiet_ld3 c2 _ rfl rfl ?_; simp only [Act.put, qz4, qz5, qz6]; go_big_quiet_on) | (refine quiet_ld3 cW _ rfl rfl ?_; simp only [Act.put, qz4, qz5, qz6]; go_big_quiet_on) | (refine quiet_ld46 cN _ rfl rfl ?_; simp only [Act.put, qz4, qz5, qz6]; go_big_quiet_on) | (go_big_quiet_op; first | go_big_quiet_on | (refine Exists.intro _ (And.intro (fun _ _ => rfl) ?_); go_big_quiet_on) | go_big_quiet_call (((intro hC; replace hC : Below _ _ _ := hC); first | (go_at_call 66; (with_reducible refine (width_any _ _ _ _ _ _ _ _ _ _).mono ?_); (rintro e w2 ⟨rfl, hb⟩; exact ⟨rfl, hC.trans (hb.mono hC.size)⟩)) | (go_at_call 67; (with_reducible refine (most_any _ _ _ _ _ _ _).mono ?_); (rintro e w2 ⟨rfl, hb⟩; exact ⟨rfl, hC.trans (hb.mono hC.size)⟩)))))))); refine wpQuiet_nil ?_; intro w8 hb; replace hb : Below _ _ _ := hb; replace HX := HX.below hb; replace HB := HB.trans (hb.mono HB.size); replace cW := cell_keep hb cW; replace cN := cell_keep hb cN; clear hb c0 c1 c2)
    (repeat (first | (with_reducible first | refine xA ?_ | refine xB ?_ | refine xC ?_ | refine xD ?_ | refine xH ?_ | refine xI rfl ?_ | refine xE ?_ | refine xF ?_ | refine xG ?_) | go_values | go_skip | go_guarded | go_step | go_upon | go_back | ((with_reducible show Oper.upon _ _ _ _ _ _); go_simp) | (dsimp only)))
    (refine wp_region_cls (by kernel_rfl) (by kernel_rfl) ?_; (repeat (first | go_big_quiet_skip | (go_big_quiet_want; first | (refine quiet_ldNd HX 0 _ rfl _ rfl rfl ?_; simp only [Act.put, qz4, qz5, qz6]; (try dsimp only); go_big_quiet_on) | (refine quiet_ld3 c0 _ rfl rfl ?_; simp only [Act.put, qz4, qz5, qz6]; go_big_quiet_on) | (refine quiet_ld3 c1 _ rfl rfl ?_; simp only [Act.put, qz4, qz5, qz6]; go_big_quiet_on) | (refine quiet_ld3 c2 _ rfl rfl ?_; simp only [Act.put, qz4, qz5, qz6]; go_big_quiet_on) | (refine quiet_ld3 cW _ rfl rfl ?_; simp only [Act.put, qz4, qz5, qz6]; go_big_quiet_on) | (refine quiet_ld46 cN _ rfl rfl ?_; simp only [Act.put, qz4, qz5, qz6]; go_big_quiet_on) | (go_big_quiet_op; first | go_big_quiet_on | (refine Exists.intro _ (And.intro (fun _ _ => rfl) ?_); go_big_quiet_on) | go_big_quiet_call (((intro hC; replace hC : Below _ _ _ := hC); first | (go_at_call 66; (with_reducible refine (width_any _ _ _ _ _ _ _ _ _ _).mono ?_); (rintro e w2 ⟨rfl, hb⟩; exact ⟨rfl, hC.trans (hb.mono hC.size)⟩)) | (go_at_call 67; (with_reducible refine (most_any _ _ _ _ _ _ _).mono ?_); (rintro e w2 ⟨rfl, hb⟩; exact ⟨rfl, hC.trans (hb.mono hC.size)⟩)))))))); refine wpQuiet_nil ?_; intro w7 hb; replace hb : Below _ _ _ := hb; replace HB := HB.trans (hb.mono HB.size); clear hb)
    (repeat (first | (with_reducible first | refine xA ?_ | refine xB ?_ | refine xC ?_ | refine xD ?_ | refine xH ?_ | refine xI rfl ?_ | refine xE ?_ | refine xF ?_ | refine xG ?_) | go_values | go_skip | go_guarded | go_step | go_upon | go_back | ((with_reducible show Oper.upon _ _ _ _ _ _); go_simp) | (dsimp only)))
    go_ret
    exact ⟨ret_int (by rw [Herr.out, if_neg (by simp [t1, t2]), if_neg t3]), HB⟩
set_option maxHeartbeats 2000000 in
theorem rright_2 (op wd n k0 k1 k2 : Int) (b off cap : Nat) (ls : List Nd) (w : World) (hk : kidsI op = 2) (HR : RowAt 6 Nd.cells w b off ls) (hn : 0 ≤ n) (hn' : n < 18446744073709551616) (hw : ∀ d ∈ ls, 0 ≤ d.w) :
    Calls Tryz.prog 51 #[.agg #[.int .i64 op, .int .i64 wd, .int .u64 n, .int .i64 k0, .int .i64 k1, .int .i64 k2], .slice (some ⟨b, off, none⟩) ls.length cap] w fun e w' => e = .returned (.int .i64 (rightE ⟨op, wd, n, k0, k1, k2⟩ ls)) ∧ Below w.heap.size w w' := by
  have hwA := Lib.hid (wAt_nn hw)
  clear hw
  have Hn := Lib.hid (And.intro hn hn')
  clear hn hn'
  go_enter Tryz.func51, Tryz.ntmps51
  (repeat' (first | (with_reducible first | refine xA ?_ | refine xB ?_ | refine xC ?_ | refine xD ?_ | refine xH ?_ | refine xI rfl ?_ | refine xE ?_ | refine xF ?_ | refine xG ?_) | go_skip | go_guarded | ((with_reducible refine wl_id ?_); refine wl_ldW HR (by (repeat (first | with_reducible exact Below.refl _ _ | assumption | with_reducible refine below_drewN ?_ _ | with_reducible refine Below.drew ?_ | with_reducible refine Below.setRow ?_ ?_ _ | with_reducible refine Below.alloc ?_ ?_ _ | with_reducible refine Below.setCell ?_ ?_ _ | with_reducible exact Nat.le_refl _ | (focus (simp; done)) | (focus (simp; omega)) | omega))) _ (by omega) (by omega) rfl _ rfl rfl ?_; simp only [Act.put, qz4, qz5, qz6]) | (go_at_call 41; (with_reducible refine (rkids_anyX _ 2 _ hk (by omega)).mono ?_); rintro e w1 ⟨rfl, rfl⟩) | (with_reducible refine wp_loop_rounds 4 ?_) | rw [rounds_succ] | go_values | go_skip | go_guarded | go_step | go_upon | go_back | ((with_reducible show Oper.upon _ _ _ _ _ _); go_simp) | (dsimp only)))
  all_goals (try (go_ret; exact ⟨ret_int (by simp_all [rightE, kidsR, kidW]), by (repeat (first | with_reducible exact Below.refl _ _ | assumption | with_reducible refine below_drewN ?_ _ | with_reducible refine Below.drew ?_ | with_reducible refine Below.setRow ?_ ?_ _ | with_reducible refine Below.alloc ?_ ?_ _ | with_reducible refine Below.setCell ?_ ?_ _ | with_reducible exact Nat.le_refl _ | (focus (simp; done)) | (focus (simp; omega)) | omega))⟩))
  have hop : 0 ≤ op ∧ op ≤ 24 := by omega
  have hR := Lib.hid (show kidsR op k0 k1 k2 ls = some (wAt ls k0, wAt ls k1, 0) by simp_all [kidsR, kidW] <;> (repeat rw [if_neg (by omega)]))
  refine wp_abs (fun u => Below w.heap.size w u ∧ RowAt 6 Nd.cells u w.heap.size 0 [⟨op, wd, n, k0, k1, k2⟩] ∧ u.cell? ⟨w.heap.size + 1, 0, none⟩ = some (.int .i64 (wAt ls k0)) ∧ u.cell? ⟨w.heap.size + 1, 1, none⟩ = some (.int .i64 (wAt ls k1)) ∧ u.cell? ⟨w.heap.size + 1, 2, none⟩ = some (.int .i64 (0)))
    ⟨by (repeat (first | with_reducible exact Below.refl _ _ | assumption | with_reducible refine below_drewN ?_ _ | with_reducible refine Below.drew ?_ | with_reducible refine Below.setRow ?_ ?_ _ | with_reducible refine Below.alloc ?_ ?_ _ | with_reducible refine Below.setCell ?_ ?_ _ | with_reducible exact Nat.le_refl _ | (focus (simp; done)) | (focus (simp; omega)) | omega)), (box_row w ⟨op, wd, n, k0, k1, k2⟩ 49).below (by (repeat (first | with_reducible exact Below.refl _ _ | assumption | with_reducible refine below_drewN ?_ _ | with_reducible refine Below.drew ?_ | with_reducible refine Below.setRow ?_ ?_ _ | with_reducible refine Below.alloc ?_ ?_ _ | with_reducible refine Below.setCell ?_ ?_ _ | with_reducible exact Nat.le_refl _ | (focus (simp; done)) | (focus (simp; omega)) | omega))), by simp [go_sem], by simp [go_sem], by simp [go_sem]⟩ ?_
  rintro w9 ⟨HB, HX, c0, c1, c2⟩
  have hva : 0 ≤ wAt ls k0 := hwA.out _
  have hvb : 0 ≤ wAt ls k1 := hwA.out _
  have Herr := Lib.hid (right_err (d := ⟨op, wd, n, k0, k1, k2⟩) hop.1 hop.2 hR.out hva hvb Hn.out.1 Hn.out.2)
  obtain ⟨cW, cN⟩ := cell_x _ _ _ HX
  dsimp only at cW cN
  by_cases t1 : (widI op wd (wAt ls k0) (wAt ls k1) (0) != wd) = true
  · (refine wp_region_cls (by kernel_rfl) (by kernel_rfl) ?_; (repeat (first | go_big_quiet_skip | (go_big_quiet_want; first | (refine quiet_ldNd HX 0 _ rfl _ rfl rfl ?_; simp only [Act.put, qz4, qz5, qz6]; (try dsimp only); go_big_quiet_on) | (refine quiet_ld3 c0 _ rfl rfl ?_; simp only [Act.put, qz4, qz5, qz6]; go_big_quiet_on) | (refine quiet_ld3 c1 _ rfl rfl ?_; simp only [Act.put, qz4, qz5, qz6]; go_big_quiet_on) | (refine quiet_ld3 c2 _ rfl rfl ?_; simp only [Act.put, qz4, qz5, qz6]; go_big_quiet_on) | (refine quiet_ld3 cW _ rfl rfl ?_; simp only [Act.put, qz4, qz5, qz6]; go_big_quiet_on) | (refine quiet_ld46 cN _ rfl rfl ?_; simp only [Act.put, qz4, qz5, qz6]; go_big_quiet_on) | (go_big_quiet_op; first | go_big_quiet_on | (refine Exists.intro _ (And.intro (fun _ _ => rfl) ?_); go_big_quiet_on) | go_big_quiet_call (((intro hC; replace hC : Below _ _ _ := hC); first | (go_at_call 66; (with_reducible refine (width_any _ _ _ _ _ _ _ _ _ _).mono ?_); (rintro e w2 ⟨rfl, hb⟩; exact ⟨rfl, hC.trans (hb.mono hC.size)⟩)) | (go_at_call 67; (with_reducible refine (most_any _ _ _ _ _ _ _).mono ?_); (rintro e w2 ⟨rfl, hb⟩; exact ⟨rfl, hC.trans (hb.mono hC.size)⟩)))))))); refine wpQuiet_nil ?_; intro w8 hb; replace hb : Below _ _ _ := hb; replace HX := HX.below hb; replace HB := HB.trans (hb.mono HB.size); replace cW := cell_keep hb cW; replace cN := cell_keep hb cN; clear hb c0 c1 c2)
    (repeat (first | (with_reducible first | refine xA ?_ | refine xB ?_ | refine xC ?_ | refine xD ?_ | refine xH ?_ | refine xI rfl ?_ | refine xE ?_ | refine xF ?_ | refine xG ?_) | go_values | go_skip | go_guarded | go_step | go_upon | go_back | ((with_reducible show Oper.upon _ _ _ _ _ _); go_simp) | (dsimp only)))
    go_ret
    exact ⟨ret_int (by rw [Herr.out, if_pos (.inl t1)]), HB⟩
  replace t1 : (widI op wd (wAt ls k0) (wAt ls k1) (0) != wd) = false := by simpa using t1
  by_cases t2 : wd < 0
  · (refine wp_region_cls (by kernel_rfl) (by kernel_rfl) ?_; (repeat (first | go_big_quiet_skip | (go_big_quiet_want; first | (refine quiet_ldNd HX 0 _ rfl _ rfl rfl ?_; simp only [Act.put, qz4, qz5, qz6]; (try dsimp only); go_big_quiet_on) | (refine quiet_ld3 c0 _ rfl rfl ?_; simp only [Act.put, qz4, qz5, qz6]; go_big_quiet_on) | (refine quiet_ld3 c1 _ rfl rfl ?_; simp only [Act.put, qz4, qz5, qz6]; go_big_quiet_on) | (refine quiet_ld3 c2 _ rfl rfl ?_; simp only [Act.put, qz4, qz5, qz6]; go_big_quiet_on) | (refine quiet_ld3 cW _ rfl rfl ?_; simp only [Act.put, qz4, qz5, qz6]; go_big_quiet_on) | (refine quiet_ld46 cN _ rfl rfl ?_; simp only [Act.put, qz4, qz5, qz6]; go_big_quiet_on) | (go_big_quiet_op; first | go_big_quiet_on | (refine Exists.intro _ (And.intro (fun _ _ => rfl) ?_); go_big_quiet_on) | go_big_quiet_call (((intro hC; replace hC : Below _ _ _ := hC); first | (go_at_call 66; (with_reducible refine (width_any _ _ _ _ _ _ _ _ _ _).mono ?_); (rintro e w2 ⟨rfl, hb⟩; exact ⟨rfl, hC.trans (hb.mono hC.size)⟩)) | (go_at_call 67; (with_reducible refine (most_any _ _ _ _ _ _ _).mono ?_); (rintro e w2 ⟨rfl, hb⟩; exact ⟨rfl, hC.trans (hb.mono hC.size)⟩)))))))); refine wpQuiet_nil ?_; intro w8 hb; replace hb : Below _ _ _ := hb; replace HX := HX.below hb; replace HB := HB.trans (hb.mono HB.size); replace cW := cell_keep hb cW; replace cN := cell_keep hb cN; clear hb c0 c1 c2)
    (repeat (first | (with_reducible first | refine xA ?_ | refine xB ?_ | refine xC ?_ | refine xD ?_ | refine xH ?_ | refine xI rfl ?_ | refine xE ?_ | refine xF ?_ | refine xG ?_) | go_values | go_skip | go_guarded | go_step | go_upon | go_back | ((with_reducible show Oper.upon _ _ _ _ _ _); go_simp) | (dsimp only)))
    go_ret
    exact ⟨ret_int (by rw [Herr.out, if_pos (.inr t2)]), HB⟩
  by_cases t3 : mostI op wd < n
  · (refine wp_region_cls (by kernel_rfl) (by kernel_rfl) ?_; (repeat (first | go_big_quiet_skip | (go_big_quiet_want; first | (refine quiet_ldNd HX 0 _ rfl _ rfl rfl ?_; simp only [Act.put, qz4, qz5, qz6]; (try dsimp only); go_big_quiet_on) | (refine quiet_ld3 c0 _ rfl rfl ?_; simp only [Act.put, qz4, qz5, qz6]; go_big_quiet_on) | (refine quiet_ld3 c1 _ rfl rfl ?_; simp only [Act.put, qz4, qz5, qz6]; go_big_quiet_on) | (refine quiet_ld3 c2 _ rfl rfl ?_; simp only [Act.put, qz4, qz5, qz6]; go_big_quiet_on) | (refine quiet_ld3 cW _ rfl rfl ?_; simp only [Act.put, qz4, qz5, qz6]; go_big_quiet_on) | (refine quiet_ld46 cN _ rfl rfl ?_; simp only [Act.put, qz4, qz5, qz6]; go_big_quiet_on) | (go_big_quiet_op; first | go_big_quiet_on | (refine Exists.intro _ (And.intro (fun _ _ => rfl) ?_); go_big_quiet_on) | go_big_quiet_call (((intro hC; replace hC : Below _ _ _ := hC); first | (go_at_call 66; (with_reducible refine (width_any _ _ _ _ _ _ _ _ _ _).mono ?_); (rintro e w2 ⟨rfl, hb⟩; exact ⟨rfl, hC.trans (hb.mono hC.size)⟩)) | (go_at_call 67; (with_reducible refine (most_any _ _ _ _ _ _ _).mono ?_); (rintro e w2 ⟨rfl, hb⟩; exact ⟨rfl, hC.trans (hb.mono hC.size)⟩)))))))); refine wpQuiet_nil ?_; intro w8 hb; replace hb : Below _ _ _ := hb; replace HX := HX.below hb; replace HB := HB.trans (hb.mono HB.size); replace cW := cell_keep hb cW; replace cN := cell_keep hb cN; clear hb c0 c1 c2)
    (repeat (first | (with_reducible first | refine xA ?_ | refine xB ?_ | refine xC ?_ | refine xD ?_ | refine xH ?_ | refine xI rfl ?_ | refine xE ?_ | refine xF ?_ | refine xG ?_) | go_values | go_skip | go_guarded | go_step | go_upon | go_back | ((with_reducible show Oper.upon _ _ _ _ _ _); go_simp) | (dsimp only)))
    (refine wp_region_cls (by kernel_rfl) (by kernel_rfl) ?_; (repeat (first | go_big_quiet_skip | (go_big_quiet_want; first | (refine quiet_ldNd HX 0 _ rfl _ rfl rfl ?_; simp only [Act.put, qz4, qz5, qz6]; (try dsimp only); go_big_quiet_on) | (refine quiet_ld3 c0 _ rfl rfl ?_; simp only [Act.put, qz4, qz5, qz6]; go_big_quiet_on) | (refine quiet_ld3 c1 _ rfl rfl ?_; simp only [Act.put, qz4, qz5, qz6]; go_big_quiet_on) | (refine quiet_ld3 c2 _ rfl rfl ?_; simp only [Act.put, qz4, qz5, qz6]; go_big_quiet_on) | (refine quiet_ld3 cW _ rfl rfl ?_; simp only [Act.put, qz4, qz5, qz6]; go_big_quiet_on) | (refine quiet_ld46 cN _ rfl rfl ?_; simp only [Act.put, qz4, qz5, qz6]; go_big_quiet_on) | (go_big_quiet_op; first | go_big_quiet_on | (refine Exists.intro _ (And.intro (fun _ _ => rfl) ?_); go_big_quiet_on) | go_big_quiet_call (((intro hC; replace hC : Below _ _ _ := hC); first | (go_at_call 66; (with_reducible refine (width_any _ _ _ _ _ _ _ _ _ _).mono ?_); (rintro e w2 ⟨rfl, hb⟩; exact ⟨rfl, hC.trans (hb.mono hC.size)⟩)) | (go_at_call 67; (with_reducible refine (most_any _ _ _ _ _ _ _).mono ?_); (rintro e w2 ⟨rfl, hb⟩; exact ⟨rfl, hC.trans (hb.mono hC.size)⟩)))))))); refine wpQuiet_nil ?_; intro w7 hb; replace hb : Below _ _ _ := hb; replace HB := HB.trans (hb.mono HB.size); clear hb)
    (repeat (first | (with_reducible first | refine xA ?_ | refine xB ?_ | refine xC ?_ | refine xD ?_ | refine xH ?_ | refine xI rfl ?_ | refine xE ?_ | refine xF ?_ | refine xG ?_) | go_values | go_skip | go_guarded | go_step | go_upon | go_back | ((with_reducible show Oper.upon _ _ _ _ _ _); go_simp) | (dsimp only)))
    go_ret
    exact ⟨ret_int (by rw [Herr.out, if_neg (by simp [t1, t2]), if_pos t3]), HB⟩
  · (refine wp_region_cls (by kernel_rfl) (by kernel_rfl) ?_; (repeat (first | go_big_quiet_skip | (go_big_quiet_want; first | (refine quiet_ldNd HX 0 _ rfl _ rfl rfl ?_; simp only [Act.put, qz4, qz5, qz6]; (try dsimp only); go_big_quiet_on) | (refine quiet_ld3 c0 _ rfl rfl ?_; simp only [Act.put, qz4, qz5, qz6]; go_big_quiet_on) | (refine quiet_ld3 c1 _ rfl rfl ?_; simp only [Act.put, qz4, qz5, qz6]; go_big_quiet_on) | (refine quiet_ld3 c2 _ rfl rfl ?_; simp only [Act.put, qz4, qz5, qz6]; go_big_quiet_on) | (refine quiet_ld3 cW _ rfl rfl ?_; simp only [Act.put, qz4, qz5, qz6]; go_big_quiet_on) | (refine quiet_ld46 cN _ rfl rfl ?_; simp only [Act.put, qz4, qz5, qz6]; go_big_quiet_on) | (go_big_quiet_op; first | go_big_quiet_on | (refine Exists.intro _ (And.intro (fun _ _ => rfl) ?_); go_big_quiet_on) | go_big_quiet_call (((intro hC; replace hC : Below _ _ _ := hC); first | (go_at_call 66; (with_reducible refine (width_any _ _ _ _ _ _ _ _ _ _).mono ?_); (rintro e w2 ⟨rfl, hb⟩; exact ⟨rfl, hC.trans (hb.mono hC.size)⟩)) | (go_at_call 67; (with_reducible refine (most_any _ _ _ _ _ _ _).mono ?_); (rintro e w2 ⟨rfl, hb⟩; exact ⟨rfl, hC.trans (hb.mono hC.size)⟩)))))))); refine wpQuiet_nil ?_; intro w8 hb; replace hb : Below _ _ _ := hb; replace HX := HX.below hb; replace HB := HB.trans (hb.mono HB.size); replace cW := cell_keep hb cW; replace cN := cell_keep hb cN; clear hb c0 c1 c2)
    (repeat (first | (with_reducible first | refine xA ?_ | refine xB ?_ | refine xC ?_ | refine xD ?_ | refine xH ?_ | refine xI rfl ?_ | refine xE ?_ | refine xF ?_ | refine xG ?_) | go_values | go_skip | go_guarded | go_step | go_upon | go_back | ((with_reducible show Oper.upon _ _ _ _ _ _); go_simp) | (dsimp only)))
    (refine wp_region_cls (by kernel_rfl) (by kernel_rfl) ?_; (repeat (first | go_big_quiet_skip | (go_big_quiet_want; first | (refine quiet_ldNd HX 0 _ rfl _ rfl rfl ?_; simp only [Act.put, qz4, qz5, qz6]; (try dsimp only); go_big_quiet_on) | (refine quiet_ld3 c0 _ rfl rfl ?_; simp only [Act.put, qz4, qz5, qz6]; go_big_quiet_on) | (refine quiet_ld3 c1 _ rfl rfl ?_; simp only [Act.put, qz4, qz5, qz6]; go_big_quiet_on) | (refine quiet_ld3 c2 _ rfl rfl ?_; simp only [Act.put, qz4, qz5, qz6]; go_big_quiet_on) | (refine quiet_ld3 cW _ rfl rfl ?_; simp only [Act.put, qz4, qz5, qz6]; go_big_quiet_on) | (refine quiet_ld46 cN _ rfl rfl ?_; simp only [Act.put, qz4, qz5, qz6]; go_big_quiet_on) | (go_big_quiet_op; first | go_big_quiet_on | (refine Exists.intro _ (And.intro (fun _ _ => rfl) ?_); go_big_quiet_on) | go_big_quiet_call (((intro hC; replace hC : Below _ _ _ := hC); first | (go_at_call 66; (with_reducible refine (width_any _ _ _ _ _ _ _ _ _ _).mono ?_); (rintro e w2 ⟨rfl, hb⟩; exact ⟨rfl, hC.trans (hb.mono hC.size)⟩)) | (go_at_call 67; (with_reducible refine (most_any _ _ _ _ _ _ _).mono ?_); (rintro e w2 ⟨rfl, hb⟩; exact ⟨rfl, hC.trans (hb.mono hC.size)⟩)))))))); refine wpQuiet_nil ?_; intro w7 hb; replace hb : Below _ _ _ := hb; replace HB := HB.trans (hb.mono HB.size); clear hb)
    (repeat (first | (with_reducible first | refine xA ?_ | refine xB ?_ | refine xC ?_ | refine xD ?_ | refine xH ?_ | refine xI rfl ?_ | refine xE ?_ | refine xF ?_ | refine xG ?_) | go_values | go_skip | go_guarded | go_step | go_upon | go_back | ((with_reducible show Oper.upon _ _ _ _ _ _); go_simp) | (dsimp only)))
    go_ret
    exact ⟨ret_int (by rw [Herr.out, if_neg (by simp [t1, t2]), if_neg t3]), HB⟩
set_option maxHeartbeats 2000000 in
theorem rright_3 (op wd n k0 k1 k2 : Int) (b off cap : Nat) (ls : List Nd) (w : World) (hk : kidsI op = 3) (HR : RowAt 6 Nd.cells w b off ls) (hn : 0 ≤ n) (hn' : n < 18446744073709551616) (hw : ∀ d ∈ ls, 0 ≤ d.w) :
    Calls Tryz.prog 51 #[.agg #[.int .i64 op, .int .i64 wd, .int .u64 n, .int .i64 k0, .int .i64 k1, .int .i64 k2], .slice (some ⟨b, off, none⟩) ls.length cap] w fun e w' => e = .returned (.int .i64 (rightE ⟨op, wd, n, k0, k1, k2⟩ ls)) ∧ Below w.heap.size w w' := by
  have hwA := Lib.hid (wAt_nn hw)
  clear hw
  have Hn := Lib.hid (And.intro hn hn')
  clear hn hn'
  go_enter Tryz.func51, Tryz.ntmps51
  (repeat' (first | (with_reducible first | refine xA ?_ | refine xB ?_ | refine xC ?_ | refine xD ?_ | refine xH ?_ | refine xI rfl ?_ | refine xE ?_ | refine xF ?_ | refine xG ?_) | go_skip | go_guarded | ((with_reducible refine wl_id ?_); refine wl_ldW HR (by (repeat (first | with_reducible exact Below.refl _ _ | assumption | with_reducible refine below_drewN ?_ _ | with_reducible refine Below.drew ?_ | with_reducible refine Below.setRow ?_ ?_ _ | with_reducible refine Below.alloc ?_ ?_ _ | with_reducible refine Below.setCell ?_ ?_ _ | with_reducible exact Nat.le_refl _ | (focus (simp; done)) | (focus (simp; omega)) | omega))) _ (by omega) (by omega) rfl _ rfl rfl ?_; simp only [Act.put, qz4, qz5, qz6]) | (go_at_call 41; (with_reducible refine (rkids_anyX _ 3 _ hk (by omega)).mono ?_); rintro e w1 ⟨rfl, rfl⟩) | (with_reducible refine wp_loop_rounds 4 ?_) | rw [rounds_succ] | go_values | go_skip | go_guarded | go_step | go_upon | go_back | ((with_reducible show Oper.upon _ _ _ _ _ _); go_simp) | (dsimp only)))
  all_goals (try (go_ret; exact ⟨ret_int (by simp_all [rightE, kidsR, kidW]), by (repeat (first | with_reducible exact Below.refl _ _ | assumption | with_reducible refine below_drewN ?_ _ | with_reducible refine Below.drew ?_ | with_reducible refine Below.setRow ?_ ?_ _ | with_reducible refine Below.alloc ?_ ?_ _ | with_reducible refine Below.setCell ?_ ?_ _ | with_reducible exact Nat.le_refl _ | (focus (simp; done)) | (focus (simp; omega)) | omega))⟩))
  have hop : 0 ≤ op ∧ op ≤ 24 := by omega
  have hR := Lib.hid (show kidsR op k0 k1 k2 ls = some (wAt ls k0, wAt ls k1, wAt ls k2) by simp_all [kidsR, kidW] <;> (repeat rw [if_neg (by omega)]))
  refine wp_abs (fun u => Below w.heap.size w u ∧ RowAt 6 Nd.cells u w.heap.size 0 [⟨op, wd, n, k0, k1, k2⟩] ∧ u.cell? ⟨w.heap.size + 1, 0, none⟩ = some (.int .i64 (wAt ls k0)) ∧ u.cell? ⟨w.heap.size + 1, 1, none⟩ = some (.int .i64 (wAt ls k1)) ∧ u.cell? ⟨w.heap.size + 1, 2, none⟩ = some (.int .i64 (wAt ls k2)))
    ⟨by (repeat (first | with_reducible exact Below.refl _ _ | assumption | with_reducible refine below_drewN ?_ _ | with_reducible refine Below.drew ?_ | with_reducible refine Below.setRow ?_ ?_ _ | with_reducible refine Below.alloc ?_ ?_ _ | with_reducible refine Below.setCell ?_ ?_ _ | with_reducible exact Nat.le_refl _ | (focus (simp; done)) | (focus (simp; omega)) | omega)), (box_row w ⟨op, wd, n, k0, k1, k2⟩ 49).below (by (repeat (first | with_reducible exact Below.refl _ _ | assumption | with_reducible refine below_drewN ?_ _ | with_reducible refine Below.drew ?_ | with_reducible refine Below.setRow ?_ ?_ _ | with_reducible refine Below.alloc ?_ ?_ _ | with_reducible refine Below.setCell ?_ ?_ _ | with_reducible exact Nat.le_refl _ | (focus (simp; done)) | (focus (simp; omega)) | omega))), by simp [go_sem], by simp [go_sem], by simp [go_sem]⟩ ?_
  rintro w9 ⟨HB, HX, c0, c1, c2⟩
  have hva : 0 ≤ wAt ls k0 := hwA.out _
  have hvb : 0 ≤ wAt ls k1 := hwA.out _
  have Herr := Lib.hid (right_err (d := ⟨op, wd, n, k0, k1, k2⟩) hop.1 hop.2 hR.out hva hvb Hn.out.1 Hn.out.2)
  obtain ⟨cW, cN⟩ := cell_x _ _ _ HX
  dsimp only at cW cN
  by_cases t1 : (widI op wd (wAt ls k0) (wAt ls k1) (wAt ls k2) != wd) = true
  · (refine wp_region_cls (by kernel_rfl) (by kernel_rfl) ?_; (repeat (first | go_big_quiet_skip | (go_big_quiet_want; first | (refine quiet_ldNd HX 0 _ rfl _ rfl rfl ?_; simp only [Act.put, qz4, qz5, qz6]; (try dsimp only); go_big_quiet_on) | (refine quiet_ld3 c0 _ rfl rfl ?_; simp only [Act.put, qz4, qz5, qz6]; go_big_quiet_on) | (refine quiet_ld3 c1 _ rfl rfl ?_; simp only [Act.put, qz4, qz5, qz6]; go_big_quiet_on) | (refine quiet_ld3 c2 _ rfl rfl ?_; simp only [Act.put, qz4, qz5, qz6]; go_big_quiet_on) | (refine quiet_ld3 cW _ rfl rfl ?_; simp only [Act.put, qz4, qz5, qz6]; go_big_quiet_on) | (refine quiet_ld46 cN _ rfl rfl ?_; simp only [Act.put, qz4, qz5, qz6]; go_big_quiet_on) | (go_big_quiet_op; first | go_big_quiet_on | (refine Exists.intro _ (And.intro (fun _ _ => rfl) ?_); go_big_quiet_on) | go_big_quiet_call (((intro hC; replace hC : Below _ _ _ := hC); first | (go_at_call 66; (with_reducible refine (width_any _ _ _ _ _ _ _ _ _ _).mono ?_); (rintro e w2 ⟨rfl, hb⟩; exact ⟨rfl, hC.trans (hb.mono hC.size)⟩)) | (go_at_call 67; (with_reducible refine (most_any _ _ _ _ _ _ _).mono ?_); (rintro e w2 ⟨rfl, hb⟩; exact ⟨rfl, hC.trans (hb.mono hC.size)⟩)))))))); refine wpQuiet_nil ?_; intro w8 hb; replace hb : Below _ _ _ := hb; replace HX := HX.below hb; replace HB := HB.trans (hb.mono HB.size); replace cW := cell_keep hb cW; replace cN := cell_keep hb cN; clear hb c0 c1 c2)
    (repeat (first | (with_reducible first | refine xA ?_ | refine xB ?_ | refine xC ?_ | refine xD ?_ | refine xH ?_ | refine xI rfl ?_ | refine xE ?_ | refine xF ?_ | refine xG ?_) | go_values | go_skip | go_guarded | go_step | go_upon | go_back | ((with_reducible show Oper.upon _ _ _ _ _ _); go_simp) | (dsimp only)))
    go_ret
    exact ⟨ret_int (by rw [Herr.out, if_pos (.inl t1)]), HB⟩
  replace t1 : (widI op wd (wAt ls k0) (wAt ls k1) (wAt ls k2) != wd) = false := by simpa using t1
  by_cases t2 : wd < 0
  · (refine wp_region_cls (by kernel_rfl) (by kernel_rfl) ?_; (repeat (first | go_big_quiet_skip | (go_big_quiet_want; first | (refine quiet_ldNd HX 0 _ rfl _ rfl rfl ?_; simp only [Act.put, qz4, qz5, qz6]; (try dsimp only); go_big_quiet_on) | (refine quiet_ld3 c0 _ rfl rfl ?_; simp only [Act.put, qz4, qz5, qz6]; go_big_quiet_on) | (refine quiet_ld3 c1 _ rfl rfl ?_; simp only [Act.put, qz4, qz5, qz6]; go_big_quiet_on) | (refine quiet_ld3 c2 _ rfl rfl ?_; simp only [Act.put, qz4, qz5, qz6]; go_big_quiet_on) | (refine quiet_ld3 cW _ rfl rfl ?_; simp only [Act.put, qz4, qz5, qz6]; go_big_quiet_on) | (refine quiet_ld46 cN _ rfl rfl ?_; simp only [Act.put, qz4, qz5, qz6]; go_big_quiet_on) | (go_big_quiet_op; first | go_big_quiet_on | (refine Exists.intro _ (And.intro (fun _ _ => rfl) ?_); go_big_quiet_on) | go_big_quiet_call (((intro hC; replace hC : Below _ _ _ := hC); first | (go_at_call 66; (with_reducible refine (width_any _ _ _ _ _ _ _ _ _ _).mono ?_); (rintro e w2 ⟨rfl, hb⟩; exact ⟨rfl, hC.trans (hb.mono hC.size)⟩)) | (go_at_call 67; (with_reducible refine (most_any _ _ _ _ _ _ _).mono ?_); (rintro e w2 ⟨rfl, hb⟩; exact ⟨rfl, hC.trans (hb.mono hC.size)⟩)))))))); refine wpQuiet_nil ?_; intro w8 hb; replace hb : Below _ _ _ := hb; replace HX := HX.below hb; replace HB := HB.trans (hb.mono HB.size); replace cW := cell_keep hb cW; replace cN := cell_keep hb cN; clear hb c0 c1 c2)
    (repeat (first | (with_reducible first | refine xA ?_ | refine xB ?_ | refine xC ?_ | refine xD ?_ | refine xH ?_ | refine xI rfl ?_ | refine xE ?_ | refine xF ?_ | refine xG ?_) | go_values | go_skip | go_guarded | go_step | go_upon | go_back | ((with_reducible show Oper.upon _ _ _ _ _ _); go_simp) | (dsimp only)))
    go_ret
    exact ⟨ret_int (by rw [Herr.out, if_pos (.inr t2)]), HB⟩
  by_cases t3 : mostI op wd < n
  · (refine wp_region_cls (by kernel_rfl) (by kernel_rfl) ?_; (repeat (first | go_big_quiet_skip | (go_big_quiet_want; first | (refine quiet_ldNd HX 0 _ rfl _ rfl rfl ?_; simp only [Act.put, qz4, qz5, qz6]; (try dsimp only); go_big_quiet_on) | (refine quiet_ld3 c0 _ rfl rfl ?_; simp only [Act.put, qz4, qz5, qz6]; go_big_quiet_on) | (refine quiet_ld3 c1 _ rfl rfl ?_; simp only [Act.put, qz4, qz5, qz6]; go_big_quiet_on) | (refine quiet_ld3 c2 _ rfl rfl ?_; simp only [Act.put, qz4, qz5, qz6]; go_big_quiet_on) | (refine quiet_ld3 cW _ rfl rfl ?_; simp only [Act.put, qz4, qz5, qz6]; go_big_quiet_on) | (refine quiet_ld46 cN _ rfl rfl ?_; simp only [Act.put, qz4, qz5, qz6]; go_big_quiet_on) | (go_big_quiet_op; first | go_big_quiet_on | (refine Exists.intro _ (And.intro (fun _ _ => rfl) ?_); go_big_quiet_on) | go_big_quiet_call (((intro hC; replace hC : Below _ _ _ := hC); first | (go_at_call 66; (with_reducible refine (width_any _ _ _ _ _ _ _ _ _ _).mono ?_); (rintro e w2 ⟨rfl, hb⟩; exact ⟨rfl, hC.trans (hb.mono hC.size)⟩)) | (go_at_call 67; (with_reducible refine (most_any _ _ _ _ _ _ _).mono ?_); (rintro e w2 ⟨rfl, hb⟩; exact ⟨rfl, hC.trans (hb.mono hC.size)⟩)))))))); refine wpQuiet_nil ?_; intro w8 hb; replace hb : Below _ _ _ := hb; replace HX := HX.below hb; replace HB := HB.trans (hb.mono HB.size); replace cW := cell_keep hb cW; replace cN := cell_keep hb cN; clear hb c0 c1 c2)
    (repeat (first | (with_reducible first | refine xA ?_ | refine xB ?_ | refine xC ?_ | refine xD ?_ | refine xH ?_ | refine xI rfl ?_ | refine xE ?_ | refine xF ?_ | refine xG ?_) | go_values | go_skip | go_guarded | go_step | go_upon | go_back | ((with_reducible show Oper.upon _ _ _ _ _ _); go_simp) | (dsimp only)))
    (refine wp_region_cls (by kernel_rfl) (by kernel_rfl) ?_; (repeat (first | go_big_quiet_skip | (go_big_quiet_want; first | (refine quiet_ldNd HX 0 _ rfl _ rfl rfl ?_; simp only [Act.put, qz4, qz5, qz6]; (try dsimp only); go_big_quiet_on) | (refine quiet_ld3 c0 _ rfl rfl ?_; simp only [Act.put, qz4, qz5, qz6]; go_big_quiet_on) | (refine quiet_ld3 c1 _ rfl rfl ?_; simp only [Act.put, qz4, qz5, qz6]; go_big_quiet_on) | (refine quiet_ld3 c2 _ rfl rfl ?_; simp only [Act.put, qz4, qz5, qz6]; go_big_quiet_on) | (refine quiet_ld3 cW _ rfl rfl ?_; simp only [Act.put, qz4, qz5, qz6]; go_big_quiet_on) | (refine quiet_ld46 cN _ rfl rfl ?_; simp only [Act.put, qz4, qz5, qz6]; go_big_quiet_on) | (go_big_quiet_op; first | go_big_quiet_on | (refine Exists.intro _ (And.intro (fun _ _ => rfl) ?_); go_big_quiet_on) | go_big_quiet_call (((intro hC; replace hC : Below _ _ _ := hC); first | (go_at_call 66; (with_reducible refine (width_any _ _ _ _ _ _ _ _ _ _).mono ?_); (rintro e w2 ⟨rfl, hb⟩; exact ⟨rfl, hC.trans (hb.mono hC.size)⟩)) | (go_at_call 67; (with_reducible refine (most_any _ _ _ _ _ _ _).mono ?_); (rintro e w2 ⟨rfl, hb⟩; exact ⟨rfl, hC.trans (hb.mono hC.size)⟩)))))))); refine wpQuiet_nil ?_; intro w7 hb; replace hb : Below _ _ _ := hb; replace HB := HB.trans (hb.mono HB.size); clear hb)
    (repeat (first | (with_reducible first | refine xA ?_ | refine xB ?_ | refine xC ?_ | refine xD ?_ | refine xH ?_ | refine xI rfl ?_ | refine xE ?_ | refine xF ?_ | refine xG ?_) | go_values | go_skip | go_guarded | go_step | go_upon | go_back | ((with_reducible show Oper.upon _ _ _ _ _ _); go_simp) | (dsimp only)))
    go_ret
    exact ⟨ret_int (by rw [Herr.out, if_neg (by simp [t1, t2]), if_pos t3]), HB⟩
  · (refine wp_region_cls (by kernel_rfl) (by kernel_rfl) ?_; (repeat (first | go_big_quiet_skip | (go_big_quiet_want; first | (refine quiet_ldNd HX 0 _ rfl _ rfl rfl ?_; simp only [Act.put, qz4, qz5, qz6]; (try dsimp only); go_big_quiet_on) | (refine quiet_ld3 c0 _ rfl rfl ?_; simp only [Act.put, qz4, qz5, qz6]; go_big_quiet_on) | (refine quiet_ld3 c1 _ rfl rfl ?_; simp only [Act.put, qz4, qz5, qz6]; go_big_quiet_on) | (refine quiet_ld3 c2 _ rfl rfl ?_; simp only [Act.put, qz4, qz5, qz6]; go_big_quiet_on) | (refine quiet_ld3 cW _ rfl rfl ?_; simp only [Act.put, qz4, qz5, qz6]; go_big_quiet_on) | (refine quiet_ld46 cN _ rfl rfl ?_; simp only [Act.put, qz4, qz5, qz6]; go_big_quiet_on) | (go_big_quiet_op; first | go_big_quiet_on | (refine Exists.intro _ (And.intro (fun _ _ => rfl) ?_); go_big_quiet_on) | go_big_quiet_call (((intro hC; replace hC : Below _ _ _ := hC); first | (go_at_call 66; (with_reducible refine (width_any _ _ _ _ _ _ _ _ _ _).mono ?_); (rintro e w2 ⟨rfl, hb⟩; exact ⟨rfl, hC.trans (hb.mono hC.size)⟩)) | (go_at_call 67; (with_reducible refine (most_any _ _ _ _ _ _ _).mono ?_); (rintro e w2 ⟨rfl, hb⟩; exact ⟨rfl, hC.trans (hb.mono hC.size)⟩)))))))); refine wpQuiet_nil ?_; intro w8 hb; replace hb : Below _ _ _ := hb; replace HX := HX.below hb; replace HB := HB.trans (hb.mono HB.size); replace cW := cell_keep hb cW; replace cN := cell_keep hb cN; clear hb c0 c1 c2)
    (repeat (first | (with_reducible first | refine xA ?_ | refine xB ?_ | refine xC ?_ | refine xD ?_ | refine xH ?_ | refine xI rfl ?_ | refine xE ?_ | refine xF ?_ | refine xG ?_) | go_values | go_skip | go_guarded | go_step | go_upon | go_back | ((with_reducible show Oper.upon _ _ _ _ _ _); go_simp) | (dsimp only)))
    (refine wp_region_cls (by kernel_rfl) (by kernel_rfl) ?_; (repeat (first | go_big_quiet_skip | (go_big_quiet_want; first | (refine quiet_ldNd HX 0 _ rfl _ rfl rfl ?_; simp only [Act.put, qz4, qz5, qz6]; (try dsimp only); go_big_quiet_on) | (refine quiet_ld3 c0 _ rfl rfl ?_; simp only [Act.put, qz4, qz5, qz6]; go_big_quiet_on) | (refine quiet_ld3 c1 _ rfl rfl ?_; simp only [Act.put, qz4, qz5, qz6]; go_big_quiet_on) | (refine quiet_ld3 c2 _ rfl rfl ?_; simp only [Act.put, qz4, qz5, qz6]; go_big_quiet_on) | (refine quiet_ld3 cW _ rfl rfl ?_; simp only [Act.put, qz4, qz5, qz6]; go_big_quiet_on) | (refine quiet_ld46 cN _ rfl rfl ?_; simp only [Act.put, qz4, qz5, qz6]; go_big_quiet_on) | (go_big_quiet_op; first | go_big_quiet_on | (refine Exists.intro _ (And.intro (fun _ _ => rfl) ?_); go_big_quiet_on) | go_big_quiet_call (((intro hC; replace hC : Below _ _ _ := hC); first | (go_at_call 66; (with_reducible refine (width_any _ _ _ _ _ _ _ _ _ _).mono ?_); (rintro e w2 ⟨rfl, hb⟩; exact ⟨rfl, hC.trans (hb.mono hC.size)⟩)) | (go_at_call 67; (with_reducible refine (most_any _ _ _ _ _ _ _).mono ?_); (rintro e w2 ⟨rfl, hb⟩; exact ⟨rfl, hC.trans (hb.mono hC.size)⟩)))))))); refine wpQuiet_nil ?_; intro w7 hb; replace hb : Below _ _ _ := hb; replace HB := HB.trans (hb.mono HB.size); clear hb)
    (repeat (first | (with_reducible first | refine xA ?_ | refine xB ?_ | refine xC ?_ | refine xD ?_ | refine xH ?_ | refine xI rfl ?_ | refine xE ?_ | refine xF ?_ | refine xG ?_) | go_values | go_skip | go_guarded | go_step | go_upon | go_back | ((with_reducible show Oper.upon _ _ _ _ _ _); go_simp) | (dsimp only)))
    go_ret
    exact ⟨ret_int (by rw [Herr.out, if_neg (by simp [t1, t2]), if_neg t3]), HB⟩
set_option maxHeartbeats 2000000 in
theorem rrightn_0 (op wd n k0 k1 k2 : Int) (ao : Option Addr) (cap : Nat) (w : World) (hk : kidsI op = 0) (hn : 0 ≤ n) (hn' : n < 18446744073709551616) (hw : ∀ d ∈ ([] : List Nd), 0 ≤ d.w) :
    Calls Tryz.prog 51 #[.agg #[.int .i64 op, .int .i64 wd, .int .u64 n, .int .i64 k0, .int .i64 k1, .int .i64 k2], .slice ao 0 cap] w fun e w' => e = .returned (.int .i64 (rightE ⟨op, wd, n, k0, k1, k2⟩ [])) ∧ Below w.heap.size w w' := by
  have hwA := Lib.hid (wAt_nn hw)
  clear hw
  have Hn := Lib.hid (And.intro hn hn')
  clear hn hn'
  go_enter Tryz.func51, Tryz.ntmps51
  (repeat' (first | (with_reducible first | refine xA ?_ | refine xB ?_ | refine xC ?_ | refine xD ?_ | refine xH ?_ | refine xI rfl ?_ | refine xE ?_ | refine xF ?_ | refine xG ?_) | go_skip | go_guarded | (go_at_call 41; (with_reducible refine (rkids_anyX _ 0 _ hk (by omega)).mono ?_); rintro e w1 ⟨rfl, rfl⟩) | (with_reducible refine wp_loop_rounds 4 ?_) | rw [rounds_succ] | go_values | go_skip | go_guarded | go_step | go_upon | go_back | ((with_reducible show Oper.upon _ _ _ _ _ _); go_simp) | (dsimp only)))
  all_goals (try (go_ret; exact ⟨ret_int (by simp_all [rightE, kidsR, kidW]), by (repeat (first | with_reducible exact Below.refl _ _ | assumption | with_reducible refine below_drewN ?_ _ | with_reducible refine Below.drew ?_ | with_reducible refine Below.setRow ?_ ?_ _ | with_reducible refine Below.alloc ?_ ?_ _ | with_reducible refine Below.setCell ?_ ?_ _ | with_reducible exact Nat.le_refl _ | (focus (simp; done)) | (focus (simp; omega)) | omega))⟩))
  have hop : 0 ≤ op ∧ op ≤ 24 := by omega
  have hR := Lib.hid (show kidsR op k0 k1 k2 [] = some (0, 0, 0) by simp_all [kidsR, kidW])
  refine wp_abs (fun u => Below w.heap.size w u ∧ RowAt 6 Nd.cells u w.heap.size 0 [⟨op, wd, n, k0, k1, k2⟩] ∧ u.cell? ⟨w.heap.size + 1, 0, none⟩ = some (.int .i64 (0)) ∧ u.cell? ⟨w.heap.size + 1, 1, none⟩ = some (.int .i64 (0)) ∧ u.cell? ⟨w.heap.size + 1, 2, none⟩ = some (.int .i64 (0)))
    ⟨by (repeat (first | with_reducible exact Below.refl _ _ | assumption | with_reducible refine below_drewN ?_ _ | with_reducible refine Below.drew ?_ | with_reducible refine Below.setRow ?_ ?_ _ | with_reducible refine Below.alloc ?_ ?_ _ | with_reducible refine Below.setCell ?_ ?_ _ | with_reducible exact Nat.le_refl _ | (focus (simp; done)) | (focus (simp; omega)) | omega)), (box_row w ⟨op, wd, n, k0, k1, k2⟩ 49).below (by (repeat (first | with_reducible exact Below.refl _ _ | assumption | with_reducible refine below_drewN ?_ _ | with_reducible refine Below.drew ?_ | with_reducible refine Below.setRow ?_ ?_ _ | with_reducible refine Below.alloc ?_ ?_ _ | with_reducible refine Below.setCell ?_ ?_ _ | with_reducible exact Nat.le_refl _ | (focus (simp; done)) | (focus (simp; omega)) | omega))), by simp [go_sem], by simp [go_sem], by simp [go_sem]⟩ ?_
  rintro w9 ⟨HB, HX, c0, c1, c2⟩
  have hva : (0 : Int) ≤ 0 := Int.le_refl 0
  have hvb : (0 : Int) ≤ 0 := Int.le_refl 0
  have Herr := Lib.hid (right_err (d := ⟨op, wd, n, k0, k1, k2⟩) hop.1 hop.2 hR.out hva hvb Hn.out.1 Hn.out.2)
  obtain ⟨cW, cN⟩ := cell_x _ _ _ HX
  dsimp only at cW cN
  by_cases t1 : (widI op wd (0) (0) (0) != wd) = true
  · (refine wp_region_cls (by kernel_rfl) (by kernel_rfl) ?_; (repeat (first | go_big_quiet_skip | (go_big_quiet_want; first | (refine quiet_ldNd HX 0 _ rfl _ rfl rfl ?_; simp only [Act.put, qz4, qz5, qz6]; (try dsimp only); go_big_quiet_on) | (refine quiet_ld3 c0 _ rfl rfl ?_; simp only [Act.put, qz4, qz5, qz6]; go_big_quiet_on) | (refine quiet_ld3 c1 _ rfl rfl ?_; simp only [Act.put, qz4, qz5, qz6]; go_big_quiet_on) | (refine quiet_ld3 c2 _ rfl rfl ?_; simp only [Act.put, qz4, qz5, qz6]; go_big_quiet_on) | (refine quiet_ld3 cW _ rfl rfl ?_; simp only [Act.put, qz4, qz5, qz6]; go_big_quiet_on) | (refine quiet_ld46 cN _ rfl rfl ?_; simp only [Act.put, qz4, qz5, qz6]; go_big_quiet_on) | (go_big_quiet_op; first | go_big_quiet_on | (refine Exists.intro _ (And.intro (fun _ _ => rfl) ?_); go_big_quiet_on) | go_big_quiet_call (((intro hC; replace hC : Below _ _ _ := hC); first | (go_at_call 66; (with_reducible refine (width_any _ _ _ _ _ _ _ _ _ _).mono ?_); (rintro e w2 ⟨rfl, hb⟩; exact ⟨rfl, hC.trans (hb.mono hC.size)⟩)) | (go_at_call 67; (with_reducible refine (most_any _ _ _ _ _ _ _).mono ?_); (rintro e w2 ⟨rfl, hb⟩; exact ⟨rfl, hC.trans (hb.mono hC.size)⟩)))))))); refine wpQuiet_nil ?_; intro w8 hb; replace hb : Below _ _ _ := hb; replace HX := HX.below hb; replace HB := HB.trans (hb.mono HB.size); replace cW := cell_keep hb cW; replace cN := cell_keep hb cN; clear hb c0 c1 c2)
    (repeat (first | (with_reducible first | refine xA ?_ | refine xB ?_ | refine xC ?_ | refine xD ?_ | refine xH ?_ | refine xI rfl ?_ | refine xE ?_ | refine xF ?_ | refine xG ?_) | go_values | go_skip | go_guarded | go_step | go_upon | go_back | ((with_reducible show Oper.upon _ _ _ _ _ _); go_simp) | (dsimp only)))
    go_ret
    exact ⟨ret_int (by rw [Herr.out, if_pos (.inl t1)]), HB⟩
  replace t1 : (widI op wd (0) (0) (0) != wd) = false := by simpa using t1
  by_cases t2 : wd < 0
  · (refine wp_region_cls (by kernel_rfl) (by kernel_rfl) ?_; (repeat (first | go_big_quiet_skip | (go_big_quiet_want; first | (refine quiet_ldNd HX 0 _ rfl _ rfl rfl ?_; simp only [Act.put, qz4, qz5, qz6]; (try dsimp only); go_big_quiet_on) | (refine quiet_ld3 c0 _ rfl rfl ?_; simp only [Act.put, qz4, qz5, qz6]; go_big_quiet_on) | (refine quiet_ld3 c1 _ rfl rfl ?_; simp only [Act.put, qz4, qz5, qz6]; go_big_quiet_on) | (refine quiet_ld3 c2 _ rfl rfl ?_; simp only [Act.put, qz4, qz5, qz6]; go_big_quiet_on) | (refine quiet_ld3 cW _ rfl rfl ?_; simp only [Act.put, qz4, qz5, qz6]; go_big_quiet_on) | (refine quiet_ld46 cN _ rfl rfl ?_; simp only [Act.put, qz4, qz5, qz6]; go_big_quiet_on) | (go_big_quiet_op; first | go_big_quiet_on | (refine Exists.intro _ (And.intro (fun _ _ => rfl) ?_); go_big_quiet_on) | go_big_quiet_call (((intro hC; replace hC : Below _ _ _ := hC); first | (go_at_call 66; (with_reducible refine (width_any _ _ _ _ _ _ _ _ _ _).mono ?_); (rintro e w2 ⟨rfl, hb⟩; exact ⟨rfl, hC.trans (hb.mono hC.size)⟩)) | (go_at_call 67; (with_reducible refine (most_any _ _ _ _ _ _ _).mono ?_); (rintro e w2 ⟨rfl, hb⟩; exact ⟨rfl, hC.trans (hb.mono hC.size)⟩)))))))); refine wpQuiet_nil ?_; intro w8 hb; replace hb : Below _ _ _ := hb; replace HX := HX.below hb; replace HB := HB.trans (hb.mono HB.size); replace cW := cell_keep hb cW; replace cN := cell_keep hb cN; clear hb c0 c1 c2)
    (repeat (first | (with_reducible first | refine xA ?_ | refine xB ?_ | refine xC ?_ | refine xD ?_ | refine xH ?_ | refine xI rfl ?_ | refine xE ?_ | refine xF ?_ | refine xG ?_) | go_values | go_skip | go_guarded | go_step | go_upon | go_back | ((with_reducible show Oper.upon _ _ _ _ _ _); go_simp) | (dsimp only)))
    go_ret
    exact ⟨ret_int (by rw [Herr.out, if_pos (.inr t2)]), HB⟩
  by_cases t3 : mostI op wd < n
  · (refine wp_region_cls (by kernel_rfl) (by kernel_rfl) ?_; (repeat (first | go_big_quiet_skip | (go_big_quiet_want; first | (refine quiet_ldNd HX 0 _ rfl _ rfl rfl ?_; simp only [Act.put, qz4, qz5, qz6]; (try dsimp only); go_big_quiet_on) | (refine quiet_ld3 c0 _ rfl rfl ?_; simp only [Act.put, qz4, qz5, qz6]; go_big_quiet_on) | (refine quiet_ld3 c1 _ rfl rfl ?_; simp only [Act.put, qz4, qz5, qz6]; go_big_quiet_on) | (refine quiet_ld3 c2 _ rfl rfl ?_; simp only [Act.put, qz4, qz5, qz6]; go_big_quiet_on) | (refine quiet_ld3 cW _ rfl rfl ?_; simp only [Act.put, qz4, qz5, qz6]; go_big_quiet_on) | (refine quiet_ld46 cN _ rfl rfl ?_; simp only [Act.put, qz4, qz5, qz6]; go_big_quiet_on) | (go_big_quiet_op; first | go_big_quiet_on | (refine Exists.intro _ (And.intro (fun _ _ => rfl) ?_); go_big_quiet_on) | go_big_quiet_call (((intro hC; replace hC : Below _ _ _ := hC); first | (go_at_call 66; (with_reducible refine (width_any _ _ _ _ _ _ _ _ _ _).mono ?_); (rintro e w2 ⟨rfl, hb⟩; exact ⟨rfl, hC.trans (hb.mono hC.size)⟩)) | (go_at_call 67; (with_reducible refine (most_any _ _ _ _ _ _ _).mono ?_); (rintro e w2 ⟨rfl, hb⟩; exact ⟨rfl, hC.trans (hb.mono hC.size)⟩)))))))); refine wpQuiet_nil ?_; intro w8 hb; replace hb : Below _ _ _ := hb; replace HX := HX.below hb; replace HB := HB.trans (hb.mono HB.size); replace cW := cell_keep hb cW; replace cN := cell_keep hb cN; clear hb c0 c1 c2)
    (repeat (first | (with_reducible first | refine xA ?_ | refine xB ?_ | refine xC ?_ | refine xD ?_ | refine xH ?_ | refine xI rfl ?_ | refine xE ?_ | refine xF ?_ | refine xG ?_) | go_values | go_skip | go_guarded | go_step | go_upon | go_back | ((with_reducible show Oper.upon _ _ _ _ _ _); go_simp) | (dsimp only)))
    (refine wp_region_cls (by kernel_rfl) (by kernel_rfl) ?_; (repeat (first | go_big_quiet_skip | (go_big_quiet_want; first | (refine quiet_ldNd HX 0 _ rfl _ rfl rfl ?_; simp only [Act.put, qz4, qz5, qz6]; (try dsimp only); go_big_quiet_on) | (refine quiet_ld3 c0 _ rfl rfl ?_; simp only [Act.put, qz4, qz5, qz6]; go_big_quiet_on) | (refine quiet_ld3 c1 _ rfl rfl ?_; simp only [Act.put, qz4, qz5, qz6]; go_big_quiet_on) | (refine quiet_ld3 c2 _ rfl rfl ?_; simp only [Act.put, qz4, qz5, qz6]; go_big_quiet_on) | (refine quiet_ld3 cW _ rfl rfl ?_; simp only [Act.put, qz4, qz5, qz6]; go_big_quiet_on) | (refine quiet_ld46 cN _ rfl rfl ?_; simp only [Act.put, qz4, qz5, qz6]; go_big_quiet_on) | (go_big_quiet_op; first | go_big_quiet_on | (refine Exists.intro _ (And.intro (fun _ _ => rfl) ?_); go_big_quiet_on) | go_big_quiet_call (((intro hC; replace hC : Below _ _ _ := hC); first | (go_at_call 66; (with_reducible refine (width_any _ _ _ _ _ _ _ _ _ _).mono ?_); (rintro e w2 ⟨rfl, hb⟩; exact ⟨rfl, hC.trans (hb.mono hC.size)⟩)) | (go_at_call 67; (with_reducible refine (most_any _ _ _ _ _ _ _).mono ?_); (rintro e w2 ⟨rfl, hb⟩; exact ⟨rfl, hC.trans (hb.mono hC.size)⟩)))))))); refine wpQuiet_nil ?_; intro w7 hb; replace hb : Below _ _ _ := hb; replace HB := HB.trans (hb.mono HB.size); clear hb)
    (repeat (first | (with_reducible first | refine xA ?_ | refine xB ?_ | refine xC ?_ | refine xD ?_ | refine xH ?_ | refine xI rfl ?_ | refine xE ?_ | refine xF ?_ | refine xG ?_) | go_values | go_skip | go_guarded | go_step | go_upon | go_back | ((with_reducible show Oper.upon _ _ _ _ _ _); go_simp) | (dsimp only)))
    go_ret
    exact ⟨ret_int (by rw [Herr.out, if_neg (by simp [t1, t2]), if_pos t3]), HB⟩
  · (refine wp_region_cls (by kernel_rfl) (by kernel_rfl) ?_; (repeat (first | go_big_quiet_skip | (go_big_quiet_want; first | (refine quiet_ldNd HX 0 _ rfl _ rfl rfl ?_; simp only [Act.put, qz4, qz5, qz6]; (try dsimp only); go_big_quiet_on) | (refine quiet_ld3 c0 _ rfl rfl ?_; simp only [Act.put, qz4, qz5, qz6]; go_big_quiet_on) | (refine quiet_ld3 c1 _ rfl rfl ?_; simp only [Act.put, qz4, qz5, qz6]; go_big_quiet_on) | (refine quiet_ld3 c2 _ rfl rfl ?_; simp only [Act.put, qz4, qz5, qz6]; go_big_quiet_on) | (refine quiet_ld3 cW _ rfl rfl ?_; simp only [Act.put, qz4, qz5, qz6]; go_big_quiet_on) | (refine quiet_ld46 cN _ rfl rfl ?_; simp only [Act.put, qz4, qz5, qz6]; go_big_quiet_on) | (go_big_quiet_op; first | go_big_quiet_on | (refine Exists.intro _ (And.intro (fun _ _ => rfl) ?_); go_big_quiet_on) | go_big_quiet_call (((intro hC; replace hC : Below _ _ _ := hC); first | (go_at_call 66; (with_reducible refine (width_any _ _ _ _ _ _ _ _ _ _).mono ?_); (rintro e w2 ⟨rfl, hb⟩; exact ⟨rfl, hC.trans (hb.mono hC.size)⟩)) | (go_at_call 67; (with_reducible refine (most_any _ _ _ _ _ _ _).mono ?_); (rintro e w2 ⟨rfl, hb⟩; exact ⟨rfl, hC.trans (hb.mono hC.size)⟩)))))))); refine wpQuiet_nil ?_; intro w8 hb; replace hb : Below _ _ _ := hb; replace HX := HX.below hb; replace HB := HB.trans (hb.mono HB.size); replace cW := cell_keep hb cW; replace cN := cell_keep hb cN; clear hb c0 c1 c2)
    (repeat (first | (with_reducible first | refine xA ?_ | refine xB ?_ | refine xC ?_ | refine xD ?_ | refine xH ?_ | refine xI rfl ?_ | refine xE ?_ | refine xF ?_ | refine xG ?_) | go_values | go_skip | go_guarded | go_step | go_upon | go_back | ((with_reducible show Oper.upon _ _ _ _ _ _); go_simp) | (dsimp only)))
    (refine wp_region_cls (by kernel_rfl) (by kernel_rfl) ?_; (repeat (first | go_big_quiet_skip | (go_big_quiet_want; first | (refine quiet_ldNd HX 0 _ rfl _ rfl rfl ?_; simp only [Act.put, qz4, qz5, qz6]; (try dsimp only); go_big_quiet_on) | (refine quiet_ld3 c0 _ rfl rfl ?_; simp only [Act.put, qz4, qz5, qz6]; go_big_quiet_on) | (refine quiet_ld3 c1 _ rfl rfl ?_; simp only [Act.put, qz4, qz5, qz6]; go_big_quiet_on) | (refine quiet_ld3 c2 _ rfl rfl ?_; simp only [Act.put, qz4, qz5, qz6]; go_big_quiet_on) | (refine quiet_ld3 cW _ rfl rfl ?_; simp only [Act.put, qz4, qz5, qz6]; go_big_quiet_on) | (refine quiet_ld46 cN _ rfl rfl ?_; simp only [Act.put, qz4, qz5, qz6]; go_big_quiet_on) | (go_big_quiet_op; first | go_big_quiet_on | (refine Exists.intro _ (And.intro (fun _ _ => rfl) ?_); go_big_quiet_on) | go_big_quiet_call (((intro hC; replace hC : Below _ _ _ := hC); first | (go_at_call 66; (with_reducible refine (width_any _ _ _ _ _ _ _ _ _ _).mono ?_); (rintro e w2 ⟨rfl, hb⟩; exact ⟨rfl, hC.trans (hb.mono hC.size)⟩)) | (go_at_call 67; (with_reducible refine (most_any _ _ _ _ _ _ _).mono ?_); (rintro e w2 ⟨rfl, hb⟩; exact ⟨rfl, hC.trans (hb.mono hC.size)⟩)))))))); refine wpQuiet_nil ?_; intro w7 hb; replace hb : Below _ _ _ := hb; replace HB := HB.trans (hb.mono HB.size); clear hb)
    (repeat (first | (with_reducible first | refine xA ?_ | refine xB ?_ | refine xC ?_ | refine xD ?_ | refine xH ?_ | refine xI rfl ?_ | refine xE ?_ | refine xF ?_ | refine xG ?_) | go_values | go_skip | go_guarded | go_step | go_upon | go_back | ((with_reducible show Oper.upon _ _ _ _ _ _); go_simp) | (dsimp only)))
    go_ret
    exact ⟨ret_int (by rw [Herr.out, if_neg (by simp [t1, t2]), if_neg t3]), HB⟩
set_option maxHeartbeats 2000000 in
theorem rrightn_1 (op wd n k0 k1 k2 : Int) (ao : Option Addr) (cap : Nat) (w : World) (hk : kidsI op = 1) :
    Calls Tryz.prog 51 #[.agg #[.int .i64 op, .int .i64 wd, .int .u64 n, .int .i64 k0, .int .i64 k1, .int .i64 k2], .slice ao 0 cap] w fun e w' => e = .returned (.int .i64 (rightE ⟨op, wd, n, k0, k1, k2⟩ [])) ∧ Below w.heap.size w w' := by
  go_enter Tryz.func51, Tryz.ntmps51
  (repeat' (first | (with_reducible first | refine xA ?_ | refine xB ?_ | refine xC ?_ | refine xD ?_ | refine xH ?_ | refine xI rfl ?_ | refine xE ?_ | refine xF ?_ | refine xG ?_) | go_skip | go_guarded | (go_at_call 41; (with_reducible refine (rkids_anyX _ 1 _ hk (by omega)).mono ?_); rintro e w1 ⟨rfl, rfl⟩) | (with_reducible refine wp_loop_rounds 4 ?_) | rw [rounds_succ] | go_values | go_skip | go_guarded | go_step | go_upon | go_back | ((with_reducible show Oper.upon _ _ _ _ _ _); go_simp) | (dsimp only)))
  all_goals
    first | (exfalso; omega) | skip
    go_ret
    exact ⟨ret_int (by simp_all [rightE, kidsR, kidW]), by (repeat (first | with_reducible exact Below.refl _ _ | assumption | with_reducible refine below_drewN ?_ _ | with_reducible refine Below.drew ?_ | with_reducible refine Below.setRow ?_ ?_ _ | with_reducible refine Below.alloc ?_ ?_ _ | with_reducible refine Below.setCell ?_ ?_ _ | with_reducible exact Nat.le_refl _ | (focus (simp; done)) | (focus (simp; omega)) | omega))⟩
set_option maxHeartbeats 2000000 in
theorem rrightn_2 (op wd n k0 k1 k2 : Int) (ao : Option Addr) (cap : Nat) (w : World) (hk : kidsI op = 2) :
    Calls Tryz.prog 51 #[.agg #[.int .i64 op, .int .i64 wd, .int .u64 n, .int .i64 k0, .int .i64 k1, .int .i64 k2], .slice ao 0 cap] w fun e w' => e = .returned (.int .i64 (rightE ⟨op, wd, n, k0, k1, k2⟩ [])) ∧ Below w.heap.size w w' := by
  go_enter Tryz.func51, Tryz.ntmps51
  (repeat' (first | (with_reducible first | refine xA ?_ | refine xB ?_ | refine xC ?_ | refine xD ?_ | refine xH ?_ | refine xI rfl ?_ | refine xE ?_ | refine xF ?_ | refine xG ?_) | go_skip | go_guarded | (go_at_call 41; (with_reducible refine (rkids_anyX _ 2 _ hk (by omega)).mono ?_); rintro e w1 ⟨rfl, rfl⟩) | (with_reducible refine wp_loop_rounds 4 ?_) | rw [rounds_succ] | go_values | go_skip | go_guarded | go_step | go_upon | go_back | ((with_reducible show Oper.upon _ _ _ _ _ _); go_simp) | (dsimp only)))
  all_goals
    first | (exfalso; omega) | skip
    go_ret
    exact ⟨ret_int (by simp_all [rightE, kidsR, kidW]), by (repeat (first | with_reducible exact Below.refl _ _ | assumption | with_reducible refine below_drewN ?_ _ | with_reducible refine Below.drew ?_ | with_reducible refine Below.setRow ?_ ?_ _ | with_reducible refine Below.alloc ?_ ?_ _ | with_reducible refine Below.setCell ?_ ?_ _ | with_reducible exact Nat.le_refl _ | (focus (simp; done)) | (focus (simp; omega)) | omega))⟩
set_option maxHeartbeats 2000000 in
theorem rrightn_3 (op wd n k0 k1 k2 : Int) (ao : Option Addr) (cap : Nat) (w : World) (hk : kidsI op = 3) :
    Calls Tryz.prog 51 #[.agg #[.int .i64 op, .int .i64 wd, .int .u64 n, .int .i64 k0, .int .i64 k1, .int .i64 k2], .slice ao 0 cap] w fun e w' => e = .returned (.int .i64 (rightE ⟨op, wd, n, k0, k1, k2⟩ [])) ∧ Below w.heap.size w w' := by
  go_enter Tryz.func51, Tryz.ntmps51
  (repeat' (first | (with_reducible first | refine xA ?_ | refine xB ?_ | refine xC ?_ | refine xD ?_ | refine xH ?_ | refine xI rfl ?_ | refine xE ?_ | refine xF ?_ | refine xG ?_) | go_skip | go_guarded | (go_at_call 41; (with_reducible refine (rkids_anyX _ 3 _ hk (by omega)).mono ?_); rintro e w1 ⟨rfl, rfl⟩) | (with_reducible refine wp_loop_rounds 4 ?_) | rw [rounds_succ] | go_values | go_skip | go_guarded | go_step | go_upon | go_back | ((with_reducible show Oper.upon _ _ _ _ _ _); go_simp) | (dsimp only)))
  all_goals
    first | (exfalso; omega) | skip
    go_ret
    exact ⟨ret_int (by simp_all [rightE, kidsR, kidW]), by (repeat (first | with_reducible exact Below.refl _ _ | assumption | with_reducible refine below_drewN ?_ _ | with_reducible refine Below.drew ?_ | with_reducible refine Below.setRow ?_ ?_ _ | with_reducible refine Below.alloc ?_ ?_ _ | with_reducible refine Below.setCell ?_ ?_ _ | with_reducible exact Nat.le_refl _ | (focus (simp; done)) | (focus (simp; omega)) | omega))⟩
end Go.Proofs.YtmaogkgjiplckaaGreat
namespace Go.Proofs.YtmaogkgjiplckaaGreat
open Go.RowKit
theorem right50_any (op wd n k0 k1 k2 : Int) (v : Value) (ls : List Nd) (w : World) (h : SlIs 6 Nd.cells w v ls) (hn : 0 ≤ n) (hn' : n < 18446744073709551616) (hw : ∀ d ∈ ls, 0 ≤ d.w) :
    Calls Tryz.prog 51 #[.agg #[.int .i64 op, .int .i64 wd, .int .u64 n, .int .i64 k0, .int .i64 k1, .int .i64 k2], v] w fun e w' =>
      e = .returned (.int .i64 (rightE ⟨op, wd, n, k0, k1, k2⟩ ls)) ∧ Below w.heap.size w w' := by
  rcases h.cases with ⟨ao, cap, rfl, rfl⟩ | ⟨b, o, cap, rfl, _, HR⟩
  · rcases kidsI_bd op with hk | hk | hk | hk
    · exact rrightn_0 op wd n k0 k1 k2 ao cap w hk hn hn' (by simp)
    · exact rrightn_1 op wd n k0 k1 k2 ao cap w hk
    · exact rrightn_2 op wd n k0 k1 k2 ao cap w hk
    · exact rrightn_3 op wd n k0 k1 k2 ao cap w hk
  · rcases kidsI_bd op with hk | hk | hk | hk
    · exact rright_0 op wd n k0 k1 k2 b o cap ls w hk HR hn hn' hw
    · exact rright_1 op wd n k0 k1 k2 b o cap ls w hk HR hn hn' hw
    · exact rright_2 op wd n k0 k1 k2 b o cap ls w hk HR hn hn' hw
    · exact rright_3 op wd n k0 k1 k2 b o cap ls w hk HR hn hn' hw
theorem right_w {d : Nd} {ls : List Nd} (h : rightE d ls = 0) (hw : ∀ e ∈ ls, 0 ≤ e.w) : 0 ≤ d.w := by
  unfold rightE at h
  split at h
  · cases h
  · rename_i ho
    split at h
    · cases h
    · rename_i a b c hk
      split at h
      · rename_i hwd
        have hab : 0 ≤ a ∧ 0 ≤ b := by
          unfold kidsR at hk
          have kn : ∀ j K x, kidW (kidsI d.op) j K ls = some x → 0 ≤ x := by
            intro j K x hx
            unfold kidW at hx
            split at hx
            · split at hx
              · injection hx with hx; omega
              · cases hx
            · split at hx
              · cases hx
              · injection hx with hx; rw [← hx]; exact wAt_nn hw _
          split at hk
          · rename_i x y z hx hy hz
            injection hk with hk
            injection hk with h1 h2
            injection h2 with h2 h3
            subst h1; subst h2
            exact ⟨kn _ _ _ hx, kn _ _ _ hy⟩
          · cases hk
        exact ((wide_iff (by omega) (by omega) hab.1 hab.2).2 hwd).2
      · cases h
end Go.Proofs.YtmaogkgjiplckaaGreat
namespace Go.Proofs.YtmaogkgjiplckaaGreat
open Go.RowKit
theorem right50_anyX (op wd n k0 k1 k2 : Int) (v : Value) (ls : List Nd) (w : World) (h : SlIs 6 Nd.cells w v ls) (hn : 0 ≤ n) (hn' : n < 18446744073709551616) (hw : ∀ d ∈ ls, 0 ≤ d.w) (E : Int) (hE : Hid (E = rightE ⟨op, wd, n, k0, k1, k2⟩ ls)) :
    Calls Tryz.prog 51 #[.agg #[.int .i64 op, .int .i64 wd, .int .u64 n, .int .i64 k0, .int .i64 k1, .int .i64 k2], v] w fun e w' => e = .returned (.int .i64 E) ∧ Below w.heap.size w w' := by
  rw [hE.out]; exact right50_any op wd n k0 k1 k2 v ls w h hn hn' hw
theorem take_w {ls : List Nd} {k : Nat} {d : Nd} (h : ls[k]? = some d) (hw : ∀ e ∈ ls.take k, 0 ≤ e.w) (hE : rightE d (ls.take k) = 0) : ∀ e ∈ ls.take (k + 1), 0 ≤ e.w := by
  intro e he
  rw [List.take_add_one, h] at he
  simp only [Option.toList_some, List.mem_append, List.mem_singleton] at he
  rcases he with he | rfl
  · exact hw e he
  · exact right_w hE hw
set_option maxHeartbeats 1000000 in
theorem rcheck_any (ls : List Nd) (v : Value) (w : World) (h : SlIs 6 Nd.cells w v ls) (hwf : ∀ d ∈ ls, NdWf d) :
    Calls Tryz.prog 28 #[v] w fun e w' => e = .returned (.tuple #[.int .i64 (tchk ls).1, .int .i64 (tchk ls).2]) ∧ Below w.heap.size w w' := by
  rcases h.cases with ⟨ao, cap, rfl, rfl⟩ | ⟨b, off, cap, rfl, hne, HR0⟩
  · go_enter Tryz.func28, Tryz.ntmps28
    (repeat (first | (with_reducible first | refine xA ?_ | refine xB ?_ | refine xC ?_ | refine xD ?_ | refine xH ?_ | refine xI rfl ?_ | refine xE ?_ | refine xF ?_ | refine xG ?_) | go_values | go_skip | go_guarded | go_step | go_upon | go_back | ((with_reducible show Oper.upon _ _ _ _ _ _); go_simp) | (dsimp only)))
    go_ret2
    exact ⟨rfl, by (repeat (first | with_reducible exact Below.refl _ _ | assumption | with_reducible refine below_drewN ?_ _ | with_reducible refine Below.drew ?_ | with_reducible refine Below.setRow ?_ ?_ _ | with_reducible refine Below.alloc ?_ ?_ _ | with_reducible refine Below.setCell ?_ ?_ _ | with_reducible exact Nat.le_refl _ | (focus (simp; done)) | (focus (simp; omega)) | omega))⟩
  have hcap : ls.length ≤ cap := by
    obtain ⟨_, _, e, hc, _⟩ := h
    injection e with e1 e2 e3
    omega
  have hl0 : ((ls.length : Int) == 0) = false := by
    have := List.length_pos_iff.2 hne
    simpa using hne
  have Ht : Hid (tchk ls = chk (ls.take 0) (ls.drop 0)) := Lib.hid (by unfold tchk; rw [if_neg hne]; rfl)
  have Hwf := Lib.hid hwf
  clear hwf
  go_enter Tryz.func28, Tryz.ntmps28
  (repeat (first | (with_reducible first | refine xA ?_ | refine xB ?_ | refine xC ?_ | refine xD ?_ | refine xH ?_ | refine xI rfl ?_ | refine xE ?_ | refine xF ?_ | refine xG ?_) | go_values | go_skip | go_guarded | go_step | go_upon | go_back | ((with_reducible show Oper.upon _ _ _ _ _ _); go_simp) | (dsimp only)))
  go_loopw [4] (fun i wr => ∃ k : Nat, k ≤ ls.length ∧ k ≤ 65536 ∧ Hid (∀ d ∈ ls.take k, 0 ≤ d.w) ∧ Hid (tchk ls = chk (ls.take k) (ls.drop k)) ∧ i = .int .i64 k ∧ Below w.heap.size w wr) (fun i _ => ls.length - (intOf i).toNat)
  case atStart => exact ⟨0, by omega, by omega, Lib.hid (by simp), Ht, rfl, Below.refl _ _⟩
  case round =>
    clear Ht
    obtain ⟨k, hk, hkM, hwk, Ht, rfl, HB⟩ := hrel
    have HR := HR0.below HB
    have hsz := HB.size
    rcases Nat.lt_or_ge k ls.length with hlt | hge
    · obtain ⟨d, hd⟩ : ∃ d, ls[k]? = some d := ⟨_, List.getElem?_eq_getElem hlt⟩
      have hi := Lib.hid hd
      have hwd := Hwf.out d (List.mem_of_getElem? hd)
      have hd0 := hwd.2.2.1.1
      have hd1 := hwd.2.2.1.2
      have hst := chk_step hd
      clear hwd hd
      obtain ⟨E, hE⟩ : ∃ E, Hid (E = rightE d (ls.take k)) := ⟨_, Lib.hid rfl⟩
      rw [← hE.out] at hst
      by_cases hM : k = 65536
      · have fM : ((k : Int) == 65536) = true := by simp; omega
        rw [if_pos hM] at hst
        have Hst := Lib.hid (Ht.out.trans hst)
        have HM := Lib.hid hM
        clear hst hM
        (repeat (first | (with_reducible first | refine xA ?_ | refine xB ?_ | refine xC ?_ | refine xD ?_ | refine xH ?_ | refine xI rfl ?_ | refine xE ?_ | refine xF ?_ | refine xG ?_) | go_skip | go_guarded | ((with_reducible refine wl_id ?_); refine wl_ldNdA HR (by (repeat (first | with_reducible exact Below.refl _ _ | assumption | with_reducible refine below_drewN ?_ _ | with_reducible refine Below.drew ?_ | with_reducible refine Below.setRow ?_ ?_ _ | with_reducible refine Below.alloc ?_ ?_ _ | with_reducible refine Below.setCell ?_ ?_ _ | with_reducible exact Nat.le_refl _ | (focus (simp; done)) | (focus (simp; omega)) | omega))) k _ hi rfl _ rfl rfl ?_; simp only [Act.put, qz4, qz5, qz6]; (try dsimp only)) | go_values | go_skip | go_guarded | go_step | go_upon | go_back | ((with_reducible show Oper.upon _ _ _ _ _ _); go_simp) | (dsimp only)))
        go_ret2
        exact ⟨by rw [Hst.out]; simp [HM.out], by (repeat (first | with_reducible exact Below.refl _ _ | assumption | with_reducible refine below_drewN ?_ _ | with_reducible refine Below.drew ?_ | with_reducible refine Below.setRow ?_ ?_ _ | with_reducible refine Below.alloc ?_ ?_ _ | with_reducible refine Below.setCell ?_ ?_ _ | with_reducible exact Nat.le_refl _ | (focus (simp; done)) | (focus (simp; omega)) | omega))⟩
      · have fM : ((k : Int) == 65536) = false := by simp; omega
        have HM := Lib.hid hM
        rw [if_neg hM] at hst
        clear hM
        (repeat (first | (with_reducible first | refine xA ?_ | refine xB ?_ | refine xC ?_ | refine xD ?_ | refine xH ?_ | refine xI rfl ?_ | refine xE ?_ | refine xF ?_ | refine xG ?_) | go_skip | go_guarded | ((with_reducible refine wl_id ?_); refine wl_ldNdA HR (by (repeat (first | with_reducible exact Below.refl _ _ | assumption | with_reducible refine below_drewN ?_ _ | with_reducible refine Below.drew ?_ | with_reducible refine Below.setRow ?_ ?_ _ | with_reducible refine Below.alloc ?_ ?_ _ | with_reducible refine Below.setCell ?_ ?_ _ | with_reducible exact Nat.le_refl _ | (focus (simp; done)) | (focus (simp; omega)) | omega))) k _ hi rfl _ rfl rfl ?_; simp only [Act.put, qz4, qz5, qz6]; (try dsimp only)) | go_values | go_skip | go_guarded | go_step | go_upon | go_back | ((with_reducible show Oper.upon _ _ _ _ _ _); go_simp) | (dsimp only)))
        refine wp_abs (fun u => Below w.heap.size w u ∧ RowAt 6 Nd.cells u b off ls) ⟨by (repeat (first | with_reducible exact Below.refl _ _ | assumption | with_reducible refine below_drewN ?_ _ | with_reducible refine Below.drew ?_ | with_reducible refine Below.setRow ?_ ?_ _ | with_reducible refine Below.alloc ?_ ?_ _ | with_reducible refine Below.setCell ?_ ?_ _ | with_reducible exact Nat.le_refl _ | (focus (simp; done)) | (focus (simp; omega)) | omega)), HR.below (by (repeat (first | with_reducible exact Below.refl _ _ | assumption | with_reducible refine below_drewN ?_ _ | with_reducible refine Below.drew ?_ | with_reducible refine Below.setRow ?_ ?_ _ | with_reducible refine Below.alloc ?_ ?_ _ | with_reducible refine Below.setCell ?_ ?_ _ | with_reducible exact Nat.le_refl _ | (focus (simp; done)) | (focus (simp; omega)) | omega)))⟩ ?_
        rintro w9 ⟨HB9, HR9⟩
        have HR := HR9
        have hS := SlIs.take HR9 hcap hk
        have hE' : Hid (E = rightE ⟨d.op, d.w, d.n, d.k0, d.k1, d.k2⟩ (ls.take k)) := hE
        have hkc : (k : Int) ≤ cap := by omega
        by_cases hz : E = 0
        · have fz : (E != 0) = false := by simp [hz]
          rw [if_neg (by simp [hz])] at hst
          have Hst := Lib.hid (Ht.out.trans hst)
          have HZ := Lib.hid hz
          clear hst hz
          refine wp_region_cls (by kernel_rfl) (by kernel_rfl) ?_
          (repeat (first | go_big_quiet_skip | (go_big_quiet_want; first | (refine quiet_ldNd HX 0 _ rfl _ rfl rfl ?_; simp only [Act.put, qz4, qz5, qz6]; (try dsimp only); go_big_quiet_on) | (refine quiet_ldNdA HR k _ hi _ rfl rfl ?_; simp only [Act.put, qz4, qz5, qz6]; go_big_quiet_on) | (go_big_quiet_op; first | go_big_quiet_on | (refine Exists.intro _ (And.intro (fun _ _ => rfl) ?_); go_big_quiet_on) | go_big_quiet_call (((intro hC; replace hC : Below _ _ _ := hC); (go_at_call 51; (with_reducible refine (right50_anyX _ _ _ _ _ _ _ _ _ (hS.below hC) hd0 hd1 hwk.out _ hE).mono ?_); (rintro e w2 ⟨rfl, hb⟩; exact ⟨rfl, hC.trans (hb.mono hC.size)⟩))))))))
          refine wpQuiet_nil ?_
          intro w8 hb
          replace hb : Below _ _ _ := hb
          replace HB9 := HB9.trans (hb.mono HB9.size)
          clear hb
          (repeat (first | (with_reducible first | refine xA ?_ | refine xB ?_ | refine xC ?_ | refine xD ?_ | refine xH ?_ | refine xI rfl ?_ | refine xE ?_ | refine xF ?_ | refine xG ?_) | go_values | go_skip | go_guarded | go_step | go_upon | go_back | ((with_reducible show Oper.upon _ _ _ _ _ _); go_simp) | (dsimp only)))
          exact ⟨⟨k + 1, by omega, by have := HM.out; omega, Lib.hid (take_w hi.out hwk.out (by rw [← hE.out]; exact HZ.out)), Hst, by go_num, HB9⟩, by simp [intOf]; omega⟩
        · have fz : (E != 0) = true := by simpa using hz
          rw [if_pos hz] at hst
          have Hst := Lib.hid (Ht.out.trans hst)
          clear hst hz
          refine wp_region_cls (by kernel_rfl) (by kernel_rfl) ?_
          (repeat (first | go_big_quiet_skip | (go_big_quiet_want; first | (refine quiet_ldNd HX 0 _ rfl _ rfl rfl ?_; simp only [Act.put, qz4, qz5, qz6]; (try dsimp only); go_big_quiet_on) | (refine quiet_ldNdA HR k _ hi _ rfl rfl ?_; simp only [Act.put, qz4, qz5, qz6]; go_big_quiet_on) | (go_big_quiet_op; first | go_big_quiet_on | (refine Exists.intro _ (And.intro (fun _ _ => rfl) ?_); go_big_quiet_on) | go_big_quiet_call (((intro hC; replace hC : Below _ _ _ := hC); (go_at_call 51; (with_reducible refine (right50_anyX _ _ _ _ _ _ _ _ _ (hS.below hC) hd0 hd1 hwk.out _ hE).mono ?_); (rintro e w2 ⟨rfl, hb⟩; exact ⟨rfl, hC.trans (hb.mono hC.size)⟩))))))))
          refine wpQuiet_nil ?_
          intro w8 hb
          replace hb : Below _ _ _ := hb
          replace HB9 := HB9.trans (hb.mono HB9.size)
          clear hb
          (repeat (first | (with_reducible first | refine xA ?_ | refine xB ?_ | refine xC ?_ | refine xD ?_ | refine xH ?_ | refine xI rfl ?_ | refine xE ?_ | refine xF ?_ | refine xG ?_) | go_values | go_skip | go_guarded | go_step | go_upon | go_back | ((with_reducible show Oper.upon _ _ _ _ _ _); go_simp) | (dsimp only)))
          go_ret2
          exact ⟨by rw [Hst.out]; rfl, HB9⟩
    · (repeat (first | (with_reducible first | refine xA ?_ | refine xB ?_ | refine xC ?_ | refine xD ?_ | refine xH ?_ | refine xI rfl ?_ | refine xE ?_ | refine xF ?_ | refine xG ?_) | go_values | go_skip | go_guarded | go_step | go_upon | go_back | ((with_reducible show Oper.upon _ _ _ _ _ _); go_simp) | (dsimp only)))
      go_ret2
      exact ⟨by rw [Ht.out, List.drop_eq_nil_of_le hge]; rfl, HB⟩
end Go.Proofs.YtmaogkgjiplckaaGreat
namespace Go.Proofs.YtmaogkgjiplckaaGreat
open Go.RowKit
section
variable {P : Program} (w : World)
theorem run_append_none {base T : Nat} {n : Nat} {v : Value} {xs : List Value} (t ty e : TypeId) (i : TypeInfo) (ht : P.underlying t = some (.slice e)) (hi : P.info? e = some i) (hown : w.ownsRow base T 1 v n xs) (ao : Option Addr) (c : Nat) : (Builtin.append_ #[t, t] ty #[v, .slice ao 0 c]).run P w = .ok v w := by
  rcases hown.2 with ⟨rfl, hn⟩ | ⟨g, cap, cur, rfl, hb, hh, hnc, _⟩
  · cases ao <;> simp [Builtin.append_, run_underlying ht, sizeOf, typeInfo, hi, Builtin.lenOf, Builtin.firstCells, storeCells, loadCells, loadCellsFrom]
  · cases ao <;> simp [Builtin.append_, run_underlying ht, sizeOf, typeInfo, hi, Builtin.lenOf, Builtin.firstCells, hnc, storeCells, loadCells, loadCellsFrom]
end
section
variable {ops : Array Oper} {rest : List Oper} {o : Oper} {a : Act} {w : World} {Q : Exit → Act → World → Prop}
theorem wl_appendO (hgd : o.guard = none) (s x : Operand) (ho : o.op = .call { callee := .builtin .append, args := #[s, x], argTypes := #[31, 31] }) (base : Nat) (v : Value) (n : Nat) (l : List Int) (hs : a.eval s = v) (hown : w.ownsRow base 3 1 v n (l.map (Value.int .i64))) (b2 m : Nat) (xv : Value) (us : List Int) (hx : a.eval x = xv) (hus : w.ownsRow b2 3 1 xv m (us.map (Value.int .i64))) (hn : n + m ≤ 1000000000) (hbase : base ≤ w.heap.size)
    (h : ∀ v' w', w'.ownsRow base 3 1 v' (n + m) ((l ++ us).map (Value.int .i64)) → w.grownBy w' v.ownBlock → (v'.ownBlock = v.ownBlock ∨ v'.ownBlock = some w.heap.size) → wpList Tryz.prog ops Q rest (a.put o.dst v') w') : wpList Tryz.prog ops Q (o :: rest) a w := by
  have hml : us.length = m := by simpa using hus.1
  obtain ⟨i0, hi0, _⟩ := info_parts info3
  by_cases h0 : m = 0
  · subst h0
    obtain rfl : us = [] := List.length_eq_zero_iff.1 hml
    obtain ⟨ao, c, rfl⟩ := ownsRow_shape hus
    refine wpList_plain hgd fun _ hK => ?_
    unfold Oper.wp execOp
    simp only [ho, resolve, invoke, builtin, Sem.run_bind, Sem.run_pure, Result.andThen_ok, List.map_toArray, List.map_cons, List.map_nil, hs, hx, run_append_none w 31 o.type 3 i0 Tryz.underlying31 hi0 hown ao c]
    exact hK _ _ (h v w (by rw [List.append_nil]; exact hown) ⟨rfl, rfl, rfl, Nat.le_refl _, fun _ _ _ => rfl⟩ (.inl rfl))
  · have hS := SlX.ofOwns (X := fun _ => True) (base := b2) (T := 3) (v := xv) (l := us) (by rw [hml]; exact hus) (fun _ _ _ => trivial)
    obtain ⟨ao, c, rfl⟩ := ownsRow_shape hus
    obtain ⟨q, oo, e, _, _, _, hR⟩ := hS.row (by omega)
    subst e
    exact wl_appendI hgd s x ho base v n l hs hown q oo m c us hx hml hR hn hbase h
end
end Go.Proofs.YtmaogkgjiplckaaGreat
namespace Go.Proofs.YtmaogkgjiplckaaGreat
open Go.RowKit
def frI (I : Nat → Nat) (ws : List (List Int)) (k : Nat) : List Int := (List.range k).flatMap fun i => sayL (ws.getD i []) (I i)
theorem frI_succ {I : Nat → Nat} {ws : List (List Int)} {k : Nat} : frI I ws (k + 1) = frI I ws k ++ sayL (ws.getD k []) (I k) := by
  unfold frI
  rw [List.range_succ, List.flatMap_append]
  simp
theorem frI_len {I : Nat → Nat} {ws : List (List Int)} {k N : Nat} (h : ∀ l ∈ ws, l.length ≤ N) : (frI I ws k).length ≤ k * N := by
  induction k with
  | zero => simp [frI]
  | succ k ih =>
    rw [frI_succ, List.length_append, sayL_len, Nat.succ_mul]
    have : (ws.getD k []).length ≤ N := by
      rw [List.getD_eq_getElem?_getD]
      cases e : ws[k]? with
      | none => simp
      | some l => exact h l (List.mem_of_getElem? e)
    omega
theorem wrapU {n : Int} (h0 : 0 ≤ n) (h1 : n < 18446744073709551616) : IntKind.u64.wrap n = n := by rw [IntKind.wrap_u64]; omega
set_option maxRecDepth 100000 in
set_option maxHeartbeats 4000000 in
theorem from_any {Z : Nat → Prop} {r0 r1 r2 r3 r4 r5 r6 r7 : Int} {ia : Option Addr} {ic : Nat} {vm : Value} {w : World} (inp : List Int) (hE : EnvWf inp (regL r0 r1 r2 r3 r4 r5 r6 r7)) (hi : SlIs 1 u8c w (.slice ia inp.length ic) inp) (b : BS) (iv rv : List Value) (hiv : SlsX Z w iv b.inp) (hrv : SlsX Z w rv b.reg) (hil : iv.length = 16) (hrl : rv.length = 8) (hll : ∀ l, l ∈ b.inp ∨ l ∈ b.reg → l.length ≤ 64 ∧ ∀ a ∈ l, -1048576 ≤ a ∧ a ≤ 1048576)
    (I R : Nat → Nat) (hI : I = inI inp) (hR : R = rgR (regL r0 r1 r2 r3 r4 r5 r6 r7)) :
    Calls Tryz.prog 11 #[.agg iv.toArray, .agg rv.toArray, .agg #[.slice ia inp.length ic, .int .u64 r0, .int .u64 r1, .int .u64 r2, .int .u64 r3, .int .u64 r4, .int .u64 r5, .int .u64 r6, .int .u64 r7, vm]] w fun e w' => (∃ v, e = .returned v ∧ w'.ownsRow (w.heap.size + 3) 3 1 v (frB I R b).length ((frB I R b).map (Value.int .i64))) ∧ Below w.heap.size w w' := by
  have HE := Lib.hid hE
  have HI := Lib.hid hi
  have HIV := Lib.hid hiv
  have HRV := Lib.hid hrv
  have HLL := Lib.hid hll
  have HIL := Lib.hid hil
  have HRL := Lib.hid hrl
  have HIe := Lib.hid hI
  have HRe := Lib.hid hR
  have hin : (inp.length : Int) ≤ 100 := by have := hE.il; omega
  clear hE hi hiv hrv hll hil hrl hI hR
  go_enter Tryz.func11, Tryz.ntmps11
  (repeat (first | (with_reducible first | refine xA ?_ | refine xB ?_ | refine xC ?_ | refine xD ?_ | refine xH ?_ | refine xI rfl ?_ | refine xE ?_ | refine xF ?_ | refine xG ?_) | go_values | go_skip | go_guarded | go_step | go_upon | go_back | ((with_reducible show Oper.upon _ _ _ _ _ _); go_simp) | (dsimp only)))
  refine wp_abs (fun u => Below w.heap.size w u ∧ u.heap[w.heap.size]? = some (.cells iv.toArray 32 (0, 0)) ∧ u.heap[w.heap.size + 1]? = some (.cells rv.toArray 33 (0, 0)) ∧ u.heap[w.heap.size + 1 + 1]? = some (.cells #[.slice ia inp.length ic, .int .u64 r0, .int .u64 r1, .int .u64 r2, .int .u64 r3, .int .u64 r4, .int .u64 r5, .int .u64 r6, .int .u64 r7, vm] 27 (0, 0))) ⟨by (repeat (first | with_reducible exact Below.refl _ _ | assumption | with_reducible refine below_drewN ?_ _ | with_reducible refine Below.drew ?_ | with_reducible refine Below.setRow ?_ ?_ _ | with_reducible refine Below.alloc ?_ ?_ _ | with_reducible refine Below.setCell ?_ ?_ _ | with_reducible exact Nat.le_refl _ | (focus (simp; done)) | (focus (simp; omega)) | omega)), ?_, ?_, ?_⟩ ?_
  · exact (heap_alloc_old _ _ (by simp <;> omega)).trans ((heap_alloc_old _ _ (by simp <;> omega)).trans (heap_alloc_new w _))
  · exact (heap_alloc_old _ _ (by simp)).trans (by simpa using heap_alloc_new (w.alloc (.cells iv.toArray 32)) (.cells rv.toArray 33))
  · simpa using heap_alloc_new ((w.alloc (.cells iv.toArray 32)).alloc (.cells rv.toArray 33)) (.cells #[.slice ia inp.length ic, .int .u64 r0, .int .u64 r1, .int .u64 r2, .int .u64 r3, .int .u64 r4, .int .u64 r5, .int .u64 r6, .int .u64 r7, vm] 27)
  rintro w1 hS1
  go_loopw [7, 8] (fun v i wr => ∃ k : Nat, k ≤ 16 ∧ i = .int .i64 k ∧ Hid (wr.ownsRow (w.heap.size + 3) 3 1 v (frI I b.inp k).length ((frI I b.inp k).map (Value.int .i64))) ∧ (fun u => Below w.heap.size w u ∧ u.heap[w.heap.size]? = some (.cells iv.toArray 32 (0, 0)) ∧ u.heap[w.heap.size + 1]? = some (.cells rv.toArray 33 (0, 0)) ∧ u.heap[w.heap.size + 1 + 1]? = some (.cells #[.slice ia inp.length ic, .int .u64 r0, .int .u64 r1, .int .u64 r2, .int .u64 r3, .int .u64 r4, .int .u64 r5, .int .u64 r6, .int .u64 r7, vm] 27 (0, 0))) wr) (fun _ i _ => 16 - (intOf i).toNat)
  case atStart => exact ⟨0, Nat.zero_le _, rfl, Lib.hid (by simpa [frI] using World.ownsRow_nil w1 _ _ _), hS1⟩
  case round =>
    clear hS1
    obtain ⟨k, hk, rfl, HO, hS⟩ := hrel
    rcases Nat.lt_or_ge k 16 with hlt | hge
    · obtain ⟨vk, hv⟩ : ∃ vk, iv[k]? = some vk := ⟨_, List.getElem?_eq_getElem (by have := HIL.out; omega)⟩
      obtain ⟨l, hl⟩ : ∃ l, b.inp[k]? = some l := ⟨_, List.getElem?_eq_getElem (by have := HIL.out; have := HIV.out.1; omega)⟩
      have hsl := HIV.out.2 k vk l hv hl
      obtain ⟨ak, ck, rfl⟩ := hsl.shape
      have hlb := HLL.out l (.inl (List.mem_of_getElem? hl))
      have HF : Hid (frI I b.inp (k + 1) = frI I b.inp k ++ sayL l (I k)) := Lib.hid (by rw [frI_succ, List.getD_eq_getElem?_getD, hl]; rfl)
      have hCL : Hid ((frI I b.inp k).length ≤ k * 64) := Lib.hid (frI_len fun l h => (HLL.out l (.inl h)).1)
      have HIk := Lib.hid (show atB inp (k : Int) = (I k : Int) by
        rw [HIe.out]
        unfold inI
        have := HE.out.at (k : Int)
        omega)
      have hIb : I k < 256 := by rw [HIe.out]; exact HE.out.I k
      obtain ⟨x, hx⟩ : ∃ x, I k = x := ⟨_, rfl⟩
      rw [hx] at HIk HF hIb
      have HAT : Hid (∀ u : World, Below w.heap.size w u → Calls Tryz.prog 35 #[.slice ia inp.length ic, .int .u64 k] u fun e w' => e = .returned (.int .u8 (x : Int)) ∧ w' = u) := Lib.hid (fun u hb => at_any _ inp k u (HI.out.below hb) (by omega) (by have := HE.out.il; omega) x HIk)
      have HSAY : Hid (∀ u : World, Below w.heap.size w u → Calls Tryz.prog 14 #[.slice ak l.length ck, .int .u64 (x : Int)] u fun e w' => ∃ v', e = .returned v' ∧ w'.ownsRow u.heap.size 3 1 v' l.length ((sayL l x).map (Value.int .i64)) ∧ Below u.heap.size u w') := Lib.hid (fun u hb => say_law _ l x u (hsl.kept (Kept.ofBelow hb)) (by omega) (by omega) hlb.2)
      have HCV : Hid (∀ u : World, (fun u => Below w.heap.size w u ∧ u.heap[w.heap.size]? = some (.cells iv.toArray 32 (0, 0)) ∧ u.heap[w.heap.size + 1]? = some (.cells rv.toArray 33 (0, 0)) ∧ u.heap[w.heap.size + 1 + 1]? = some (.cells #[.slice ia inp.length ic, .int .u64 r0, .int .u64 r1, .int .u64 r2, .int .u64 r3, .int .u64 r4, .int .u64 r5, .int .u64 r6, .int .u64 r7, vm] 27 (0, 0))) u → u.cell? ⟨w.heap.size, k, none⟩ = some (.slice ak l.length ck)) := Lib.hid (fun u hu => (cell_of_row u w.heap.size k _ _ _ hu.2.1).trans ((List.getElem?_toArray ..).trans hv))
      have HCI : Hid (∀ u : World, (fun u => Below w.heap.size w u ∧ u.heap[w.heap.size]? = some (.cells iv.toArray 32 (0, 0)) ∧ u.heap[w.heap.size + 1]? = some (.cells rv.toArray 33 (0, 0)) ∧ u.heap[w.heap.size + 1 + 1]? = some (.cells #[.slice ia inp.length ic, .int .u64 r0, .int .u64 r1, .int .u64 r2, .int .u64 r3, .int .u64 r4, .int .u64 r5, .int .u64 r6, .int .u64 r7, vm] 27 (0, 0))) u → u.cell? ⟨w.heap.size + 1 + 1, 0, none⟩ = some (.slice ia inp.length ic)) := Lib.hid (fun u hu => (cell_of_row u (w.heap.size + 1 + 1) 0 _ _ _ hu.2.2.2).trans rfl)
      have hxI : (x : Int) < 256 := by omega
      have hx0 : (0 : Int) ≤ (x : Int) := by omega
      have i0 : (0 : Int) ≤ (k : Int) := by omega
      have i1 : (k : Int) < 16 := by omega
      have HLB := Lib.hid hlb
      obtain ⟨fl, hfl⟩ : ∃ fl, frI I b.inp k = fl := ⟨_, rfl⟩
      rw [hfl] at HF hCL HO
      obtain ⟨av, cv, rfl⟩ := ownsRow_shape HO.out
      clear hsl hlb hv hl hx hIb hfl
      (repeat (first | (with_reducible first | refine xA ?_ | refine xB ?_ | refine xC ?_ | refine xD ?_ | refine xH ?_ | refine xI rfl ?_ | refine xE ?_ | refine xF ?_ | refine xG ?_) | go_values | go_skip | go_guarded | go_step | go_upon | go_back | ((with_reducible show Oper.upon _ _ _ _ _ _); go_simp) | (dsimp only)))
      refine wp_region_held (S := fun u => Below w.heap.size w u ∧ u.heap[w.heap.size]? = some (.cells iv.toArray 32 (0, 0)) ∧ u.heap[w.heap.size + 1]? = some (.cells rv.toArray 33 (0, 0)) ∧ u.heap[w.heap.size + 1 + 1]? = some (.cells #[.slice ia inp.length ic, .int .u64 r0, .int .u64 r1, .int .u64 r2, .int .u64 r3, .int .u64 r4, .int .u64 r5, .int .u64 r6, .int .u64 r7, vm] 27 (0, 0))) (by kernel_rfl) ?_
      have HSC : (fun u => Below w.heap.size w u ∧ u.heap[w.heap.size]? = some (.cells iv.toArray 32 (0, 0)) ∧ u.heap[w.heap.size + 1]? = some (.cells rv.toArray 33 (0, 0)) ∧ u.heap[w.heap.size + 1 + 1]? = some (.cells #[.slice ia inp.length ic, .int .u64 r0, .int .u64 r1, .int .u64 r2, .int .u64 r3, .int .u64 r4, .int .u64 r5, .int .u64 r6, .int .u64 r7, vm] 27 (0, 0))) ({ wr with drawn := wr.drawn + 1 } : World) := ⟨hS.1.trans ⟨rfl, rfl, rfl, Nat.le_refl _, fun _ _ => rfl⟩, hS.2⟩
      have hO : ({ wr with drawn := wr.drawn + 1 } : World).ownsRow (w.heap.size + 3) 3 1 (.slice av fl.length cv) fl.length (fl.map (Value.int .i64)) := HO.out
      clear hS HO
      generalize ({ wr with drawn := wr.drawn + 1 } : World) = u0 at *
      (refine wpAnyH_take (i := 0) (v := .slice av fl.length cv) rfl (by kernel_rfl) (by kernel_rfl) (by kernel_rfl) (fun _ _ _ h => h) (Or.inl ⟨rfl, fun w _ => by go_simp⟩) HSC ?_; simp only [Act.put, qz1, qz2, qz3, qz4, qz5, qz6])
      (refine wpAnyH_take (i := 1) (v := .int .i64 k) rfl (by kernel_rfl) (by kernel_rfl) (by kernel_rfl) (fun _ _ _ h => h) (Or.inl ⟨rfl, fun w _ => by go_simp⟩) HSC ?_; simp only [Act.put, qz1, qz2, qz3, qz4, qz5, qz6])
      (refine wpAnyH_take (i := 2) (v := .pointer (some ⟨w.heap.size, k, none⟩)) rfl (by kernel_rfl) (by kernel_rfl) (by kernel_rfl) (fun _ _ _ h => h) (Or.inl ⟨rfl, fun w _ => by go_simp⟩) HSC ?_; simp only [Act.put, qz1, qz2, qz3, qz4, qz5, qz6])
      (refine wpAnyH_take (i := 3) (v := .slice ak l.length ck) rfl (by kernel_rfl) (by kernel_rfl) (by kernel_rfl) (fun _ _ _ h => h) (Or.inl ⟨rfl, fun w hw => by have hx := HCV.out w hw; go_simp⟩) HSC ?_; simp only [Act.put, qz1, qz2, qz3, qz4, qz5, qz6])
      (refine wpAnyH_take (i := 4) (v := .pointer (some ⟨w.heap.size + 1 + 1, 0, none⟩)) rfl (by kernel_rfl) (by kernel_rfl) (by kernel_rfl) (fun _ _ _ h => h) (Or.inl ⟨rfl, fun w _ => by go_simp⟩) HSC ?_; simp only [Act.put, qz1, qz2, qz3, qz4, qz5, qz6])
      (refine wpAnyH_take (i := 5) (v := .slice ia inp.length ic) rfl (by kernel_rfl) (by kernel_rfl) (by kernel_rfl) (fun _ _ _ h => h) (Or.inl ⟨rfl, fun w hw => by have hx := HCI.out w hw; go_simp⟩) HSC ?_; simp only [Act.put, qz1, qz2, qz3, qz4, qz5, qz6])
      (refine wpAnyH_take (i := 6) (v := .int .i64 k) rfl (by kernel_rfl) (by kernel_rfl) (by kernel_rfl) (fun _ _ _ h => h) (Or.inl ⟨rfl, fun w _ => by go_simp⟩) HSC ?_; simp only [Act.put, qz1, qz2, qz3, qz4, qz5, qz6])
      (refine wpAnyH_take (i := 7) (v := .int .u64 k) rfl (by kernel_rfl) (by kernel_rfl) (by kernel_rfl) (fun _ _ _ h => h) (Or.inl ⟨rfl, fun w _ => by go_simp; exact wrapU (by omega) (by omega)⟩) HSC ?_; simp only [Act.put, qz1, qz2, qz3, qz4, qz5, qz6])
      refine wpAnyH_all (rs := [8]) (by kernel_rfl) (by simp) (fun i hi => ?_)
      obtain rfl : i = 8 := by simpa using hi
      refine wpOp_one rfl ?_
      have HAT1 := Lib.hid (HAT.out u0 HSC.1)
      (repeat (first | (with_reducible first | refine xA ?_ | refine xB ?_ | refine xC ?_ | refine xD ?_ | refine xH ?_ | refine xI rfl ?_ | refine xE ?_ | refine xF ?_ | refine xG ?_) | go_skip | go_guarded | (go_at_call 35; (with_reducible refine HAT1.out.mono ?_); rintro _ u1 ⟨rfl, rfl⟩) | go_values | go_skip | go_guarded | go_step | go_upon | go_back | ((with_reducible show Oper.upon _ _ _ _ _ _); go_simp) | (dsimp only)))
      refine ⟨HSC, ?_⟩
      (refine wpAnyH_take (i := 9) (v := .int .u64 (x : Int)) rfl (by kernel_rfl) (by kernel_rfl) (by kernel_rfl) (fun _ _ _ h => h) (Or.inl ⟨rfl, fun w _ => by go_simp; exact wrapU (by omega) (by omega)⟩) HSC ?_; simp only [Act.put, qz1, qz2, qz3, qz4, qz5, qz6])
      refine wpAnyH_all (rs := [10]) (by kernel_rfl) (by simp) (fun i hi => ?_)
      obtain rfl : i = 10 := by simpa using hi
      refine wpOp_one rfl ?_
      have HSAY1 := Lib.hid (HSAY.out u1 HSC.1)
      (repeat (first | (with_reducible first | refine xA ?_ | refine xB ?_ | refine xC ?_ | refine xD ?_ | refine xH ?_ | refine xI rfl ?_ | refine xE ?_ | refine xF ?_ | refine xG ?_) | go_skip | go_guarded | (go_at_call 14; (with_reducible refine HSAY1.out.mono ?_); rintro _ u2 ⟨vs, rfl, hO2, hb2⟩) | go_values | go_skip | go_guarded | go_step | go_upon | go_back | ((with_reducible show Oper.upon _ _ _ _ _ _); go_simp) | (dsimp only)))
      have HS2 : (fun u => Below w.heap.size w u ∧ u.heap[w.heap.size]? = some (.cells iv.toArray 32 (0, 0)) ∧ u.heap[w.heap.size + 1]? = some (.cells rv.toArray 33 (0, 0)) ∧ u.heap[w.heap.size + 1 + 1]? = some (.cells #[.slice ia inp.length ic, .int .u64 r0, .int .u64 r1, .int .u64 r2, .int .u64 r3, .int .u64 r4, .int .u64 r5, .int .u64 r6, .int .u64 r7, vm] 27 (0, 0))) u2 := ⟨HSC.1.trans (hb2.mono HSC.1.size), (hb2.block _ (lt_of_block HSC.2.1)).trans HSC.2.1, (hb2.block _ (lt_of_block HSC.2.2.1)).trans HSC.2.2.1, (hb2.block _ (lt_of_block HSC.2.2.2)).trans HSC.2.2.2⟩
      have hO3 := owns_kept hO (Kept.ofBelow (X := fun _ => True) hb2) (fun _ _ => trivial)
      have hsz2 : w.heap.size + 3 ≤ u2.heap.size := lt_of_block HS2.2.2.2
      refine ⟨HS2, ?_⟩
      refine wpAnyH_all (rs := [11]) (by kernel_rfl) (by simp) (fun i hi => ?_)
      obtain rfl : i = 11 := by simpa using hi
      refine wpOp_one rfl ?_
      (repeat (first | (with_reducible first | refine xA ?_ | refine xB ?_ | refine xC ?_ | refine xD ?_ | refine xH ?_ | refine xI rfl ?_ | refine xE ?_ | refine xF ?_ | refine xG ?_) | go_skip | go_guarded | ((with_reducible refine wl_id ?_); refine wl_appendO rfl _ _ rfl (w.heap.size + 3) (.slice av fl.length cv) fl.length fl rfl hO3 u1.heap.size l.length vs (sayL l x) rfl hO2 (by have := hCL.out; have := HLB.out.1; omega) hsz2 ?_; intro v9 w9 hO9 hg9 hl9; (try simp only [Act.put, qz4, qz5, qz6])) | go_values | go_skip | go_guarded | go_step | go_upon | go_back | ((with_reducible show Oper.upon _ _ _ _ _ _); go_simp) | (dsimp only)))
      have hne9 : ∀ q, (Value.slice av fl.length cv).ownBlock = some q → w.heap.size + 3 ≤ q := fun q e => (hO3.lt q e).1
      have HS9 : (fun u => Below w.heap.size w u ∧ u.heap[w.heap.size]? = some (.cells iv.toArray 32 (0, 0)) ∧ u.heap[w.heap.size + 1]? = some (.cells rv.toArray 33 (0, 0)) ∧ u.heap[w.heap.size + 1 + 1]? = some (.cells #[.slice ia inp.length ic, .int .u64 r0, .int .u64 r1, .int .u64 r2, .int .u64 r3, .int .u64 r4, .int .u64 r5, .int .u64 r6, .int .u64 r7, vm] 27 (0, 0))) w9 := ⟨below_grown HS2.1 hg9 (fun q e => by have := hne9 q e; omega), keep_at hg9 HS2.2.1 (fun e => by have := hne9 _ e.symm; omega), keep_at hg9 HS2.2.2.1 (fun e => by have := hne9 _ e.symm; omega), keep_at hg9 HS2.2.2.2 (fun e => by have := hne9 _ e.symm; omega)⟩
      obtain ⟨a9, c9, rfl⟩ := ownsRow_shape hO9
      refine ⟨HS9, ?_⟩
      clear HSC
      have HSC := HS9
      (refine wpAnyH_take (i := 12) (v := .slice a9 (fl.length + l.length) c9) rfl (by kernel_rfl) (by kernel_rfl) (by kernel_rfl) (fun _ _ _ h => h) (Or.inl ⟨rfl, fun w _ => by go_simp⟩) HSC ?_; simp only [Act.put, qz1, qz2, qz3, qz4, qz5, qz6])
      refine wpAnyH_done (by kernel_rfl) ?_ _
      have HO9 := Lib.hid hO9
      clear HSC hO9 hg9 hl9 hO2 hO3 hsz2 hne9 HS2 hO hb2 HSAY1 HAT1
      (repeat (first | (with_reducible first | refine xA ?_ | refine xB ?_ | refine xC ?_ | refine xD ?_ | refine xH ?_ | refine xI rfl ?_ | refine xE ?_ | refine xF ?_ | refine xG ?_) | go_values | go_skip | go_guarded | go_step | go_upon | go_back | ((with_reducible show Oper.upon _ _ _ _ _ _); go_simp) | (dsimp only)))
      exact ⟨⟨k + 1, by omega, by go_num, Lib.hid (by rw [HF.out, List.length_append, sayL_len]; exact HO9.out), HS9⟩, by simp [intOf]; omega⟩
    · have hk16 : k = 16 := by omega
      have hfI : (frI I b.inp k).length ≤ k * 64 := frI_len fun l h => (HLL.out l (.inl h)).1
      obtain ⟨ai, hai⟩ : ∃ ai, frI I b.inp k = ai := ⟨_, rfl⟩
      have HAI := Lib.hid (show frI I b.inp 16 = ai by rw [← hai, hk16])
      rw [hai] at HO hfI
      have HFI := Lib.hid hfI
      have HK16 := Lib.hid hk16
      obtain ⟨av, cv, rfl⟩ := ownsRow_shape HO.out
      have hkn : ¬ ((k : Int) < 16) := by omega
      obtain ⟨q16, hq16⟩ : ∃ q16 : Int, (k : Int) = q16 := ⟨_, rfl⟩
      rw [hq16] at hkn ⊢
      clear hk hge hai hfI hk16 hq16
      (repeat (first | (with_reducible first | refine xA ?_ | refine xB ?_ | refine xC ?_ | refine xD ?_ | refine xH ?_ | refine xI rfl ?_ | refine xE ?_ | refine xF ?_ | refine xG ?_) | go_values | go_skip | go_guarded | go_step | go_upon | go_back | ((with_reducible show Oper.upon _ _ _ _ _ _); go_simp) | (dsimp only)))
      have HOI := Lib.hid (show wr.ownsRow (w.heap.size + 3) 3 1 (.slice av ai.length cv) (ai ++ frI R b.reg 0).length ((ai ++ frI R b.reg 0).map (Value.int .i64)) by
        have e : ai ++ frI R b.reg 0 = ai := by simp [frI]
        rw [e]; exact HO.out)
      go_loopw [7, 9] (fun v i wr => ∃ k : Nat, k ≤ 8 ∧ i = .int .i64 k ∧ Hid (wr.ownsRow (w.heap.size + 3) 3 1 v (ai ++ frI R b.reg k).length ((ai ++ frI R b.reg k).map (Value.int .i64))) ∧ (fun u => Below w.heap.size w u ∧ u.heap[w.heap.size]? = some (.cells iv.toArray 32 (0, 0)) ∧ u.heap[w.heap.size + 1]? = some (.cells rv.toArray 33 (0, 0)) ∧ u.heap[w.heap.size + 1 + 1]? = some (.cells #[.slice ia inp.length ic, .int .u64 r0, .int .u64 r1, .int .u64 r2, .int .u64 r3, .int .u64 r4, .int .u64 r5, .int .u64 r6, .int .u64 r7, vm] 27 (0, 0))) wr) (fun _ i _ => 8 - (intOf i).toNat)
      case atStart => exact ⟨0, Nat.zero_le _, rfl, HOI, hS⟩
      case round =>
        clear hS HO HOI
        obtain ⟨k, hk, rfl, HO, hS⟩ := hrel
        rcases Nat.lt_or_ge k 8 with hlt | hge
        · obtain ⟨vk, hv⟩ : ∃ vk, rv[k]? = some vk := ⟨_, List.getElem?_eq_getElem (by have := HRL.out; omega)⟩
          obtain ⟨l, hl⟩ : ∃ l, b.reg[k]? = some l := ⟨_, List.getElem?_eq_getElem (by have := HRL.out; have := HRV.out.1; omega)⟩
          have hsl := HRV.out.2 k vk l hv hl
          obtain ⟨ak, ck, rfl⟩ := hsl.shape
          have hlb := HLL.out l (.inr (List.mem_of_getElem? hl))
          have HF : Hid (ai ++ frI R b.reg (k + 1) = (ai ++ frI R b.reg k) ++ sayL l (R k)) := Lib.hid (by rw [frI_succ, List.getD_eq_getElem?_getD, hl, List.append_assoc]; rfl)
          have hfl2 : (frI R b.reg k).length ≤ k * 64 := frI_len fun l h => (HLL.out l (.inr h)).1
          have hCL : Hid ((ai ++ frI R b.reg k).length ≤ 2000) := Lib.hid (by have := HFI.out; rw [List.length_append]; have := HK16.out; omega)
          have hRk : (regL r0 r1 r2 r3 r4 r5 r6 r7).getD k 0 = (R k : Int) := by
            rw [HRe.out]
            unfold rgR
            have := HE.out.reg k
            omega
          have hRb : R k < 18446744073709551616 := by rw [HRe.out]; exact HE.out.R k
          obtain ⟨x, hx⟩ : ∃ x, R k = x := ⟨_, rfl⟩
          rw [hx] at hRk HF hRb
          have hge : (#[.slice ia inp.length ic, .int .u64 r0, .int .u64 r1, .int .u64 r2, .int .u64 r3, .int .u64 r4, .int .u64 r5, .int .u64 r6, .int .u64 r7, vm] : Array Value)[1 + k]? = some (.int .u64 (x : Int)) := by
            rw [← hRk]
            have h8 : k = 0 ∨ k = 1 ∨ k = 2 ∨ k = 3 ∨ k = 4 ∨ k = 5 ∨ k = 6 ∨ k = 7 := by omega
            rcases h8 with rfl | rfl | rfl | rfl | rfl | rfl | rfl | rfl <;> rfl
          have HSAY : Hid (∀ u : World, Below w.heap.size w u → Calls Tryz.prog 14 #[.slice ak l.length ck, .int .u64 (x : Int)] u fun e w' => ∃ v', e = .returned v' ∧ w'.ownsRow u.heap.size 3 1 v' l.length ((sayL l x).map (Value.int .i64)) ∧ Below u.heap.size u w') := Lib.hid (fun u hb => say_law _ l x u (hsl.kept (Kept.ofBelow hb)) (by omega) hRb hlb.2)
          have HCV : Hid (∀ u : World, (fun u => Below w.heap.size w u ∧ u.heap[w.heap.size]? = some (.cells iv.toArray 32 (0, 0)) ∧ u.heap[w.heap.size + 1]? = some (.cells rv.toArray 33 (0, 0)) ∧ u.heap[w.heap.size + 1 + 1]? = some (.cells #[.slice ia inp.length ic, .int .u64 r0, .int .u64 r1, .int .u64 r2, .int .u64 r3, .int .u64 r4, .int .u64 r5, .int .u64 r6, .int .u64 r7, vm] 27 (0, 0))) u → u.cell? ⟨w.heap.size + 1, k, none⟩ = some (.slice ak l.length ck)) := Lib.hid (fun u hu => (cell_of_row u (w.heap.size + 1) k _ _ _ hu.2.2.1).trans ((List.getElem?_toArray ..).trans hv))
          have HCI : Hid (∀ u : World, (fun u => Below w.heap.size w u ∧ u.heap[w.heap.size]? = some (.cells iv.toArray 32 (0, 0)) ∧ u.heap[w.heap.size + 1]? = some (.cells rv.toArray 33 (0, 0)) ∧ u.heap[w.heap.size + 1 + 1]? = some (.cells #[.slice ia inp.length ic, .int .u64 r0, .int .u64 r1, .int .u64 r2, .int .u64 r3, .int .u64 r4, .int .u64 r5, .int .u64 r6, .int .u64 r7, vm] 27 (0, 0))) u → u.cell? ⟨w.heap.size + 1 + 1, 1 + k, none⟩ = some (.int .u64 (x : Int))) := Lib.hid (fun u hu => (cell_of_row u (w.heap.size + 1 + 1) (1 + k) _ _ _ hu.2.2.2).trans hge)
          have i0 : (0 : Int) ≤ (k : Int) := by omega
          have i1 : (k : Int) < 8 := by omega
          have HLB := Lib.hid hlb
          obtain ⟨fl, hfl⟩ : ∃ fl, ai ++ frI R b.reg k = fl := ⟨_, rfl⟩
          rw [hfl] at HF hCL HO
          obtain ⟨av, cv, rfl⟩ := ownsRow_shape HO.out
          clear hsl hlb hv hl hx hRb hRk hfl hge hfl2
          (repeat (first | (with_reducible first | refine xA ?_ | refine xB ?_ | refine xC ?_ | refine xD ?_ | refine xH ?_ | refine xI rfl ?_ | refine xE ?_ | refine xF ?_ | refine xG ?_) | go_values | go_skip | go_guarded | go_step | go_upon | go_back | ((with_reducible show Oper.upon _ _ _ _ _ _); go_simp) | (dsimp only)))
          refine wp_region_held (S := fun u => Below w.heap.size w u ∧ u.heap[w.heap.size]? = some (.cells iv.toArray 32 (0, 0)) ∧ u.heap[w.heap.size + 1]? = some (.cells rv.toArray 33 (0, 0)) ∧ u.heap[w.heap.size + 1 + 1]? = some (.cells #[.slice ia inp.length ic, .int .u64 r0, .int .u64 r1, .int .u64 r2, .int .u64 r3, .int .u64 r4, .int .u64 r5, .int .u64 r6, .int .u64 r7, vm] 27 (0, 0))) (by kernel_rfl) ?_
          have HSC : (fun u => Below w.heap.size w u ∧ u.heap[w.heap.size]? = some (.cells iv.toArray 32 (0, 0)) ∧ u.heap[w.heap.size + 1]? = some (.cells rv.toArray 33 (0, 0)) ∧ u.heap[w.heap.size + 1 + 1]? = some (.cells #[.slice ia inp.length ic, .int .u64 r0, .int .u64 r1, .int .u64 r2, .int .u64 r3, .int .u64 r4, .int .u64 r5, .int .u64 r6, .int .u64 r7, vm] 27 (0, 0))) ({ wr with drawn := wr.drawn + 1 } : World) := ⟨hS.1.trans ⟨rfl, rfl, rfl, Nat.le_refl _, fun _ _ => rfl⟩, hS.2⟩
          have hO : ({ wr with drawn := wr.drawn + 1 } : World).ownsRow (w.heap.size + 3) 3 1 (.slice av fl.length cv) fl.length (fl.map (Value.int .i64)) := HO.out
          clear hS HO
          generalize ({ wr with drawn := wr.drawn + 1 } : World) = u0 at *
          (refine wpAnyH_take (i := 0) (v := .slice av fl.length cv) rfl (by kernel_rfl) (by kernel_rfl) (by kernel_rfl) (fun _ _ _ h => h) (Or.inl ⟨rfl, fun w _ => by go_simp⟩) HSC ?_; simp only [Act.put, qz1, qz2, qz3, qz4, qz5, qz6])
          (refine wpAnyH_take (i := 1) (v := .int .i64 k) rfl (by kernel_rfl) (by kernel_rfl) (by kernel_rfl) (fun _ _ _ h => h) (Or.inl ⟨rfl, fun w _ => by go_simp⟩) HSC ?_; simp only [Act.put, qz1, qz2, qz3, qz4, qz5, qz6])
          (refine wpAnyH_take (i := 2) (v := .pointer (some ⟨w.heap.size + 1, k, none⟩)) rfl (by kernel_rfl) (by kernel_rfl) (by kernel_rfl) (fun _ _ _ h => h) (Or.inl ⟨rfl, fun w _ => by go_simp⟩) HSC ?_; simp only [Act.put, qz1, qz2, qz3, qz4, qz5, qz6])
          (refine wpAnyH_take (i := 3) (v := .slice ak l.length ck) rfl (by kernel_rfl) (by kernel_rfl) (by kernel_rfl) (fun _ _ _ h => h) (Or.inl ⟨rfl, fun w hw => by have hx := HCV.out w hw; go_simp⟩) HSC ?_; simp only [Act.put, qz1, qz2, qz3, qz4, qz5, qz6])
          (refine wpAnyH_take (i := 4) (v := .int .i64 k) rfl (by kernel_rfl) (by kernel_rfl) (by kernel_rfl) (fun _ _ _ h => h) (Or.inl ⟨rfl, fun w _ => by go_simp⟩) HSC ?_; simp only [Act.put, qz1, qz2, qz3, qz4, qz5, qz6])
          (refine wpAnyH_take (i := 5) (v := .pointer (some ⟨w.heap.size + 1 + 1, 1, none⟩)) rfl (by kernel_rfl) (by kernel_rfl) (by kernel_rfl) (fun _ _ _ h => h) (Or.inl ⟨rfl, fun w _ => by go_simp⟩) HSC ?_; simp only [Act.put, qz1, qz2, qz3, qz4, qz5, qz6])
          (refine wpAnyH_take (i := 6) (v := .pointer (some ⟨w.heap.size + 1 + 1, 1 + k, none⟩)) rfl (by kernel_rfl) (by kernel_rfl) (by kernel_rfl) (fun _ _ _ h => h) (Or.inl ⟨rfl, fun w _ => by go_simp⟩) HSC ?_; simp only [Act.put, qz1, qz2, qz3, qz4, qz5, qz6])
          (refine wpAnyH_take (i := 7) (v := .int .u64 (x : Int)) rfl (by kernel_rfl) (by kernel_rfl) (by kernel_rfl) (fun _ _ _ h => h) (Or.inl ⟨rfl, fun w hw => by have hx := HCI.out w hw; go_simp⟩) HSC ?_; simp only [Act.put, qz1, qz2, qz3, qz4, qz5, qz6])
          refine wpAnyH_all (rs := [8]) (by kernel_rfl) (by simp) (fun i hi => ?_)
          obtain rfl : i = 8 := by simpa using hi
          refine wpOp_one rfl ?_
          have HSAY1 := Lib.hid (HSAY.out u0 HSC.1)
          (repeat (first | (with_reducible first | refine xA ?_ | refine xB ?_ | refine xC ?_ | refine xD ?_ | refine xH ?_ | refine xI rfl ?_ | refine xE ?_ | refine xF ?_ | refine xG ?_) | go_skip | go_guarded | (go_at_call 14; (with_reducible refine HSAY1.out.mono ?_); rintro _ u2 ⟨vs, rfl, hO2, hb2⟩) | go_values | go_skip | go_guarded | go_step | go_upon | go_back | ((with_reducible show Oper.upon _ _ _ _ _ _); go_simp) | (dsimp only)))
          have HS2 : (fun u => Below w.heap.size w u ∧ u.heap[w.heap.size]? = some (.cells iv.toArray 32 (0, 0)) ∧ u.heap[w.heap.size + 1]? = some (.cells rv.toArray 33 (0, 0)) ∧ u.heap[w.heap.size + 1 + 1]? = some (.cells #[.slice ia inp.length ic, .int .u64 r0, .int .u64 r1, .int .u64 r2, .int .u64 r3, .int .u64 r4, .int .u64 r5, .int .u64 r6, .int .u64 r7, vm] 27 (0, 0))) u2 := ⟨HSC.1.trans (hb2.mono HSC.1.size), (hb2.block _ (lt_of_block HSC.2.1)).trans HSC.2.1, (hb2.block _ (lt_of_block HSC.2.2.1)).trans HSC.2.2.1, (hb2.block _ (lt_of_block HSC.2.2.2)).trans HSC.2.2.2⟩
          have hO3 := owns_kept hO (Kept.ofBelow (X := fun _ => True) hb2) (fun _ _ => trivial)
          have hsz2 : w.heap.size + 3 ≤ u2.heap.size := lt_of_block HS2.2.2.2
          refine ⟨HS2, ?_⟩
          refine wpAnyH_all (rs := [9]) (by kernel_rfl) (by simp) (fun i hi => ?_)
          obtain rfl : i = 9 := by simpa using hi
          refine wpOp_one rfl ?_
          (repeat (first | (with_reducible first | refine xA ?_ | refine xB ?_ | refine xC ?_ | refine xD ?_ | refine xH ?_ | refine xI rfl ?_ | refine xE ?_ | refine xF ?_ | refine xG ?_) | go_skip | go_guarded | ((with_reducible refine wl_id ?_); refine wl_appendO rfl _ _ rfl (w.heap.size + 3) (.slice av fl.length cv) fl.length fl rfl hO3 u0.heap.size l.length vs (sayL l x) rfl hO2 (by have := hCL.out; have := HLB.out.1; omega) hsz2 ?_; intro v9 w9 hO9 hg9 hl9; (try simp only [Act.put, qz4, qz5, qz6])) | go_values | go_skip | go_guarded | go_step | go_upon | go_back | ((with_reducible show Oper.upon _ _ _ _ _ _); go_simp) | (dsimp only)))
          have hne9 : ∀ q, (Value.slice av fl.length cv).ownBlock = some q → w.heap.size + 3 ≤ q := fun q e => (hO3.lt q e).1
          have HS9 : (fun u => Below w.heap.size w u ∧ u.heap[w.heap.size]? = some (.cells iv.toArray 32 (0, 0)) ∧ u.heap[w.heap.size + 1]? = some (.cells rv.toArray 33 (0, 0)) ∧ u.heap[w.heap.size + 1 + 1]? = some (.cells #[.slice ia inp.length ic, .int .u64 r0, .int .u64 r1, .int .u64 r2, .int .u64 r3, .int .u64 r4, .int .u64 r5, .int .u64 r6, .int .u64 r7, vm] 27 (0, 0))) w9 := ⟨below_grown HS2.1 hg9 (fun q e => by have := hne9 q e; omega), keep_at hg9 HS2.2.1 (fun e => by have := hne9 _ e.symm; omega), keep_at hg9 HS2.2.2.1 (fun e => by have := hne9 _ e.symm; omega), keep_at hg9 HS2.2.2.2 (fun e => by have := hne9 _ e.symm; omega)⟩
          obtain ⟨a9, c9, rfl⟩ := ownsRow_shape hO9
          refine ⟨HS9, ?_⟩
          clear HSC
          have HSC := HS9
          (refine wpAnyH_take (i := 10) (v := .slice a9 (fl.length + l.length) c9) rfl (by kernel_rfl) (by kernel_rfl) (by kernel_rfl) (fun _ _ _ h => h) (Or.inl ⟨rfl, fun w _ => by go_simp⟩) HSC ?_; simp only [Act.put, qz1, qz2, qz3, qz4, qz5, qz6])
          refine wpAnyH_done (by kernel_rfl) ?_ _
          have HO9 := Lib.hid hO9
          clear HSC hO9 hg9 hl9 hO2 hO3 hsz2 hne9 HS2 hO hb2 HSAY1
          (repeat (first | (with_reducible first | refine xA ?_ | refine xB ?_ | refine xC ?_ | refine xD ?_ | refine xH ?_ | refine xI rfl ?_ | refine xE ?_ | refine xF ?_ | refine xG ?_) | go_values | go_skip | go_guarded | go_step | go_upon | go_back | ((with_reducible show Oper.upon _ _ _ _ _ _); go_simp) | (dsimp only)))
          exact ⟨⟨k + 1, by omega, by go_num, Lib.hid (by rw [HF.out, List.length_append, sayL_len]; exact HO9.out), HS9⟩, by simp [intOf]; omega⟩
        · have HFIN : Hid (ai ++ frI R b.reg k = frB I R b) := Lib.hid (by
            have e : k = 8 := by omega
            rw [e, ← HAI.out]
            rfl)
          obtain ⟨fl, hfl⟩ : ∃ fl, ai ++ frI R b.reg k = fl := ⟨_, rfl⟩
          rw [hfl] at HO HFIN
          have hkn8 : ¬ ((k : Int) < 8) := by omega
          obtain ⟨av, cv, rfl⟩ := ownsRow_shape HO.out
          clear hk hge hfl
          (repeat (first | (with_reducible first | refine xA ?_ | refine xB ?_ | refine xC ?_ | refine xD ?_ | refine xH ?_ | refine xI rfl ?_ | refine xE ?_ | refine xF ?_ | refine xG ?_) | go_values | go_skip | go_guarded | go_step | go_upon | go_back | ((with_reducible show Oper.upon _ _ _ _ _ _); go_simp) | (dsimp only)))
          go_ret
          rw [← HFIN.out]
          exact ⟨⟨_, rfl, HO.out⟩, hS.1⟩
end Go.Proofs.YtmaogkgjiplckaaGreat
namespace Go.Proofs.YtmaogkgjiplckaaGreat
open Go.RowKit
theorem flat_set_perm {l : List (List Int)} {i : Nat} {v : List Int} (hi : i < l.length) (h0 : l.getD i [] = []) : (l.set i v).flatten.Perm (l.flatten ++ v) := by
  induction l generalizing i with
  | nil => simp at hi
  | cons a l ih =>
    rcases i with _ | i
    · have e : a = [] := by simpa using h0
      subst e
      rw [List.set_cons_zero, List.flatten_cons, List.flatten_cons, List.nil_append]
      exact List.perm_append_comm
    · rw [List.set_cons_succ, List.flatten_cons, List.flatten_cons, List.append_assoc]
      exact (ih (by simpa using hi) (by simpa using h0)).append_left a
structure BD (b : BS) : Prop where
  nd : (b.inp.flatten ++ b.reg.flatten).Nodup
  rng : ∀ v ∈ b.inp.flatten ++ b.reg.flatten, 1 ≤ v ∧ v ≤ (b.g.n : Int)
theorem freeL_nd (n k : Nat) : (freeL n k).Nodup := by
  unfold freeL
  exact List.Pairwise.map _ (fun a b (h : a ≠ b) => by show ((n + 1 + a : Nat) : Int) ≠ ((n + 1 + b : Nat) : Int); omega) List.nodup_range
theorem freeL_rng {n k : Nat} : ∀ v ∈ freeL n k, (n : Int) + 1 ≤ v ∧ v ≤ ((n + k : Nat) : Int) := by
  intro v hv
  unfold freeL at hv
  obtain ⟨i, hi, rfl⟩ := List.mem_map.1 hv
  rw [List.mem_range] at hi
  omega
theorem bd_more {b : BS} (h : BD b) {k : Nat} {fl : List Int} (hp : fl.Perm ((b.inp.flatten ++ b.reg.flatten) ++ freeL b.g.n k)) : fl.Nodup ∧ ∀ v ∈ fl, 1 ≤ v ∧ v ≤ ((b.g.n + k : Nat) : Int) := by
  refine ⟨hp.nodup_iff.2 (List.nodup_append.2 ⟨h.nd, freeL_nd _ _, ?_⟩), fun v hv => ?_⟩
  · intro x hx y hy e
    have := (h.rng x hx).2
    have := (freeL_rng y hy).1
    omega
  · rcases List.mem_append.1 (hp.mem_iff.1 hv) with hx | hx
    · have := h.rng v hx; omega
    · have := freeL_rng v hx; omega
theorem perm_mid {a b c : List Int} : (a ++ c ++ b).Perm (a ++ b ++ c) := by
  rw [List.append_assoc, List.append_assoc]
  exact List.perm_append_comm.append_left a
theorem bword_rest {b : BS} {d : Nd} (h1 : d.op ≠ 1) (h2 : d.op ≠ 2) : (bword b d).1.inp = b.inp ∧ (bword b d).1.reg = b.reg := by
  unfold bword
  by_cases h0 : d.op = 0
  · rw [if_pos h0]; exact ⟨rfl, rfl⟩
  rw [if_neg h0, if_neg h1, if_neg h2]
  by_cases h6 : d.op = 6
  · rw [if_pos h6]; exact ⟨rfl, rfl⟩
  rw [if_neg h6]
  by_cases h7 : d.op = 7
  · rw [if_pos h7]; exact ⟨rfl, rfl⟩
  rw [if_neg h7]
  by_cases h22 : d.op = 22
  · rw [if_pos h22]; exact ⟨rfl, rfl⟩
  · rw [if_neg h22]; exact ⟨rfl, rfl⟩
theorem bd_word {b : BS} (h : BD b) (hil : b.inp.length = 16) (hrl : b.reg.length = 8) (d : Nd) (hg : b.g.n ≤ (bword b d).1.g.n) (hn1 : d.op = 1 → 0 ≤ d.n ∧ d.n < 16) (hn2 : d.op = 2 → 0 ≤ d.n ∧ d.n < 8) : BD (.push (bword b d)) := by
  have same : (bword b d).1.inp = b.inp → (bword b d).1.reg = b.reg → BD (.push (bword b d)) := fun e1 e2 => by
    refine ⟨?_, ?_⟩
    · show ((bword b d).1.inp.flatten ++ (bword b d).1.reg.flatten).Nodup
      rw [e1, e2]; exact h.nd
    · show ∀ v ∈ (bword b d).1.inp.flatten ++ (bword b d).1.reg.flatten, 1 ≤ v ∧ v ≤ ((bword b d).1.g.n : Int)
      rw [e1, e2]
      intro v hv
      have := h.rng v hv
      omega
  by_cases h1 : d.op = 1
  · have hb := hn1 h1
    by_cases h0 : b.inp.getD d.n.toNat [] = []
    · have e : bword b d = (⟨addV b.g 8, b.ws, b.inp.set d.n.toNat (freeL b.g.n 8), b.reg⟩, freeL b.g.n 8) := by unfold bword; rw [if_neg (by omega), if_pos h1, if_pos h0]
      rw [e]
      obtain ⟨p1, p2⟩ := bd_more h (k := 8) (fl := (b.inp.set d.n.toNat (freeL b.g.n 8)).flatten ++ b.reg.flatten) (((flat_set_perm (by rw [hil]; omega) h0).append_right _).trans perm_mid)
      exact ⟨p1, p2⟩
    · exact same (by unfold bword; rw [if_neg (by omega), if_pos h1, if_neg h0]) (by unfold bword; rw [if_neg (by omega), if_pos h1, if_neg h0])
  by_cases h2 : d.op = 2
  · have hb := hn2 h2
    by_cases h0 : b.reg.getD d.n.toNat [] = []
    · have e : bword b d = (⟨addV b.g 64, b.ws, b.inp, b.reg.set d.n.toNat (freeL b.g.n 64)⟩, freeL b.g.n 64) := by unfold bword; rw [if_neg (by omega), if_neg (by omega), if_pos h2, if_pos h0]
      rw [e]
      obtain ⟨p1, p2⟩ := bd_more h (k := 64) (fl := b.inp.flatten ++ (b.reg.set d.n.toNat (freeL b.g.n 64)).flatten) (by
        rw [List.append_assoc]
        exact (flat_set_perm (by rw [hrl]; omega) h0).append_left _)
      exact ⟨p1, p2⟩
    · exact same (by unfold bword; rw [if_neg (by omega), if_neg (by omega), if_pos h2, if_neg h0]) (by unfold bword; rw [if_neg (by omega), if_neg (by omega), if_pos h2, if_neg h0])
  · exact same (bword_rest h1 h2).1 (bword_rest h1 h2).2
theorem leaf_has {b : BS} (d : Nd) (hil : b.inp.length = 16) (hrl : b.reg.length = 8) (hn1 : d.op = 1 → 0 ≤ d.n ∧ d.n < 16) (hn2 : d.op = 2 → 0 ≤ d.n ∧ d.n < 8) :
    (∀ i, i < 16 → (((bword b d).1.inp.getD i [] = []) ↔ (b.inp.getD i [] = [] ∧ hasB 1 i d = false))) ∧ ∀ i, i < 8 → (((bword b d).1.reg.getD i [] = []) ↔ (b.reg.getD i [] = [] ∧ hasB 2 i d = false)) := by
  have f8 : freeL b.g.n 8 ≠ [] := fun e => by have := freeL_len b.g.n 8; rw [e] at this; cases this
  have f64 : freeL b.g.n 64 ≠ [] := fun e => by have := freeL_len b.g.n 64; rw [e] at this; cases this
  have hb : ∀ (op : Int) (i : Nat), hasB op i d = false ↔ ¬ (d.op = op ∧ d.n = i) := fun op i => by
    unfold hasB
    rw [Bool.and_eq_false_iff, beq_eq_false_iff_ne, beq_eq_false_iff_ne]
    omega
  have same : (bword b d).1.inp = b.inp → (bword b d).1.reg = b.reg → (d.op = 1 → b.inp.getD d.n.toNat [] ≠ []) → (d.op = 2 → b.reg.getD d.n.toNat [] ≠ []) → _ := fun e1 e2 k1 k2 => (show
    (∀ i, i < 16 → (((bword b d).1.inp.getD i [] = []) ↔ (b.inp.getD i [] = [] ∧ hasB 1 i d = false))) ∧ ∀ i, i < 8 → (((bword b d).1.reg.getD i [] = []) ↔ (b.reg.getD i [] = [] ∧ hasB 2 i d = false)) by
      rw [e1, e2]
      refine ⟨fun i hi => ⟨fun h => ⟨h, (hb 1 i).2 fun e => k1 e.1 (by rw [e.2, Int.toNat_natCast]; exact h)⟩, fun h => h.1⟩, fun i hi => ⟨fun h => ⟨h, (hb 2 i).2 fun e => k2 e.1 (by rw [e.2, Int.toNat_natCast]; exact h)⟩, fun h => h.1⟩⟩)
  by_cases h1 : d.op = 1
  · have hbd := hn1 h1
    by_cases h0 : b.inp.getD d.n.toNat [] = []
    · have e : bword b d = (⟨addV b.g 8, b.ws, b.inp.set d.n.toNat (freeL b.g.n 8), b.reg⟩, freeL b.g.n 8) := by unfold bword; rw [if_neg (by omega), if_pos h1, if_pos h0]
      rw [e]
      refine ⟨fun i hi => ?_, fun i hi => ⟨fun h => ⟨h, (hb 2 i).2 (by omega)⟩, fun h => h.1⟩⟩
      show (b.inp.set d.n.toNat (freeL b.g.n 8)).getD i [] = [] ↔ _
      by_cases ei : d.n.toNat = i
      · subst ei
        rw [getD_set_self _ (by rw [hil]; omega)]
        exact ⟨fun h => absurd h f8, fun h => absurd ⟨h1, by omega⟩ ((hb 1 _).1 h.2)⟩
      · rw [getD_set_ne _ ei]
        exact ⟨fun h => ⟨h, (hb 1 i).2 (by omega)⟩, fun h => h.1⟩
    · exact same (by unfold bword; rw [if_neg (by omega), if_pos h1, if_neg h0]) (by unfold bword; rw [if_neg (by omega), if_pos h1, if_neg h0]) (fun _ => h0) (by omega)
  by_cases h2 : d.op = 2
  · have hbd := hn2 h2
    by_cases h0 : b.reg.getD d.n.toNat [] = []
    · have e : bword b d = (⟨addV b.g 64, b.ws, b.inp, b.reg.set d.n.toNat (freeL b.g.n 64)⟩, freeL b.g.n 64) := by unfold bword; rw [if_neg (by omega), if_neg (by omega), if_pos h2, if_pos h0]
      rw [e]
      refine ⟨fun i hi => ⟨fun h => ⟨h, (hb 1 i).2 (by omega)⟩, fun h => h.1⟩, fun i hi => ?_⟩
      show (b.reg.set d.n.toNat (freeL b.g.n 64)).getD i [] = [] ↔ _
      by_cases ei : d.n.toNat = i
      · subst ei
        rw [getD_set_self _ (by rw [hrl]; omega)]
        exact ⟨fun h => absurd h f64, fun h => absurd ⟨h2, by omega⟩ ((hb 2 _).1 h.2)⟩
      · rw [getD_set_ne _ ei]
        exact ⟨fun h => ⟨h, (hb 2 i).2 (by omega)⟩, fun h => h.1⟩
    · exact same (by unfold bword; rw [if_neg (by omega), if_neg (by omega), if_pos h2, if_neg h0]) (by unfold bword; rw [if_neg (by omega), if_neg (by omega), if_pos h2, if_neg h0]) (by omega) (fun _ => h0)
  · exact same (bword_rest h1 h2).1 (bword_rest h1 h2).2 (fun e => absurd e h1) (fun e => absurd e h2)
structure BLv (ls : List Nd) (k : Nat) (b : BS) : Prop where
  d : BD b
  hi : ∀ i, i < 16 → ((b.inp.getD i [] = []) ↔ (ls.take k).any (hasB 1 i) = false)
  hr : ∀ i, i < 8 → ((b.reg.getD i [] = []) ↔ (ls.take k).any (hasB 2 i) = false)
theorem leaves_ok {ls : List Nd} (hT : TF ls) : ∀ k, k ≤ ls.length → BLv ls k (bK ls k) := by
  intro k
  induction k with
  | zero =>
    intro _
    refine ⟨⟨show ((List.replicate 16 ([] : List Int)).flatten ++ (List.replicate 8 ([] : List Int)).flatten).Nodup by decide, fun v hv => by simp [bK, bs0] at hv⟩, fun i hi => ?_, fun i hi => ?_⟩
    · have e : (bK ls 0).inp.getD i [] = [] := by
        show (List.replicate 16 ([] : List Int)).getD i [] = []
        rw [List.getD_eq_getElem?_getD, List.getElem?_replicate, if_pos hi]; rfl
      rw [e]; simp
    · have e : (bK ls 0).reg.getD i [] = [] := by
        show (List.replicate 8 ([] : List Int)).getD i [] = []
        rw [List.getD_eq_getElem?_getD, List.getElem?_replicate, if_pos hi]; rfl
      rw [e]; simp
  | succ k ih =>
    intro hk
    have h := ih (by omega)
    have hd := List.getElem?_eq_getElem (show k < ls.length by omega)
    obtain ⟨s, hs⟩ := blast_ok (I := fun _ => 0) (R := fun _ => 0) hT (fun _ => by decide) (fun _ => by decide) k (by omega)
    obtain ⟨s', hst⟩ := step_ok hT hs hd (fun _ => by decide) (fun _ => by decide)
    have hn1 : ls[k].op = 1 → 0 ≤ ls[k].n ∧ ls[k].n < 16 := fun e => by
      cases hT k _ hd <;> first | omega | exact ⟨by assumption, by assumption⟩
    have hn2 : ls[k].op = 2 → 0 ≤ ls[k].n ∧ ls[k].n < 8 := fun e => by
      cases hT k _ hd <;> first | omega | exact ⟨by assumption, by assumption⟩
    have e : bK ls (k + 1) = .push (bword (bK ls k) ls[k]) := by rw [bK, hd]
    obtain ⟨l1, l2⟩ := leaf_has ls[k] hs.il hs.rl hn1 hn2
    rw [e]
    refine ⟨bd_word h.d hs.il hs.rl _ hst.st.le hn1 hn2, fun i hi => ?_, fun i hi => ?_⟩
    · show ((bword (bK ls k) ls[k]).1.inp.getD i [] = []) ↔ _
      rw [l1 i hi, h.hi i hi, List.take_add_one, hd, List.any_append, Bool.or_eq_false_iff]
      simp
    · show ((bword (bK ls k) ls[k]).1.reg.getD i [] = []) ↔ _
      rw [l2 i hi, h.hr i hi, List.take_add_one, hd, List.any_append, Bool.or_eq_false_iff]
      simp
end Go.Proofs.YtmaogkgjiplckaaGreat

