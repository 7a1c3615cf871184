import Derived.Test.YtmaogkgjiplckaaGreatQW10
import Derived.Test.YtmaogkgjiplckaaGreatQW4
import Derived.Test.YtmaogkgjiplckaaGreatQW9
import Derived.Deep.Slices
import Derived.Lib.SmallJoins
import Derived.OpenShut
import Derived.Deep.Strs
set_option linter.unusedVariables false
set_option linter.unusedSimpArgs false
namespace Go.Proofs.YtmaogkgjiplckaaGreat
open Go.RowKit
theorem right50_any (op wd n k0 k1 k2 : Int) (v : Value) (ls : List Nd) (w : World) (h : SlIs 6 Nd.cells w v ls) (hn : 0 ≤ n) (hn' : n < 18446744073709551616) (hw : ∀ d ∈ ls, 0 ≤ d.w) :
    Calls Tryz.prog 51 #[.agg #[.int .i64 op, .int .i64 wd, .int .u64 n, .int .i64 k0, .int .i64 k1, .int .i64 k2], v] w fun e w' =>
      e = .returned (.int .i64 (rightE ⟨op, wd, n, k0, k1, k2⟩ ls)) ∧ Below w.heap.size w w' := by
  rcases h.cases with ⟨ao, cap, rfl, rfl⟩ | ⟨b, o, cap, rfl, _, HR⟩
  · rcases kidsI_bd op with hk | hk | hk | hk
    · exact rrightn_0 op wd n k0 k1 k2 ao cap w hk hn hn' (by simp)
    · exact rrightn_1 op wd n k0 k1 k2 ao cap w hk
    · exact rrightn_2 op wd n k0 k1 k2 ao cap w hk
    · exact rrightn_3 op wd n k0 k1 k2 ao cap w hk
  · rcases kidsI_bd op with hk | hk | hk | hk
    · exact rright_0 op wd n k0 k1 k2 b o cap ls w hk HR hn hn' hw
    · exact rright_1 op wd n k0 k1 k2 b o cap ls w hk HR hn hn' hw
    · exact rright_2 op wd n k0 k1 k2 b o cap ls w hk HR hn hn' hw
    · exact rright_3 op wd n k0 k1 k2 b o cap ls w hk HR hn hn' hw
theorem right_w {d : Nd} {ls : List Nd} (h : rightE d ls = 0) (hw : ∀ e ∈ ls, 0 ≤ e.w) : 0 ≤ d.w := by
  unfold rightE at h
  split at h
  · cases h
  · rename_i ho
    split at h
    · cases h
    · rename_i a b c hk
      split at h
      · rename_i hwd
        have hab : 0 ≤ a ∧ 0 ≤ b := by
          unfold kidsR at hk
          have kn : ∀ j K x, kidW (kidsI d.op) j K ls = some x → 0 ≤ x := by
            intro j K x hx
            unfold kidW at hx
            split at hx
            · split at hx
              · injection hx with hx; omega
              · cases hx
            · split at hx
              · cases hx
              · injection hx with hx; rw [← hx]; exact wAt_nn hw _
          split at hk
          · rename_i x y z hx hy hz
            injection hk with hk
            injection hk with h1 h2
            injection h2 with h2 h3
            subst h1; subst h2
            exact ⟨kn _ _ _ hx, kn _ _ _ hy⟩
          · cases hk
        exact ((wide_iff (by omega) (by omega) hab.1 hab.2).2 hwd).2
      · cases h
end Go.Proofs.YtmaogkgjiplckaaGreat
namespace Go.Proofs.YtmaogkgjiplckaaGreat
open Go.RowKit
theorem right50_anyX (op wd n k0 k1 k2 : Int) (v : Value) (ls : List Nd) (w : World) (h : SlIs 6 Nd.cells w v ls) (hn : 0 ≤ n) (hn' : n < 18446744073709551616) (hw : ∀ d ∈ ls, 0 ≤ d.w) (E : Int) (hE : Hid (E = rightE ⟨op, wd, n, k0, k1, k2⟩ ls)) :
    Calls Tryz.prog 51 #[.agg #[.int .i64 op, .int .i64 wd, .int .u64 n, .int .i64 k0, .int .i64 k1, .int .i64 k2], v] w fun e w' => e = .returned (.int .i64 E) ∧ Below w.heap.size w w' := by
  rw [hE.out]; exact right50_any op wd n k0 k1 k2 v ls w h hn hn' hw
theorem take_w {ls : List Nd} {k : Nat} {d : Nd} (h : ls[k]? = some d) (hw : ∀ e ∈ ls.take k, 0 ≤ e.w) (hE : rightE d (ls.take k) = 0) : ∀ e ∈ ls.take (k + 1), 0 ≤ e.w := by
  intro e he
  rw [List.take_add_one, h] at he
  simp only [Option.toList_some, List.mem_append, List.mem_singleton] at he
  rcases he with he | rfl
  · exact hw e he
  · exact right_w hE hw
set_option maxHeartbeats 1000000 in
theorem rcheck_any (ls : List Nd) (v : Value) (w : World) (h : SlIs 6 Nd.cells w v ls) (hwf : ∀ d ∈ ls, NdWf d) :
    Calls Tryz.prog 28 #[v] w fun e w' => e = .returned (.tuple #[.int .i64 (tchk ls).1, .int .i64 (tchk ls).2]) ∧ Below w.heap.size w w' := by
  rcases h.cases with ⟨ao, cap, rfl, rfl⟩ | ⟨b, off, cap, rfl, hne, HR0⟩
  · go_enter Tryz.func28, Tryz.ntmps28
    (repeat (first | (with_reducible first | refine xA ?_ | refine xB ?_ | refine xC ?_ | refine xD ?_ | refine xH ?_ | refine xI rfl ?_ | refine xE ?_ | refine xF ?_ | refine xG ?_) | go_values | go_skip | go_guarded | go_step | go_upon | go_back | ((with_reducible show Oper.upon _ _ _ _ _ _); go_simp) | (dsimp only)))
    go_ret2
    exact ⟨rfl, by (repeat (first | with_reducible exact Below.refl _ _ | assumption | with_reducible refine below_drewN ?_ _ | with_reducible refine Below.drew ?_ | with_reducible refine Below.setRow ?_ ?_ _ | with_reducible refine Below.alloc ?_ ?_ _ | with_reducible refine Below.setCell ?_ ?_ _ | with_reducible exact Nat.le_refl _ | (focus (simp; done)) | (focus (simp; omega)) | omega))⟩
  have hcap : ls.length ≤ cap := by
    obtain ⟨_, _, e, hc, _⟩ := h
    injection e with e1 e2 e3
    omega
  have hl0 : ((ls.length : Int) == 0) = false := by
    have := List.length_pos_iff.2 hne
    simpa using hne
  have Ht : Hid (tchk ls = chk (ls.take 0) (ls.drop 0)) := Lib.hid (by unfold tchk; rw [if_neg hne]; rfl)
  have Hwf := Lib.hid hwf
  clear hwf
  go_enter Tryz.func28, Tryz.ntmps28
  (repeat (first | (with_reducible first | refine xA ?_ | refine xB ?_ | refine xC ?_ | refine xD ?_ | refine xH ?_ | refine xI rfl ?_ | refine xE ?_ | refine xF ?_ | refine xG ?_) | go_values | go_skip | go_guarded | go_step | go_upon | go_back | ((with_reducible show Oper.upon _ _ _ _ _ _); go_simp) | (dsimp only)))
  go_loopw [4] (fun i wr => ∃ k : Nat, k ≤ ls.length ∧ k ≤ 65536 ∧ Hid (∀ d ∈ ls.take k, 0 ≤ d.w) ∧ Hid (tchk ls = chk (ls.take k) (ls.drop k)) ∧ i = .int .i64 k ∧ Below w.heap.size w wr) (fun i _ => ls.length - (intOf i).toNat)
  case atStart => exact ⟨0, by omega, by omega, Lib.hid (by simp), Ht, rfl, Below.refl _ _⟩
  case round =>
    clear Ht
    obtain ⟨k, hk, hkM, hwk, Ht, rfl, HB⟩ := hrel
    have HR := HR0.below HB
    have hsz := HB.size
    rcases Nat.lt_or_ge k ls.length with hlt | hge
    · obtain ⟨d, hd⟩ : ∃ d, ls[k]? = some d := ⟨_, List.getElem?_eq_getElem hlt⟩
      have hi := Lib.hid hd
      have hwd := Hwf.out d (List.mem_of_getElem? hd)
      have hd0 := hwd.2.2.1.1
      have hd1 := hwd.2.2.1.2
      have hst := chk_step hd
      clear hwd hd
      obtain ⟨E, hE⟩ : ∃ E, Hid (E = rightE d (ls.take k)) := ⟨_, Lib.hid rfl⟩
      rw [← hE.out] at hst
      by_cases hM : k = 65536
      · have fM : ((k : Int) == 65536) = true := by simp; omega
        rw [if_pos hM] at hst
        have Hst := Lib.hid (Ht.out.trans hst)
        have HM := Lib.hid hM
        clear hst hM
        (repeat (first | (with_reducible first | refine xA ?_ | refine xB ?_ | refine xC ?_ | refine xD ?_ | refine xH ?_ | refine xI rfl ?_ | refine xE ?_ | refine xF ?_ | refine xG ?_) | go_skip | go_guarded | ((with_reducible refine wl_id ?_); refine wl_ldNdA HR (by (repeat (first | with_reducible exact Below.refl _ _ | assumption | with_reducible refine below_drewN ?_ _ | with_reducible refine Below.drew ?_ | with_reducible refine Below.setRow ?_ ?_ _ | with_reducible refine Below.alloc ?_ ?_ _ | with_reducible refine Below.setCell ?_ ?_ _ | with_reducible exact Nat.le_refl _ | (focus (simp; done)) | (focus (simp; omega)) | omega))) k _ hi rfl _ rfl rfl ?_; simp only [Act.put, qz4, qz5, qz6]; (try dsimp only)) | go_values | go_skip | go_guarded | go_step | go_upon | go_back | ((with_reducible show Oper.upon _ _ _ _ _ _); go_simp) | (dsimp only)))
        go_ret2
        exact ⟨by rw [Hst.out]; simp [HM.out], by (repeat (first | with_reducible exact Below.refl _ _ | assumption | with_reducible refine below_drewN ?_ _ | with_reducible refine Below.drew ?_ | with_reducible refine Below.setRow ?_ ?_ _ | with_reducible refine Below.alloc ?_ ?_ _ | with_reducible refine Below.setCell ?_ ?_ _ | with_reducible exact Nat.le_refl _ | (focus (simp; done)) | (focus (simp; omega)) | omega))⟩
      · have fM : ((k : Int) == 65536) = false := by simp; omega
        have HM := Lib.hid hM
        rw [if_neg hM] at hst
        clear hM
        (repeat (first | (with_reducible first | refine xA ?_ | refine xB ?_ | refine xC ?_ | refine xD ?_ | refine xH ?_ | refine xI rfl ?_ | refine xE ?_ | refine xF ?_ | refine xG ?_) | go_skip | go_guarded | ((with_reducible refine wl_id ?_); refine wl_ldNdA HR (by (repeat (first | with_reducible exact Below.refl _ _ | assumption | with_reducible refine below_drewN ?_ _ | with_reducible refine Below.drew ?_ | with_reducible refine Below.setRow ?_ ?_ _ | with_reducible refine Below.alloc ?_ ?_ _ | with_reducible refine Below.setCell ?_ ?_ _ | with_reducible exact Nat.le_refl _ | (focus (simp; done)) | (focus (simp; omega)) | omega))) k _ hi rfl _ rfl rfl ?_; simp only [Act.put, qz4, qz5, qz6]; (try dsimp only)) | go_values | go_skip | go_guarded | go_step | go_upon | go_back | ((with_reducible show Oper.upon _ _ _ _ _ _); go_simp) | (dsimp only)))
        refine wp_abs (fun u => Below w.heap.size w u ∧ RowAt 6 Nd.cells u b off ls) ⟨by (repeat (first | with_reducible exact Below.refl _ _ | assumption | with_reducible refine below_drewN ?_ _ | with_reducible refine Below.drew ?_ | with_reducible refine Below.setRow ?_ ?_ _ | with_reducible refine Below.alloc ?_ ?_ _ | with_reducible refine Below.setCell ?_ ?_ _ | with_reducible exact Nat.le_refl _ | (focus (simp; done)) | (focus (simp; omega)) | omega)), HR.below (by (repeat (first | with_reducible exact Below.refl _ _ | assumption | with_reducible refine below_drewN ?_ _ | with_reducible refine Below.drew ?_ | with_reducible refine Below.setRow ?_ ?_ _ | with_reducible refine Below.alloc ?_ ?_ _ | with_reducible refine Below.setCell ?_ ?_ _ | with_reducible exact Nat.le_refl _ | (focus (simp; done)) | (focus (simp; omega)) | omega)))⟩ ?_
        rintro w9 ⟨HB9, HR9⟩
        have HR := HR9
        have hS := SlIs.take HR9 hcap hk
        have hE' : Hid (E = rightE ⟨d.op, d.w, d.n, d.k0, d.k1, d.k2⟩ (ls.take k)) := hE
        have hkc : (k : Int) ≤ cap := by omega
        by_cases hz : E = 0
        · have fz : (E != 0) = false := by simp [hz]
          rw [if_neg (by simp [hz])] at hst
          have Hst := Lib.hid (Ht.out.trans hst)
          have HZ := Lib.hid hz
          clear hst hz
          refine wp_region_cls (by kernel_rfl) (by kernel_rfl) ?_
          (repeat (first | go_big_quiet_skip | (go_big_quiet_want; first | (refine quiet_ldNd HX 0 _ rfl _ rfl rfl ?_; simp only [Act.put, qz4, qz5, qz6]; (try dsimp only); go_big_quiet_on) | (refine quiet_ldNdA HR k _ hi _ rfl rfl ?_; simp only [Act.put, qz4, qz5, qz6]; go_big_quiet_on) | (go_big_quiet_op; first | go_big_quiet_on | (refine Exists.intro _ (And.intro (fun _ _ => rfl) ?_); go_big_quiet_on) | go_big_quiet_call (((intro hC; replace hC : Below _ _ _ := hC); (go_at_call 51; (with_reducible refine (right50_anyX _ _ _ _ _ _ _ _ _ (hS.below hC) hd0 hd1 hwk.out _ hE).mono ?_); (rintro e w2 ⟨rfl, hb⟩; exact ⟨rfl, hC.trans (hb.mono hC.size)⟩))))))))
          refine wpQuiet_nil ?_
          intro w8 hb
          replace hb : Below _ _ _ := hb
          replace HB9 := HB9.trans (hb.mono HB9.size)
          clear hb
          (repeat (first | (with_reducible first | refine xA ?_ | refine xB ?_ | refine xC ?_ | refine xD ?_ | refine xH ?_ | refine xI rfl ?_ | refine xE ?_ | refine xF ?_ | refine xG ?_) | go_values | go_skip | go_guarded | go_step | go_upon | go_back | ((with_reducible show Oper.upon _ _ _ _ _ _); go_simp) | (dsimp only)))
          exact ⟨⟨k + 1, by omega, by have := HM.out; omega, Lib.hid (take_w hi.out hwk.out (by rw [← hE.out]; exact HZ.out)), Hst, by go_num, HB9⟩, by simp [intOf]; omega⟩
        · have fz : (E != 0) = true := by simpa using hz
          rw [if_pos hz] at hst
          have Hst := Lib.hid (Ht.out.trans hst)
          clear hst hz
          refine wp_region_cls (by kernel_rfl) (by kernel_rfl) ?_
          (repeat (first | go_big_quiet_skip | (go_big_quiet_want; first | (refine quiet_ldNd HX 0 _ rfl _ rfl rfl ?_; simp only [Act.put, qz4, qz5, qz6]; (try dsimp only); go_big_quiet_on) | (refine quiet_ldNdA HR k _ hi _ rfl rfl ?_; simp only [Act.put, qz4, qz5, qz6]; go_big_quiet_on) | (go_big_quiet_op; first | go_big_quiet_on | (refine Exists.intro _ (And.intro (fun _ _ => rfl) ?_); go_big_quiet_on) | go_big_quiet_call (((intro hC; replace hC : Below _ _ _ := hC); (go_at_call 51; (with_reducible refine (right50_anyX _ _ _ _ _ _ _ _ _ (hS.below hC) hd0 hd1 hwk.out _ hE).mono ?_); (rintro e w2 ⟨rfl, hb⟩; exact ⟨rfl, hC.trans (hb.mono hC.size)⟩))))))))
          refine wpQuiet_nil ?_
          intro w8 hb
          replace hb : Below _ _ _ := hb
          replace HB9 := HB9.trans (hb.mono HB9.size)
          clear hb
          (repeat (first | (with_reducible first | refine xA ?_ | refine xB ?_ | refine xC ?_ | refine xD ?_ | refine xH ?_ | refine xI rfl ?_ | refine xE ?_ | refine xF ?_ | refine xG ?_) | go_values | go_skip | go_guarded | go_step | go_upon | go_back | ((with_reducible show Oper.upon _ _ _ _ _ _); go_simp) | (dsimp only)))
          go_ret2
          exact ⟨by rw [Hst.out]; rfl, HB9⟩
    · (repeat (first | (with_reducible first | refine xA ?_ | refine xB ?_ | refine xC ?_ | refine xD ?_ | refine xH ?_ | refine xI rfl ?_ | refine xE ?_ | refine xF ?_ | refine xG ?_) | go_values | go_skip | go_guarded | go_step | go_upon | go_back | ((with_reducible show Oper.upon _ _ _ _ _ _); go_simp) | (dsimp only)))
      go_ret2
      exact ⟨by rw [Ht.out, List.drop_eq_nil_of_le hge]; rfl, HB⟩
end Go.Proofs.YtmaogkgjiplckaaGreat
namespace Go.Proofs.YtmaogkgjiplckaaGreat
open Go.RowKit
set_option maxRecDepth 100000 in
set_option maxHeartbeats 2000000 in
theorem of7_any {r0 r1 r2 r3 r4 r5 r6 r7 : Int} {vl vi vm : Value} {w : World} (inp : List Int) (hE : EnvWf inp (regL r0 r1 r2 r3 r4 r5 r6 r7)) (hi : SlIs 1 u8c w vi inp) (ls : List Nd) (hl : SlIs 6 Nd.cells w vl ls) (hll : ls.length ≤ 1000000) (hT : TF ls) (hwf : ∀ d ∈ ls, NdWf d) (hc : (tchk ls).1 = 0) (hne : ls ≠ [])
    (I R : Nat → Nat) (hI : I = inI inp) (hR : R = rgR (regL r0 r1 r2 r3 r4 r5 r6 r7)) (V : Nat) (hV : Hid ((vK I R ls ls.length).getD (ls.length - 1) 0 = V)) :
    Calls Tryz.prog 13 #[vl, .agg #[vi, .int .u64 r0, .int .u64 r1, .int .u64 r2, .int .u64 r3, .int .u64 r4, .int .u64 r5, .int .u64 r6, .int .u64 r7, vm]] w fun e w' => e = .returned (.tuple #[.int .u64 (V : Int), .int .i64 0]) ∧ Below w.heap.size w w' := by
  have hpos := List.length_pos_iff.2 hne
  have HCH : Hid (∀ u : World, Below w.heap.size w u → Calls Tryz.prog 28 #[vl] u fun e w' => e = .returned (.tuple #[.int .i64 0, .int .i64 (tchk ls).2]) ∧ Below u.heap.size u w') := Lib.hid (fun u hb => by
    have := rcheck_any ls vl u (hl.below hb) hwf
    rw [hc] at this
    exact this)
  generalize (tchk ls).2 = E2 at HCH
  have HVA : Hid (∀ u : World, Below w.heap.size w u → Calls Tryz.prog 36 #[vl, .agg #[vi, .int .u64 r0, .int .u64 r1, .int .u64 r2, .int .u64 r3, .int .u64 r4, .int .u64 r5, .int .u64 r6, .int .u64 r7, vm]] u fun e w' => (∃ v, e = .returned v ∧ w'.ownsRow (u.heap.size + 1) 24 1 v ls.length (n64s (vK I R ls ls.length))) ∧ Below u.heap.size u w') := Lib.hid (fun u hb => values_any inp hE (hi.below hb) ls (hl.below hb) hll hT I R hI hR)
  have hvl := vK_len (I := I) (R := R) (ls := ls) ls.length (Nat.le_refl _)
  have hd := List.getElem?_eq_getElem (show ls.length - 1 < ls.length by omega)
  have hw1 := hT.wd (ls.length - 1) (by omega)
  rw [wAt_get hd] at hw1
  obtain ⟨ao, cap, rfl, hcap, -, hrow⟩ := hl
  obtain ⟨b, off, rfl, HR0⟩ := hrow hne
  have hcw0 := HR0 (ls.length - 1) _ hd 1 _ rfl
  obtain ⟨W, hW⟩ : ∃ W, (ls[ls.length - 1]'(by omega)).w = W := ⟨_, rfl⟩
  rw [hW] at hw1 hcw0
  obtain ⟨n, hn⟩ : ∃ n : Nat, ls.length = n + 1 := ⟨ls.length - 1, by omega⟩
  have hV' := hV.out
  rw [hn] at HCH HVA hvl hcw0 hV' hpos hll ⊢
  generalize vK I R ls (n + 1) = vs at *
  have hcw : w.cell? ⟨b, off + n * 6 + 1, none⟩ = some (.int .i64 W) := by
    rw [← hcw0]
    congr 2
    omega
  have hW0 : (W == 0) = false := by simp; omega
  have i1 : (n : Int) ≤ 1000000 := by omega
  have HCW := Lib.hid hcw
  have HV := Lib.hid (show vs.getD n 0 = V from hV')
  have HPOS := Lib.hid (show 0 < vs.length by omega)
  have HVL := Lib.hid hvl
  clear hcw hcw0 HR0 hrow hcap hw1 hd hV hV' hW hT hwf hc hne hi hll hn hpos hvl hE
  go_enter Tryz.func13, Tryz.ntmps13
  (repeat (first | (with_reducible first | refine xA ?_ | refine xB ?_ | refine xC ?_ | refine xD ?_ | refine xH ?_ | refine xI rfl ?_ | refine xE ?_ | refine xF ?_ | refine xG ?_) | go_skip | go_guarded | (go_at_call 28; (with_reducible refine (HCH.out _ (by (repeat (first | with_reducible exact Below.refl _ _ | assumption | with_reducible refine below_drewN ?_ _ | with_reducible refine Below.drew ?_ | with_reducible refine Below.setRow ?_ ?_ _ | with_reducible refine Below.alloc ?_ ?_ _ | with_reducible refine Below.setCell ?_ ?_ _ | with_reducible exact Nat.le_refl _ | (focus (simp; done)) | (focus (simp; omega)) | omega)))).mono ?_); rintro _ w1 ⟨rfl, hb1⟩; have he1 := (hb1.block w.heap.size (by simp)).trans (heap_alloc_new w (.cells #[vi, .int .u64 r0, .int .u64 r1, .int .u64 r2, .int .u64 r3, .int .u64 r4, .int .u64 r5, .int .u64 r6, .int .u64 r7, vm] 27)); have hb2 : Below w.heap.size w w1 := (Below.alloc (Below.refl _ _) (Nat.le_refl _) _).trans (hb1.mono (by simp)); clear hb1; have hcw := cell_keep hb2 HCW.out) | ((with_reducible refine wl_id ?_); refine wpList_load_row rfl 27 _ rfl _ rfl 27 _ (0, 0) _ he1 Tryz.underlying27 rfl sizeEnv ?_; (try simp only [Act.put, qz4, qz5, qz6])) | (go_at_call 36; (with_reducible refine (HVA.out _ hb2).mono ?_); rintro _ w3 ⟨⟨v3, rfl, hO3⟩, hb3⟩; (obtain ⟨q3, o3, c3, rfl, -, hR3⟩ := sln_row (own_sln hO3) HPOS.out); (rw [HVL.out] at hR3 ⊢); have hcv := hR3 n V (by omega) HV.out; clear hR3 hO3) | go_values | go_skip | go_guarded | go_step | go_upon | go_back | ((with_reducible show Oper.upon _ _ _ _ _ _); go_simp) | (dsimp only)))
  go_ret2
  exact ⟨rfl, hb2.trans (hb3.mono hb2.size)⟩
section
variable {P : Program} (w : World)
theorem run_append_none {base T : Nat} {n : Nat} {v : Value} {xs : List Value} (t ty e : TypeId) (i : TypeInfo) (ht : P.underlying t = some (.slice e)) (hi : P.info? e = some i) (hown : w.ownsRow base T 1 v n xs) (ao : Option Addr) (c : Nat) : (Builtin.append_ #[t, t] ty #[v, .slice ao 0 c]).run P w = .ok v w := by
  rcases hown.2 with ⟨rfl, hn⟩ | ⟨g, cap, cur, rfl, hb, hh, hnc, _⟩
  · cases ao <;> simp [Builtin.append_, run_underlying ht, sizeOf, typeInfo, hi, Builtin.lenOf, Builtin.firstCells, storeCells, loadCells, loadCellsFrom]
  · cases ao <;> simp [Builtin.append_, run_underlying ht, sizeOf, typeInfo, hi, Builtin.lenOf, Builtin.firstCells, hnc, storeCells, loadCells, loadCellsFrom]
end
section
variable {ops : Array Oper} {rest : List Oper} {o : Oper} {a : Act} {w : World} {Q : Exit → Act → World → Prop}
theorem wl_appendO (hgd : o.guard = none) (s x : Operand) (ho : o.op = .call { callee := .builtin .append, args := #[s, x], argTypes := #[31, 31] }) (base : Nat) (v : Value) (n : Nat) (l : List Int) (hs : a.eval s = v) (hown : w.ownsRow base 3 1 v n (l.map (Value.int .i64))) (b2 m : Nat) (xv : Value) (us : List Int) (hx : a.eval x = xv) (hus : w.ownsRow b2 3 1 xv m (us.map (Value.int .i64))) (hn : n + m ≤ 1000000000) (hbase : base ≤ w.heap.size)
    (h : ∀ v' w', w'.ownsRow base 3 1 v' (n + m) ((l ++ us).map (Value.int .i64)) → w.grownBy w' v.ownBlock → (v'.ownBlock = v.ownBlock ∨ v'.ownBlock = some w.heap.size) → wpList Tryz.prog ops Q rest (a.put o.dst v') w') : wpList Tryz.prog ops Q (o :: rest) a w := by
  have hml : us.length = m := by simpa using hus.1
  obtain ⟨i0, hi0, _⟩ := info_parts info3
  by_cases h0 : m = 0
  · subst h0
    obtain rfl : us = [] := List.length_eq_zero_iff.1 hml
    obtain ⟨ao, c, rfl⟩ := ownsRow_shape hus
    refine wpList_plain hgd fun _ hK => ?_
    unfold Oper.wp execOp
    simp only [ho, resolve, invoke, builtin, Sem.run_bind, Sem.run_pure, Result.andThen_ok, List.map_toArray, List.map_cons, List.map_nil, hs, hx, run_append_none w 31 o.type 3 i0 Tryz.underlying31 hi0 hown ao c]
    exact hK _ _ (h v w (by rw [List.append_nil]; exact hown) ⟨rfl, rfl, rfl, Nat.le_refl _, fun _ _ _ => rfl⟩ (.inl rfl))
  · have hS := SlX.ofOwns (X := fun _ => True) (base := b2) (T := 3) (v := xv) (l := us) (by rw [hml]; exact hus) (fun _ _ _ => trivial)
    obtain ⟨ao, c, rfl⟩ := ownsRow_shape hus
    obtain ⟨q, oo, e, _, _, _, hR⟩ := hS.row (by omega)
    subst e
    exact wl_appendI hgd s x ho base v n l hs hown q oo m c us hx hml hR hn hbase h
end
end Go.Proofs.YtmaogkgjiplckaaGreat
namespace Go.Proofs.YtmaogkgjiplckaaGreat
open Go.RowKit
def frI (I : Nat → Nat) (ws : List (List Int)) (k : Nat) : List Int := (List.range k).flatMap fun i => sayL (ws.getD i []) (I i)
theorem frI_succ {I : Nat → Nat} {ws : List (List Int)} {k : Nat} : frI I ws (k + 1) = frI I ws k ++ sayL (ws.getD k []) (I k) := by
  unfold frI
  rw [List.range_succ, List.flatMap_append]
  simp
theorem frI_len {I : Nat → Nat} {ws : List (List Int)} {k N : Nat} (h : ∀ l ∈ ws, l.length ≤ N) : (frI I ws k).length ≤ k * N := by
  induction k with
  | zero => simp [frI]
  | succ k ih =>
    rw [frI_succ, List.length_append, sayL_len, Nat.succ_mul]
    have : (ws.getD k []).length ≤ N := by
      rw [List.getD_eq_getElem?_getD]
      cases e : ws[k]? with
      | none => simp
      | some l => exact h l (List.mem_of_getElem? e)
    omega
theorem wrapU {n : Int} (h0 : 0 ≤ n) (h1 : n < 18446744073709551616) : IntKind.u64.wrap n = n := by rw [IntKind.wrap_u64]; omega
set_option maxRecDepth 100000 in
set_option maxHeartbeats 4000000 in
theorem from_any {Z : Nat → Prop} {r0 r1 r2 r3 r4 r5 r6 r7 : Int} {ia : Option Addr} {ic : Nat} {vm : Value} {w : World} (inp : List Int) (hE : EnvWf inp (regL r0 r1 r2 r3 r4 r5 r6 r7)) (hi : SlIs 1 u8c w (.slice ia inp.length ic) inp) (b : BS) (iv rv : List Value) (hiv : SlsX Z w iv b.inp) (hrv : SlsX Z w rv b.reg) (hil : iv.length = 16) (hrl : rv.length = 8) (hll : ∀ l, l ∈ b.inp ∨ l ∈ b.reg → l.length ≤ 64 ∧ ∀ a ∈ l, -1048576 ≤ a ∧ a ≤ 1048576)
    (I R : Nat → Nat) (hI : I = inI inp) (hR : R = rgR (regL r0 r1 r2 r3 r4 r5 r6 r7)) :
    Calls Tryz.prog 11 #[.agg iv.toArray, .agg rv.toArray, .agg #[.slice ia inp.length ic, .int .u64 r0, .int .u64 r1, .int .u64 r2, .int .u64 r3, .int .u64 r4, .int .u64 r5, .int .u64 r6, .int .u64 r7, vm]] w fun e w' => (∃ v, e = .returned v ∧ w'.ownsRow (w.heap.size + 3) 3 1 v (frB I R b).length ((frB I R b).map (Value.int .i64))) ∧ Below w.heap.size w w' := by
  have HE := Lib.hid hE
  have HI := Lib.hid hi
  have HIV := Lib.hid hiv
  have HRV := Lib.hid hrv
  have HLL := Lib.hid hll
  have HIL := Lib.hid hil
  have HRL := Lib.hid hrl
  have HIe := Lib.hid hI
  have HRe := Lib.hid hR
  have hin : (inp.length : Int) ≤ 100 := by have := hE.il; omega
  clear hE hi hiv hrv hll hil hrl hI hR
  go_enter Tryz.func11, Tryz.ntmps11
  (repeat (first | (with_reducible first | refine xA ?_ | refine xB ?_ | refine xC ?_ | refine xD ?_ | refine xH ?_ | refine xI rfl ?_ | refine xE ?_ | refine xF ?_ | refine xG ?_) | go_values | go_skip | go_guarded | go_step | go_upon | go_back | ((with_reducible show Oper.upon _ _ _ _ _ _); go_simp) | (dsimp only)))
  refine wp_abs (fun u => Below w.heap.size w u ∧ u.heap[w.heap.size]? = some (.cells iv.toArray 32 (0, 0)) ∧ u.heap[w.heap.size + 1]? = some (.cells rv.toArray 33 (0, 0)) ∧ u.heap[w.heap.size + 1 + 1]? = some (.cells #[.slice ia inp.length ic, .int .u64 r0, .int .u64 r1, .int .u64 r2, .int .u64 r3, .int .u64 r4, .int .u64 r5, .int .u64 r6, .int .u64 r7, vm] 27 (0, 0))) ⟨by (repeat (first | with_reducible exact Below.refl _ _ | assumption | with_reducible refine below_drewN ?_ _ | with_reducible refine Below.drew ?_ | with_reducible refine Below.setRow ?_ ?_ _ | with_reducible refine Below.alloc ?_ ?_ _ | with_reducible refine Below.setCell ?_ ?_ _ | with_reducible exact Nat.le_refl _ | (focus (simp; done)) | (focus (simp; omega)) | omega)), ?_, ?_, ?_⟩ ?_
  · exact (heap_alloc_old _ _ (by simp <;> omega)).trans ((heap_alloc_old _ _ (by simp <;> omega)).trans (heap_alloc_new w _))
  · exact (heap_alloc_old _ _ (by simp)).trans (by simpa using heap_alloc_new (w.alloc (.cells iv.toArray 32)) (.cells rv.toArray 33))
  · simpa using heap_alloc_new ((w.alloc (.cells iv.toArray 32)).alloc (.cells rv.toArray 33)) (.cells #[.slice ia inp.length ic, .int .u64 r0, .int .u64 r1, .int .u64 r2, .int .u64 r3, .int .u64 r4, .int .u64 r5, .int .u64 r6, .int .u64 r7, vm] 27)
  rintro w1 hS1
  go_loopw [7, 8] (fun v i wr => ∃ k : Nat, k ≤ 16 ∧ i = .int .i64 k ∧ Hid (wr.ownsRow (w.heap.size + 3) 3 1 v (frI I b.inp k).length ((frI I b.inp k).map (Value.int .i64))) ∧ (fun u => Below w.heap.size w u ∧ u.heap[w.heap.size]? = some (.cells iv.toArray 32 (0, 0)) ∧ u.heap[w.heap.size + 1]? = some (.cells rv.toArray 33 (0, 0)) ∧ u.heap[w.heap.size + 1 + 1]? = some (.cells #[.slice ia inp.length ic, .int .u64 r0, .int .u64 r1, .int .u64 r2, .int .u64 r3, .int .u64 r4, .int .u64 r5, .int .u64 r6, .int .u64 r7, vm] 27 (0, 0))) wr) (fun _ i _ => 16 - (intOf i).toNat)
  case atStart => exact ⟨0, Nat.zero_le _, rfl, Lib.hid (by simpa [frI] using World.ownsRow_nil w1 _ _ _), hS1⟩
  case round =>
    clear hS1
    obtain ⟨k, hk, rfl, HO, hS⟩ := hrel
    rcases Nat.lt_or_ge k 16 with hlt | hge
    · obtain ⟨vk, hv⟩ : ∃ vk, iv[k]? = some vk := ⟨_, List.getElem?_eq_getElem (by have := HIL.out; omega)⟩
      obtain ⟨l, hl⟩ : ∃ l, b.inp[k]? = some l := ⟨_, List.getElem?_eq_getElem (by have := HIL.out; have := HIV.out.1; omega)⟩
      have hsl := HIV.out.2 k vk l hv hl
      obtain ⟨ak, ck, rfl⟩ := hsl.shape
      have hlb := HLL.out l (.inl (List.mem_of_getElem? hl))
      have HF : Hid (frI I b.inp (k + 1) = frI I b.inp k ++ sayL l (I k)) := Lib.hid (by rw [frI_succ, List.getD_eq_getElem?_getD, hl]; rfl)
      have hCL : Hid ((frI I b.inp k).length ≤ k * 64) := Lib.hid (frI_len fun l h => (HLL.out l (.inl h)).1)
      have HIk := Lib.hid (show atB inp (k : Int) = (I k : Int) by
        rw [HIe.out]
        unfold inI
        have := HE.out.at (k : Int)
        omega)
      have hIb : I k < 256 := by rw [HIe.out]; exact HE.out.I k
      obtain ⟨x, hx⟩ : ∃ x, I k = x := ⟨_, rfl⟩
      rw [hx] at HIk HF hIb
      have HAT : Hid (∀ u : World, Below w.heap.size w u → Calls Tryz.prog 35 #[.slice ia inp.length ic, .int .u64 k] u fun e w' => e = .returned (.int .u8 (x : Int)) ∧ w' = u) := Lib.hid (fun u hb => at_any _ inp k u (HI.out.below hb) (by omega) (by have := HE.out.il; omega) x HIk)
      have HSAY : Hid (∀ u : World, Below w.heap.size w u → Calls Tryz.prog 14 #[.slice ak l.length ck, .int .u64 (x : Int)] u fun e w' => ∃ v', e = .returned v' ∧ w'.ownsRow u.heap.size 3 1 v' l.length ((sayL l x).map (Value.int .i64)) ∧ Below u.heap.size u w') := Lib.hid (fun u hb => say_law _ l x u (hsl.kept (Kept.ofBelow hb)) (by omega) (by omega) hlb.2)
      have HCV : Hid (∀ u : World, (fun u => Below w.heap.size w u ∧ u.heap[w.heap.size]? = some (.cells iv.toArray 32 (0, 0)) ∧ u.heap[w.heap.size + 1]? = some (.cells rv.toArray 33 (0, 0)) ∧ u.heap[w.heap.size + 1 + 1]? = some (.cells #[.slice ia inp.length ic, .int .u64 r0, .int .u64 r1, .int .u64 r2, .int .u64 r3, .int .u64 r4, .int .u64 r5, .int .u64 r6, .int .u64 r7, vm] 27 (0, 0))) u → u.cell? ⟨w.heap.size, k, none⟩ = some (.slice ak l.length ck)) := Lib.hid (fun u hu => (cell_of_row u w.heap.size k _ _ _ hu.2.1).trans ((List.getElem?_toArray ..).trans hv))
      have HCI : Hid (∀ u : World, (fun u => Below w.heap.size w u ∧ u.heap[w.heap.size]? = some (.cells iv.toArray 32 (0, 0)) ∧ u.heap[w.heap.size + 1]? = some (.cells rv.toArray 33 (0, 0)) ∧ u.heap[w.heap.size + 1 + 1]? = some (.cells #[.slice ia inp.length ic, .int .u64 r0, .int .u64 r1, .int .u64 r2, .int .u64 r3, .int .u64 r4, .int .u64 r5, .int .u64 r6, .int .u64 r7, vm] 27 (0, 0))) u → u.cell? ⟨w.heap.size + 1 + 1, 0, none⟩ = some (.slice ia inp.length ic)) := Lib.hid (fun u hu => (cell_of_row u (w.heap.size + 1 + 1) 0 _ _ _ hu.2.2.2).trans rfl)
      have hxI : (x : Int) < 256 := by omega
      have hx0 : (0 : Int) ≤ (x : Int) := by omega
      have i0 : (0 : Int) ≤ (k : Int) := by omega
      have i1 : (k : Int) < 16 := by omega
      have HLB := Lib.hid hlb
      obtain ⟨fl, hfl⟩ : ∃ fl, frI I b.inp k = fl := ⟨_, rfl⟩
      rw [hfl] at HF hCL HO
      obtain ⟨av, cv, rfl⟩ := ownsRow_shape HO.out
      clear hsl hlb hv hl hx hIb hfl
      (repeat (first | (with_reducible first | refine xA ?_ | refine xB ?_ | refine xC ?_ | refine xD ?_ | refine xH ?_ | refine xI rfl ?_ | refine xE ?_ | refine xF ?_ | refine xG ?_) | go_values | go_skip | go_guarded | go_step | go_upon | go_back | ((with_reducible show Oper.upon _ _ _ _ _ _); go_simp) | (dsimp only)))
      refine wp_region_held (S := fun u => Below w.heap.size w u ∧ u.heap[w.heap.size]? = some (.cells iv.toArray 32 (0, 0)) ∧ u.heap[w.heap.size + 1]? = some (.cells rv.toArray 33 (0, 0)) ∧ u.heap[w.heap.size + 1 + 1]? = some (.cells #[.slice ia inp.length ic, .int .u64 r0, .int .u64 r1, .int .u64 r2, .int .u64 r3, .int .u64 r4, .int .u64 r5, .int .u64 r6, .int .u64 r7, vm] 27 (0, 0))) (by kernel_rfl) ?_
      have HSC : (fun u => Below w.heap.size w u ∧ u.heap[w.heap.size]? = some (.cells iv.toArray 32 (0, 0)) ∧ u.heap[w.heap.size + 1]? = some (.cells rv.toArray 33 (0, 0)) ∧ u.heap[w.heap.size + 1 + 1]? = some (.cells #[.slice ia inp.length ic, .int .u64 r0, .int .u64 r1, .int .u64 r2, .int .u64 r3, .int .u64 r4, .int .u64 r5, .int .u64 r6, .int .u64 r7, vm] 27 (0, 0))) ({ wr with drawn := wr.drawn + 1 } : World) := ⟨hS.1.trans ⟨rfl, rfl, rfl, Nat.le_refl _, fun _ _ => rfl⟩, hS.2⟩
      have hO : ({ wr with drawn := wr.drawn + 1 } : World).ownsRow (w.heap.size + 3) 3 1 (.slice av fl.length cv) fl.length (fl.map (Value.int .i64)) := HO.out
      clear hS HO
      generalize ({ wr with drawn := wr.drawn + 1 } : World) = u0 at *
      (refine wpAnyH_take (i := 0) (v := .slice av fl.length cv) rfl (by kernel_rfl) (by kernel_rfl) (by kernel_rfl) (fun _ _ _ h => h) (Or.inl ⟨rfl, fun w _ => by go_simp⟩) HSC ?_; simp only [Act.put, qz1, qz2, qz3, qz4, qz5, qz6])
      (refine wpAnyH_take (i := 1) (v := .int .i64 k) rfl (by kernel_rfl) (by kernel_rfl) (by kernel_rfl) (fun _ _ _ h => h) (Or.inl ⟨rfl, fun w _ => by go_simp⟩) HSC ?_; simp only [Act.put, qz1, qz2, qz3, qz4, qz5, qz6])
      (refine wpAnyH_take (i := 2) (v := .pointer (some ⟨w.heap.size, k, none⟩)) rfl (by kernel_rfl) (by kernel_rfl) (by kernel_rfl) (fun _ _ _ h => h) (Or.inl ⟨rfl, fun w _ => by go_simp⟩) HSC ?_; simp only [Act.put, qz1, qz2, qz3, qz4, qz5, qz6])
      (refine wpAnyH_take (i := 3) (v := .slice ak l.length ck) rfl (by kernel_rfl) (by kernel_rfl) (by kernel_rfl) (fun _ _ _ h => h) (Or.inl ⟨rfl, fun w hw => by have hx := HCV.out w hw; go_simp⟩) HSC ?_; simp only [Act.put, qz1, qz2, qz3, qz4, qz5, qz6])
      (refine wpAnyH_take (i := 4) (v := .pointer (some ⟨w.heap.size + 1 + 1, 0, none⟩)) rfl (by kernel_rfl) (by kernel_rfl) (by kernel_rfl) (fun _ _ _ h => h) (Or.inl ⟨rfl, fun w _ => by go_simp⟩) HSC ?_; simp only [Act.put, qz1, qz2, qz3, qz4, qz5, qz6])
      (refine wpAnyH_take (i := 5) (v := .slice ia inp.length ic) rfl (by kernel_rfl) (by kernel_rfl) (by kernel_rfl) (fun _ _ _ h => h) (Or.inl ⟨rfl, fun w hw => by have hx := HCI.out w hw; go_simp⟩) HSC ?_; simp only [Act.put, qz1, qz2, qz3, qz4, qz5, qz6])
      (refine wpAnyH_take (i := 6) (v := .int .i64 k) rfl (by kernel_rfl) (by kernel_rfl) (by kernel_rfl) (fun _ _ _ h => h) (Or.inl ⟨rfl, fun w _ => by go_simp⟩) HSC ?_; simp only [Act.put, qz1, qz2, qz3, qz4, qz5, qz6])
      (refine wpAnyH_take (i := 7) (v := .int .u64 k) rfl (by kernel_rfl) (by kernel_rfl) (by kernel_rfl) (fun _ _ _ h => h) (Or.inl ⟨rfl, fun w _ => by go_simp; exact wrapU (by omega) (by omega)⟩) HSC ?_; simp only [Act.put, qz1, qz2, qz3, qz4, qz5, qz6])
      refine wpAnyH_all (rs := [8]) (by kernel_rfl) (by simp) (fun i hi => ?_)
      obtain rfl : i = 8 := by simpa using hi
      refine wpOp_one rfl ?_
      have HAT1 := Lib.hid (HAT.out u0 HSC.1)
      (repeat (first | (with_reducible first | refine xA ?_ | refine xB ?_ | refine xC ?_ | refine xD ?_ | refine xH ?_ | refine xI rfl ?_ | refine xE ?_ | refine xF ?_ | refine xG ?_) | go_skip | go_guarded | (go_at_call 35; (with_reducible refine HAT1.out.mono ?_); rintro _ u1 ⟨rfl, rfl⟩) | go_values | go_skip | go_guarded | go_step | go_upon | go_back | ((with_reducible show Oper.upon _ _ _ _ _ _); go_simp) | (dsimp only)))
      refine ⟨HSC, ?_⟩
      (refine wpAnyH_take (i := 9) (v := .int .u64 (x : Int)) rfl (by kernel_rfl) (by kernel_rfl) (by kernel_rfl) (fun _ _ _ h => h) (Or.inl ⟨rfl, fun w _ => by go_simp; exact wrapU (by omega) (by omega)⟩) HSC ?_; simp only [Act.put, qz1, qz2, qz3, qz4, qz5, qz6])
      refine wpAnyH_all (rs := [10]) (by kernel_rfl) (by simp) (fun i hi => ?_)
      obtain rfl : i = 10 := by simpa using hi
      refine wpOp_one rfl ?_
      have HSAY1 := Lib.hid (HSAY.out u1 HSC.1)
      (repeat (first | (with_reducible first | refine xA ?_ | refine xB ?_ | refine xC ?_ | refine xD ?_ | refine xH ?_ | refine xI rfl ?_ | refine xE ?_ | refine xF ?_ | refine xG ?_) | go_skip | go_guarded | (go_at_call 14; (with_reducible refine HSAY1.out.mono ?_); rintro _ u2 ⟨vs, rfl, hO2, hb2⟩) | go_values | go_skip | go_guarded | go_step | go_upon | go_back | ((with_reducible show Oper.upon _ _ _ _ _ _); go_simp) | (dsimp only)))
      have HS2 : (fun u => Below w.heap.size w u ∧ u.heap[w.heap.size]? = some (.cells iv.toArray 32 (0, 0)) ∧ u.heap[w.heap.size + 1]? = some (.cells rv.toArray 33 (0, 0)) ∧ u.heap[w.heap.size + 1 + 1]? = some (.cells #[.slice ia inp.length ic, .int .u64 r0, .int .u64 r1, .int .u64 r2, .int .u64 r3, .int .u64 r4, .int .u64 r5, .int .u64 r6, .int .u64 r7, vm] 27 (0, 0))) u2 := ⟨HSC.1.trans (hb2.mono HSC.1.size), (hb2.block _ (lt_of_block HSC.2.1)).trans HSC.2.1, (hb2.block _ (lt_of_block HSC.2.2.1)).trans HSC.2.2.1, (hb2.block _ (lt_of_block HSC.2.2.2)).trans HSC.2.2.2⟩
      have hO3 := owns_kept hO (Kept.ofBelow (X := fun _ => True) hb2) (fun _ _ => trivial)
      have hsz2 : w.heap.size + 3 ≤ u2.heap.size := lt_of_block HS2.2.2.2
      refine ⟨HS2, ?_⟩
      refine wpAnyH_all (rs := [11]) (by kernel_rfl) (by simp) (fun i hi => ?_)
      obtain rfl : i = 11 := by simpa using hi
      refine wpOp_one rfl ?_
      (repeat (first | (with_reducible first | refine xA ?_ | refine xB ?_ | refine xC ?_ | refine xD ?_ | refine xH ?_ | refine xI rfl ?_ | refine xE ?_ | refine xF ?_ | refine xG ?_) | go_skip | go_guarded | ((with_reducible refine wl_id ?_); refine wl_appendO rfl _ _ rfl (w.heap.size + 3) (.slice av fl.length cv) fl.length fl rfl hO3 u1.heap.size l.length vs (sayL l x) rfl hO2 (by have := hCL.out; have := HLB.out.1; omega) hsz2 ?_; intro v9 w9 hO9 hg9 hl9; (try simp only [Act.put, qz4, qz5, qz6])) | go_values | go_skip | go_guarded | go_step | go_upon | go_back | ((with_reducible show Oper.upon _ _ _ _ _ _); go_simp) | (dsimp only)))
      have hne9 : ∀ q, (Value.slice av fl.length cv).ownBlock = some q → w.heap.size + 3 ≤ q := fun q e => (hO3.lt q e).1
      have HS9 : (fun u => Below w.heap.size w u ∧ u.heap[w.heap.size]? = some (.cells iv.toArray 32 (0, 0)) ∧ u.heap[w.heap.size + 1]? = some (.cells rv.toArray 33 (0, 0)) ∧ u.heap[w.heap.size + 1 + 1]? = some (.cells #[.slice ia inp.length ic, .int .u64 r0, .int .u64 r1, .int .u64 r2, .int .u64 r3, .int .u64 r4, .int .u64 r5, .int .u64 r6, .int .u64 r7, vm] 27 (0, 0))) w9 := ⟨below_grown HS2.1 hg9 (fun q e => by have := hne9 q e; omega), keep_at hg9 HS2.2.1 (fun e => by have := hne9 _ e.symm; omega), keep_at hg9 HS2.2.2.1 (fun e => by have := hne9 _ e.symm; omega), keep_at hg9 HS2.2.2.2 (fun e => by have := hne9 _ e.symm; omega)⟩
      obtain ⟨a9, c9, rfl⟩ := ownsRow_shape hO9
      refine ⟨HS9, ?_⟩
      clear HSC
      have HSC := HS9
      (refine wpAnyH_take (i := 12) (v := .slice a9 (fl.length + l.length) c9) rfl (by kernel_rfl) (by kernel_rfl) (by kernel_rfl) (fun _ _ _ h => h) (Or.inl ⟨rfl, fun w _ => by go_simp⟩) HSC ?_; simp only [Act.put, qz1, qz2, qz3, qz4, qz5, qz6])
      refine wpAnyH_done (by kernel_rfl) ?_ _
      have HO9 := Lib.hid hO9
      clear HSC hO9 hg9 hl9 hO2 hO3 hsz2 hne9 HS2 hO hb2 HSAY1 HAT1
      (repeat (first | (with_reducible first | refine xA ?_ | refine xB ?_ | refine xC ?_ | refine xD ?_ | refine xH ?_ | refine xI rfl ?_ | refine xE ?_ | refine xF ?_ | refine xG ?_) | go_values | go_skip | go_guarded | go_step | go_upon | go_back | ((with_reducible show Oper.upon _ _ _ _ _ _); go_simp) | (dsimp only)))
      exact ⟨⟨k + 1, by omega, by go_num, Lib.hid (by rw [HF.out, List.length_append, sayL_len]; exact HO9.out), HS9⟩, by simp [intOf]; omega⟩
    · have hk16 : k = 16 := by omega
      have hfI : (frI I b.inp k).length ≤ k * 64 := frI_len fun l h => (HLL.out l (.inl h)).1
      obtain ⟨ai, hai⟩ : ∃ ai, frI I b.inp k = ai := ⟨_, rfl⟩
      have HAI := Lib.hid (show frI I b.inp 16 = ai by rw [← hai, hk16])
      rw [hai] at HO hfI
      have HFI := Lib.hid hfI
      have HK16 := Lib.hid hk16
      obtain ⟨av, cv, rfl⟩ := ownsRow_shape HO.out
      have hkn : ¬ ((k : Int) < 16) := by omega
      obtain ⟨q16, hq16⟩ : ∃ q16 : Int, (k : Int) = q16 := ⟨_, rfl⟩
      rw [hq16] at hkn ⊢
      clear hk hge hai hfI hk16 hq16
      (repeat (first | (with_reducible first | refine xA ?_ | refine xB ?_ | refine xC ?_ | refine xD ?_ | refine xH ?_ | refine xI rfl ?_ | refine xE ?_ | refine xF ?_ | refine xG ?_) | go_values | go_skip | go_guarded | go_step | go_upon | go_back | ((with_reducible show Oper.upon _ _ _ _ _ _); go_simp) | (dsimp only)))
      have HOI := Lib.hid (show wr.ownsRow (w.heap.size + 3) 3 1 (.slice av ai.length cv) (ai ++ frI R b.reg 0).length ((ai ++ frI R b.reg 0).map (Value.int .i64)) by
        have e : ai ++ frI R b.reg 0 = ai := by simp [frI]
        rw [e]; exact HO.out)
      go_loopw [7, 9] (fun v i wr => ∃ k : Nat, k ≤ 8 ∧ i = .int .i64 k ∧ Hid (wr.ownsRow (w.heap.size + 3) 3 1 v (ai ++ frI R b.reg k).length ((ai ++ frI R b.reg k).map (Value.int .i64))) ∧ (fun u => Below w.heap.size w u ∧ u.heap[w.heap.size]? = some (.cells iv.toArray 32 (0, 0)) ∧ u.heap[w.heap.size + 1]? = some (.cells rv.toArray 33 (0, 0)) ∧ u.heap[w.heap.size + 1 + 1]? = some (.cells #[.slice ia inp.length ic, .int .u64 r0, .int .u64 r1, .int .u64 r2, .int .u64 r3, .int .u64 r4, .int .u64 r5, .int .u64 r6, .int .u64 r7, vm] 27 (0, 0))) wr) (fun _ i _ => 8 - (intOf i).toNat)
      case atStart => exact ⟨0, Nat.zero_le _, rfl, HOI, hS⟩
      case round =>
        clear hS HO HOI
        obtain ⟨k, hk, rfl, HO, hS⟩ := hrel
        rcases Nat.lt_or_ge k 8 with hlt | hge
        · obtain ⟨vk, hv⟩ : ∃ vk, rv[k]? = some vk := ⟨_, List.getElem?_eq_getElem (by have := HRL.out; omega)⟩
          obtain ⟨l, hl⟩ : ∃ l, b.reg[k]? = some l := ⟨_, List.getElem?_eq_getElem (by have := HRL.out; have := HRV.out.1; omega)⟩
          have hsl := HRV.out.2 k vk l hv hl
          obtain ⟨ak, ck, rfl⟩ := hsl.shape
          have hlb := HLL.out l (.inr (List.mem_of_getElem? hl))
          have HF : Hid (ai ++ frI R b.reg (k + 1) = (ai ++ frI R b.reg k) ++ sayL l (R k)) := Lib.hid (by rw [frI_succ, List.getD_eq_getElem?_getD, hl, List.append_assoc]; rfl)
          have hfl2 : (frI R b.reg k).length ≤ k * 64 := frI_len fun l h => (HLL.out l (.inr h)).1
          have hCL : Hid ((ai ++ frI R b.reg k).length ≤ 2000) := Lib.hid (by have := HFI.out; rw [List.length_append]; have := HK16.out; omega)
          have hRk : (regL r0 r1 r2 r3 r4 r5 r6 r7).getD k 0 = (R k : Int) := by
            rw [HRe.out]
            unfold rgR
            have := HE.out.reg k
            omega
          have hRb : R k < 18446744073709551616 := by rw [HRe.out]; exact HE.out.R k
          obtain ⟨x, hx⟩ : ∃ x, R k = x := ⟨_, rfl⟩
          rw [hx] at hRk HF hRb
          have hge : (#[.slice ia inp.length ic, .int .u64 r0, .int .u64 r1, .int .u64 r2, .int .u64 r3, .int .u64 r4, .int .u64 r5, .int .u64 r6, .int .u64 r7, vm] : Array Value)[1 + k]? = some (.int .u64 (x : Int)) := by
            rw [← hRk]
            have h8 : k = 0 ∨ k = 1 ∨ k = 2 ∨ k = 3 ∨ k = 4 ∨ k = 5 ∨ k = 6 ∨ k = 7 := by omega
            rcases h8 with rfl | rfl | rfl | rfl | rfl | rfl | rfl | rfl <;> rfl
          have HSAY : Hid (∀ u : World, Below w.heap.size w u → Calls Tryz.prog 14 #[.slice ak l.length ck, .int .u64 (x : Int)] u fun e w' => ∃ v', e = .returned v' ∧ w'.ownsRow u.heap.size 3 1 v' l.length ((sayL l x).map (Value.int .i64)) ∧ Below u.heap.size u w') := Lib.hid (fun u hb => say_law _ l x u (hsl.kept (Kept.ofBelow hb)) (by omega) hRb hlb.2)
          have HCV : Hid (∀ u : World, (fun u => Below w.heap.size w u ∧ u.heap[w.heap.size]? = some (.cells iv.toArray 32 (0, 0)) ∧ u.heap[w.heap.size + 1]? = some (.cells rv.toArray 33 (0, 0)) ∧ u.heap[w.heap.size + 1 + 1]? = some (.cells #[.slice ia inp.length ic, .int .u64 r0, .int .u64 r1, .int .u64 r2, .int .u64 r3, .int .u64 r4, .int .u64 r5, .int .u64 r6, .int .u64 r7, vm] 27 (0, 0))) u → u.cell? ⟨w.heap.size + 1, k, none⟩ = some (.slice ak l.length ck)) := Lib.hid (fun u hu => (cell_of_row u (w.heap.size + 1) k _ _ _ hu.2.2.1).trans ((List.getElem?_toArray ..).trans hv))
          have HCI : Hid (∀ u : World, (fun u => Below w.heap.size w u ∧ u.heap[w.heap.size]? = some (.cells iv.toArray 32 (0, 0)) ∧ u.heap[w.heap.size + 1]? = some (.cells rv.toArray 33 (0, 0)) ∧ u.heap[w.heap.size + 1 + 1]? = some (.cells #[.slice ia inp.length ic, .int .u64 r0, .int .u64 r1, .int .u64 r2, .int .u64 r3, .int .u64 r4, .int .u64 r5, .int .u64 r6, .int .u64 r7, vm] 27 (0, 0))) u → u.cell? ⟨w.heap.size + 1 + 1, 1 + k, none⟩ = some (.int .u64 (x : Int))) := Lib.hid (fun u hu => (cell_of_row u (w.heap.size + 1 + 1) (1 + k) _ _ _ hu.2.2.2).trans hge)
          have i0 : (0 : Int) ≤ (k : Int) := by omega
          have i1 : (k : Int) < 8 := by omega
          have HLB := Lib.hid hlb
          obtain ⟨fl, hfl⟩ : ∃ fl, ai ++ frI R b.reg k = fl := ⟨_, rfl⟩
          rw [hfl] at HF hCL HO
          obtain ⟨av, cv, rfl⟩ := ownsRow_shape HO.out
          clear hsl hlb hv hl hx hRb hRk hfl hge hfl2
          (repeat (first | (with_reducible first | refine xA ?_ | refine xB ?_ | refine xC ?_ | refine xD ?_ | refine xH ?_ | refine xI rfl ?_ | refine xE ?_ | refine xF ?_ | refine xG ?_) | go_values | go_skip | go_guarded | go_step | go_upon | go_back | ((with_reducible show Oper.upon _ _ _ _ _ _); go_simp) | (dsimp only)))
          refine wp_region_held (S := fun u => Below w.heap.size w u ∧ u.heap[w.heap.size]? = some (.cells iv.toArray 32 (0, 0)) ∧ u.heap[w.heap.size + 1]? = some (.cells rv.toArray 33 (0, 0)) ∧ u.heap[w.heap.size + 1 + 1]? = some (.cells #[.slice ia inp.length ic, .int .u64 r0, .int .u64 r1, .int .u64 r2, .int .u64 r3, .int .u64 r4, .int .u64 r5, .int .u64 r6, .int .u64 r7, vm] 27 (0, 0))) (by kernel_rfl) ?_
          have HSC : (fun u => Below w.heap.size w u ∧ u.heap[w.heap.size]? = some (.cells iv.toArray 32 (0, 0)) ∧ u.heap[w.heap.size + 1]? = some (.cells rv.toArray 33 (0, 0)) ∧ u.heap[w.heap.size + 1 + 1]? = some (.cells #[.slice ia inp.length ic, .int .u64 r0, .int .u64 r1, .int .u64 r2, .int .u64 r3, .int .u64 r4, .int .u64 r5, .int .u64 r6, .int .u64 r7, vm] 27 (0, 0))) ({ wr with drawn := wr.drawn + 1 } : World) := ⟨hS.1.trans ⟨rfl, rfl, rfl, Nat.le_refl _, fun _ _ => rfl⟩, hS.2⟩
          have hO : ({ wr with drawn := wr.drawn + 1 } : World).ownsRow (w.heap.size + 3) 3 1 (.slice av fl.length cv) fl.length (fl.map (Value.int .i64)) := HO.out
          clear hS HO
          generalize ({ wr with drawn := wr.drawn + 1 } : World) = u0 at *
          (refine wpAnyH_take (i := 0) (v := .slice av fl.length cv) rfl (by kernel_rfl) (by kernel_rfl) (by kernel_rfl) (fun _ _ _ h => h) (Or.inl ⟨rfl, fun w _ => by go_simp⟩) HSC ?_; simp only [Act.put, qz1, qz2, qz3, qz4, qz5, qz6])
          (refine wpAnyH_take (i := 1) (v := .int .i64 k) rfl (by kernel_rfl) (by kernel_rfl) (by kernel_rfl) (fun _ _ _ h => h) (Or.inl ⟨rfl, fun w _ => by go_simp⟩) HSC ?_; simp only [Act.put, qz1, qz2, qz3, qz4, qz5, qz6])
          (refine wpAnyH_take (i := 2) (v := .pointer (some ⟨w.heap.size + 1, k, none⟩)) rfl (by kernel_rfl) (by kernel_rfl) (by kernel_rfl) (fun _ _ _ h => h) (Or.inl ⟨rfl, fun w _ => by go_simp⟩) HSC ?_; simp only [Act.put, qz1, qz2, qz3, qz4, qz5, qz6])
          (refine wpAnyH_take (i := 3) (v := .slice ak l.length ck) rfl (by kernel_rfl) (by kernel_rfl) (by kernel_rfl) (fun _ _ _ h => h) (Or.inl ⟨rfl, fun w hw => by have hx := HCV.out w hw; go_simp⟩) HSC ?_; simp only [Act.put, qz1, qz2, qz3, qz4, qz5, qz6])
          (refine wpAnyH_take (i := 4) (v := .int .i64 k) rfl (by kernel_rfl) (by kernel_rfl) (by kernel_rfl) (fun _ _ _ h => h) (Or.inl ⟨rfl, fun w _ => by go_simp⟩) HSC ?_; simp only [Act.put, qz1, qz2, qz3, qz4, qz5, qz6])
          (refine wpAnyH_take (i := 5) (v := .pointer (some ⟨w.heap.size + 1 + 1, 1, none⟩)) rfl (by kernel_rfl) (by kernel_rfl) (by kernel_rfl) (fun _ _ _ h => h) (Or.inl ⟨rfl, fun w _ => by go_simp⟩) HSC ?_; simp only [Act.put, qz1, qz2, qz3, qz4, qz5, qz6])
          (refine wpAnyH_take (i := 6) (v := .pointer (some ⟨w.heap.size + 1 + 1, 1 + k, none⟩)) rfl (by kernel_rfl) (by kernel_rfl) (by kernel_rfl) (fun _ _ _ h => h) (Or.inl ⟨rfl, fun w _ => by go_simp⟩) HSC ?_; simp only [Act.put, qz1, qz2, qz3, qz4, qz5, qz6])
          (refine wpAnyH_take (i := 7) (v := .int .u64 (x : Int)) rfl (by kernel_rfl) (by kernel_rfl) (by kernel_rfl) (fun _ _ _ h => h) (Or.inl ⟨rfl, fun w hw => by have hx := HCI.out w hw; go_simp⟩) HSC ?_; simp only [Act.put, qz1, qz2, qz3, qz4, qz5, qz6])
          refine wpAnyH_all (rs := [8]) (by kernel_rfl) (by simp) (fun i hi => ?_)
          obtain rfl : i = 8 := by simpa using hi
          refine wpOp_one rfl ?_
          have HSAY1 := Lib.hid (HSAY.out u0 HSC.1)
          (repeat (first | (with_reducible first | refine xA ?_ | refine xB ?_ | refine xC ?_ | refine xD ?_ | refine xH ?_ | refine xI rfl ?_ | refine xE ?_ | refine xF ?_ | refine xG ?_) | go_skip | go_guarded | (go_at_call 14; (with_reducible refine HSAY1.out.mono ?_); rintro _ u2 ⟨vs, rfl, hO2, hb2⟩) | go_values | go_skip | go_guarded | go_step | go_upon | go_back | ((with_reducible show Oper.upon _ _ _ _ _ _); go_simp) | (dsimp only)))
          have HS2 : (fun u => Below w.heap.size w u ∧ u.heap[w.heap.size]? = some (.cells iv.toArray 32 (0, 0)) ∧ u.heap[w.heap.size + 1]? = some (.cells rv.toArray 33 (0, 0)) ∧ u.heap[w.heap.size + 1 + 1]? = some (.cells #[.slice ia inp.length ic, .int .u64 r0, .int .u64 r1, .int .u64 r2, .int .u64 r3, .int .u64 r4, .int .u64 r5, .int .u64 r6, .int .u64 r7, vm] 27 (0, 0))) u2 := ⟨HSC.1.trans (hb2.mono HSC.1.size), (hb2.block _ (lt_of_block HSC.2.1)).trans HSC.2.1, (hb2.block _ (lt_of_block HSC.2.2.1)).trans HSC.2.2.1, (hb2.block _ (lt_of_block HSC.2.2.2)).trans HSC.2.2.2⟩
          have hO3 := owns_kept hO (Kept.ofBelow (X := fun _ => True) hb2) (fun _ _ => trivial)
          have hsz2 : w.heap.size + 3 ≤ u2.heap.size := lt_of_block HS2.2.2.2
          refine ⟨HS2, ?_⟩
          refine wpAnyH_all (rs := [9]) (by kernel_rfl) (by simp) (fun i hi => ?_)
          obtain rfl : i = 9 := by simpa using hi
          refine wpOp_one rfl ?_
          (repeat (first | (with_reducible first | refine xA ?_ | refine xB ?_ | refine xC ?_ | refine xD ?_ | refine xH ?_ | refine xI rfl ?_ | refine xE ?_ | refine xF ?_ | refine xG ?_) | go_skip | go_guarded | ((with_reducible refine wl_id ?_); refine wl_appendO rfl _ _ rfl (w.heap.size + 3) (.slice av fl.length cv) fl.length fl rfl hO3 u0.heap.size l.length vs (sayL l x) rfl hO2 (by have := hCL.out; have := HLB.out.1; omega) hsz2 ?_; intro v9 w9 hO9 hg9 hl9; (try simp only [Act.put, qz4, qz5, qz6])) | go_values | go_skip | go_guarded | go_step | go_upon | go_back | ((with_reducible show Oper.upon _ _ _ _ _ _); go_simp) | (dsimp only)))
          have hne9 : ∀ q, (Value.slice av fl.length cv).ownBlock = some q → w.heap.size + 3 ≤ q := fun q e => (hO3.lt q e).1
          have HS9 : (fun u => Below w.heap.size w u ∧ u.heap[w.heap.size]? = some (.cells iv.toArray 32 (0, 0)) ∧ u.heap[w.heap.size + 1]? = some (.cells rv.toArray 33 (0, 0)) ∧ u.heap[w.heap.size + 1 + 1]? = some (.cells #[.slice ia inp.length ic, .int .u64 r0, .int .u64 r1, .int .u64 r2, .int .u64 r3, .int .u64 r4, .int .u64 r5, .int .u64 r6, .int .u64 r7, vm] 27 (0, 0))) w9 := ⟨below_grown HS2.1 hg9 (fun q e => by have := hne9 q e; omega), keep_at hg9 HS2.2.1 (fun e => by have := hne9 _ e.symm; omega), keep_at hg9 HS2.2.2.1 (fun e => by have := hne9 _ e.symm; omega), keep_at hg9 HS2.2.2.2 (fun e => by have := hne9 _ e.symm; omega)⟩
          obtain ⟨a9, c9, rfl⟩ := ownsRow_shape hO9
          refine ⟨HS9, ?_⟩
          clear HSC
          have HSC := HS9
          (refine wpAnyH_take (i := 10) (v := .slice a9 (fl.length + l.length) c9) rfl (by kernel_rfl) (by kernel_rfl) (by kernel_rfl) (fun _ _ _ h => h) (Or.inl ⟨rfl, fun w _ => by go_simp⟩) HSC ?_; simp only [Act.put, qz1, qz2, qz3, qz4, qz5, qz6])
          refine wpAnyH_done (by kernel_rfl) ?_ _
          have HO9 := Lib.hid hO9
          clear HSC hO9 hg9 hl9 hO2 hO3 hsz2 hne9 HS2 hO hb2 HSAY1
          (repeat (first | (with_reducible first | refine xA ?_ | refine xB ?_ | refine xC ?_ | refine xD ?_ | refine xH ?_ | refine xI rfl ?_ | refine xE ?_ | refine xF ?_ | refine xG ?_) | go_values | go_skip | go_guarded | go_step | go_upon | go_back | ((with_reducible show Oper.upon _ _ _ _ _ _); go_simp) | (dsimp only)))
          exact ⟨⟨k + 1, by omega, by go_num, Lib.hid (by rw [HF.out, List.length_append, sayL_len]; exact HO9.out), HS9⟩, by simp [intOf]; omega⟩
        · have HFIN : Hid (ai ++ frI R b.reg k = frB I R b) := Lib.hid (by
            have e : k = 8 := by omega
            rw [e, ← HAI.out]
            rfl)
          obtain ⟨fl, hfl⟩ : ∃ fl, ai ++ frI R b.reg k = fl := ⟨_, rfl⟩
          rw [hfl] at HO HFIN
          have hkn8 : ¬ ((k : Int) < 8) := by omega
          obtain ⟨av, cv, rfl⟩ := ownsRow_shape HO.out
          clear hk hge hfl
          (repeat (first | (with_reducible first | refine xA ?_ | refine xB ?_ | refine xC ?_ | refine xD ?_ | refine xH ?_ | refine xI rfl ?_ | refine xE ?_ | refine xF ?_ | refine xG ?_) | go_values | go_skip | go_guarded | go_step | go_upon | go_back | ((with_reducible show Oper.upon _ _ _ _ _ _); go_simp) | (dsimp only)))
          go_ret
          rw [← HFIN.out]
          exact ⟨⟨_, rfl, HO.out⟩, hS.1⟩
end Go.Proofs.YtmaogkgjiplckaaGreat
namespace Go.Proofs.YtmaogkgjiplckaaGreat
open Go.RowKit
theorem flat_set_perm {l : List (List Int)} {i : Nat} {v : List Int} (hi : i < l.length) (h0 : l.getD i [] = []) : (l.set i v).flatten.Perm (l.flatten ++ v) := by
  induction l generalizing i with
  | nil => simp at hi
  | cons a l ih =>
    rcases i with _ | i
    · have e : a = [] := by simpa using h0
      subst e
      rw [List.set_cons_zero, List.flatten_cons, List.flatten_cons, List.nil_append]
      exact List.perm_append_comm
    · rw [List.set_cons_succ, List.flatten_cons, List.flatten_cons, List.append_assoc]
      exact (ih (by simpa using hi) (by simpa using h0)).append_left a
structure BD (b : BS) : Prop where
  nd : (b.inp.flatten ++ b.reg.flatten).Nodup
  rng : ∀ v ∈ b.inp.flatten ++ b.reg.flatten, 1 ≤ v ∧ v ≤ (b.g.n : Int)
theorem freeL_nd (n k : Nat) : (freeL n k).Nodup := by
  unfold freeL
  exact List.Pairwise.map _ (fun a b (h : a ≠ b) => by show ((n + 1 + a : Nat) : Int) ≠ ((n + 1 + b : Nat) : Int); omega) List.nodup_range
theorem freeL_rng {n k : Nat} : ∀ v ∈ freeL n k, (n : Int) + 1 ≤ v ∧ v ≤ ((n + k : Nat) : Int) := by
  intro v hv
  unfold freeL at hv
  obtain ⟨i, hi, rfl⟩ := List.mem_map.1 hv
  rw [List.mem_range] at hi
  omega
theorem bd_more {b : BS} (h : BD b) {k : Nat} {fl : List Int} (hp : fl.Perm ((b.inp.flatten ++ b.reg.flatten) ++ freeL b.g.n k)) : fl.Nodup ∧ ∀ v ∈ fl, 1 ≤ v ∧ v ≤ ((b.g.n + k : Nat) : Int) := by
  refine ⟨hp.nodup_iff.2 (List.nodup_append.2 ⟨h.nd, freeL_nd _ _, ?_⟩), fun v hv => ?_⟩
  · intro x hx y hy e
    have := (h.rng x hx).2
    have := (freeL_rng y hy).1
    omega
  · rcases List.mem_append.1 (hp.mem_iff.1 hv) with hx | hx
    · have := h.rng v hx; omega
    · have := freeL_rng v hx; omega
theorem perm_mid {a b c : List Int} : (a ++ c ++ b).Perm (a ++ b ++ c) := by
  rw [List.append_assoc, List.append_assoc]
  exact List.perm_append_comm.append_left a
theorem bword_rest {b : BS} {d : Nd} (h1 : d.op ≠ 1) (h2 : d.op ≠ 2) : (bword b d).1.inp = b.inp ∧ (bword b d).1.reg = b.reg := by
  unfold bword
  by_cases h0 : d.op = 0
  · rw [if_pos h0]; exact ⟨rfl, rfl⟩
  rw [if_neg h0, if_neg h1, if_neg h2]
  by_cases h6 : d.op = 6
  · rw [if_pos h6]; exact ⟨rfl, rfl⟩
  rw [if_neg h6]
  by_cases h7 : d.op = 7
  · rw [if_pos h7]; exact ⟨rfl, rfl⟩
  rw [if_neg h7]
  by_cases h22 : d.op = 22
  · rw [if_pos h22]; exact ⟨rfl, rfl⟩
  · rw [if_neg h22]; exact ⟨rfl, rfl⟩
theorem bd_word {b : BS} (h : BD b) (hil : b.inp.length = 16) (hrl : b.reg.length = 8) (d : Nd) (hg : b.g.n ≤ (bword b d).1.g.n) (hn1 : d.op = 1 → 0 ≤ d.n ∧ d.n < 16) (hn2 : d.op = 2 → 0 ≤ d.n ∧ d.n < 8) : BD (.push (bword b d)) := by
  have same : (bword b d).1.inp = b.inp → (bword b d).1.reg = b.reg → BD (.push (bword b d)) := fun e1 e2 => by
    refine ⟨?_, ?_⟩
    · show ((bword b d).1.inp.flatten ++ (bword b d).1.reg.flatten).Nodup
      rw [e1, e2]; exact h.nd
    · show ∀ v ∈ (bword b d).1.inp.flatten ++ (bword b d).1.reg.flatten, 1 ≤ v ∧ v ≤ ((bword b d).1.g.n : Int)
      rw [e1, e2]
      intro v hv
      have := h.rng v hv
      omega
  by_cases h1 : d.op = 1
  · have hb := hn1 h1
    by_cases h0 : b.inp.getD d.n.toNat [] = []
    · have e : bword b d = (⟨addV b.g 8, b.ws, b.inp.set d.n.toNat (freeL b.g.n 8), b.reg⟩, freeL b.g.n 8) := by unfold bword; rw [if_neg (by omega), if_pos h1, if_pos h0]
      rw [e]
      obtain ⟨p1, p2⟩ := bd_more h (k := 8) (fl := (b.inp.set d.n.toNat (freeL b.g.n 8)).flatten ++ b.reg.flatten) (((flat_set_perm (by rw [hil]; omega) h0).append_right _).trans perm_mid)
      exact ⟨p1, p2⟩
    · exact same (by unfold bword; rw [if_neg (by omega), if_pos h1, if_neg h0]) (by unfold bword; rw [if_neg (by omega), if_pos h1, if_neg h0])
  by_cases h2 : d.op = 2
  · have hb := hn2 h2
    by_cases h0 : b.reg.getD d.n.toNat [] = []
    · have e : bword b d = (⟨addV b.g 64, b.ws, b.inp, b.reg.set d.n.toNat (freeL b.g.n 64)⟩, freeL b.g.n 64) := by unfold bword; rw [if_neg (by omega), if_neg (by omega), if_pos h2, if_pos h0]
      rw [e]
      obtain ⟨p1, p2⟩ := bd_more h (k := 64) (fl := b.inp.flatten ++ (b.reg.set d.n.toNat (freeL b.g.n 64)).flatten) (by
        rw [List.append_assoc]
        exact (flat_set_perm (by rw [hrl]; omega) h0).append_left _)
      exact ⟨p1, p2⟩
    · exact same (by unfold bword; rw [if_neg (by omega), if_neg (by omega), if_pos h2, if_neg h0]) (by unfold bword; rw [if_neg (by omega), if_neg (by omega), if_pos h2, if_neg h0])
  · exact same (bword_rest h1 h2).1 (bword_rest h1 h2).2
theorem leaf_has {b : BS} (d : Nd) (hil : b.inp.length = 16) (hrl : b.reg.length = 8) (hn1 : d.op = 1 → 0 ≤ d.n ∧ d.n < 16) (hn2 : d.op = 2 → 0 ≤ d.n ∧ d.n < 8) :
    (∀ i, i < 16 → (((bword b d).1.inp.getD i [] = []) ↔ (b.inp.getD i [] = [] ∧ hasB 1 i d = false))) ∧ ∀ i, i < 8 → (((bword b d).1.reg.getD i [] = []) ↔ (b.reg.getD i [] = [] ∧ hasB 2 i d = false)) := by
  have f8 : freeL b.g.n 8 ≠ [] := fun e => by have := freeL_len b.g.n 8; rw [e] at this; cases this
  have f64 : freeL b.g.n 64 ≠ [] := fun e => by have := freeL_len b.g.n 64; rw [e] at this; cases this
  have hb : ∀ (op : Int) (i : Nat), hasB op i d = false ↔ ¬ (d.op = op ∧ d.n = i) := fun op i => by
    unfold hasB
    rw [Bool.and_eq_false_iff, beq_eq_false_iff_ne, beq_eq_false_iff_ne]
    omega
  have same : (bword b d).1.inp = b.inp → (bword b d).1.reg = b.reg → (d.op = 1 → b.inp.getD d.n.toNat [] ≠ []) → (d.op = 2 → b.reg.getD d.n.toNat [] ≠ []) → _ := fun e1 e2 k1 k2 => (show
    (∀ i, i < 16 → (((bword b d).1.inp.getD i [] = []) ↔ (b.inp.getD i [] = [] ∧ hasB 1 i d = false))) ∧ ∀ i, i < 8 → (((bword b d).1.reg.getD i [] = []) ↔ (b.reg.getD i [] = [] ∧ hasB 2 i d = false)) by
      rw [e1, e2]
      refine ⟨fun i hi => ⟨fun h => ⟨h, (hb 1 i).2 fun e => k1 e.1 (by rw [e.2, Int.toNat_natCast]; exact h)⟩, fun h => h.1⟩, fun i hi => ⟨fun h => ⟨h, (hb 2 i).2 fun e => k2 e.1 (by rw [e.2, Int.toNat_natCast]; exact h)⟩, fun h => h.1⟩⟩)
  by_cases h1 : d.op = 1
  · have hbd := hn1 h1
    by_cases h0 : b.inp.getD d.n.toNat [] = []
    · have e : bword b d = (⟨addV b.g 8, b.ws, b.inp.set d.n.toNat (freeL b.g.n 8), b.reg⟩, freeL b.g.n 8) := by unfold bword; rw [if_neg (by omega), if_pos h1, if_pos h0]
      rw [e]
      refine ⟨fun i hi => ?_, fun i hi => ⟨fun h => ⟨h, (hb 2 i).2 (by omega)⟩, fun h => h.1⟩⟩
      show (b.inp.set d.n.toNat (freeL b.g.n 8)).getD i [] = [] ↔ _
      by_cases ei : d.n.toNat = i
      · subst ei
        rw [getD_set_self _ (by rw [hil]; omega)]
        exact ⟨fun h => absurd h f8, fun h => absurd ⟨h1, by omega⟩ ((hb 1 _).1 h.2)⟩
      · rw [getD_set_ne _ ei]
        exact ⟨fun h => ⟨h, (hb 1 i).2 (by omega)⟩, fun h => h.1⟩
    · exact same (by unfold bword; rw [if_neg (by omega), if_pos h1, if_neg h0]) (by unfold bword; rw [if_neg (by omega), if_pos h1, if_neg h0]) (fun _ => h0) (by omega)
  by_cases h2 : d.op = 2
  · have hbd := hn2 h2
    by_cases h0 : b.reg.getD d.n.toNat [] = []
    · have e : bword b d = (⟨addV b.g 64, b.ws, b.inp, b.reg.set d.n.toNat (freeL b.g.n 64)⟩, freeL b.g.n 64) := by unfold bword; rw [if_neg (by omega), if_neg (by omega), if_pos h2, if_pos h0]
      rw [e]
      refine ⟨fun i hi => ⟨fun h => ⟨h, (hb 1 i).2 (by omega)⟩, fun h => h.1⟩, fun i hi => ?_⟩
      show (b.reg.set d.n.toNat (freeL b.g.n 64)).getD i [] = [] ↔ _
      by_cases ei : d.n.toNat = i
      · subst ei
        rw [getD_set_self _ (by rw [hrl]; omega)]
        exact ⟨fun h => absurd h f64, fun h => absurd ⟨h2, by omega⟩ ((hb 2 _).1 h.2)⟩
      · rw [getD_set_ne _ ei]
        exact ⟨fun h => ⟨h, (hb 2 i).2 (by omega)⟩, fun h => h.1⟩
    · exact same (by unfold bword; rw [if_neg (by omega), if_neg (by omega), if_pos h2, if_neg h0]) (by unfold bword; rw [if_neg (by omega), if_neg (by omega), if_pos h2, if_neg h0]) (by omega) (fun _ => h0)
  · exact same (bword_rest h1 h2).1 (bword_rest h1 h2).2 (fun e => absurd e h1) (fun e => absurd e h2)
structure BLv (ls : List Nd) (k : Nat) (b : BS) : Prop where
  d : BD b
  hi : ∀ i, i < 16 → ((b.inp.getD i [] = []) ↔ (ls.take k).any (hasB 1 i) = false)
  hr : ∀ i, i < 8 → ((b.reg.getD i [] = []) ↔ (ls.take k).any (hasB 2 i) = false)
theorem leaves_ok {ls : List Nd} (hT : TF ls) : ∀ k, k ≤ ls.length → BLv ls k (bK ls k) := by
  intro k
  induction k with
  | zero =>
    intro _
    refine ⟨⟨show ((List.replicate 16 ([] : List Int)).flatten ++ (List.replicate 8 ([] : List Int)).flatten).Nodup by decide, fun v hv => by simp [bK, bs0] at hv⟩, fun i hi => ?_, fun i hi => ?_⟩
    · have e : (bK ls 0).inp.getD i [] = [] := by
        show (List.replicate 16 ([] : List Int)).getD i [] = []
        rw [List.getD_eq_getElem?_getD, List.getElem?_replicate, if_pos hi]; rfl
      rw [e]; simp
    · have e : (bK ls 0).reg.getD i [] = [] := by
        show (List.replicate 8 ([] : List Int)).getD i [] = []
        rw [List.getD_eq_getElem?_getD, List.getElem?_replicate, if_pos hi]; rfl
      rw [e]; simp
  | succ k ih =>
    intro hk
    have h := ih (by omega)
    have hd := List.getElem?_eq_getElem (show k < ls.length by omega)
    obtain ⟨s, hs⟩ := blast_ok (I := fun _ => 0) (R := fun _ => 0) hT (fun _ => by decide) (fun _ => by decide) k (by omega)
    obtain ⟨s', hst⟩ := step_ok hT hs hd (fun _ => by decide) (fun _ => by decide)
    have hn1 : ls[k].op = 1 → 0 ≤ ls[k].n ∧ ls[k].n < 16 := fun e => by
      cases hT k _ hd <;> first | omega | exact ⟨by assumption, by assumption⟩
    have hn2 : ls[k].op = 2 → 0 ≤ ls[k].n ∧ ls[k].n < 8 := fun e => by
      cases hT k _ hd <;> first | omega | exact ⟨by assumption, by assumption⟩
    have e : bK ls (k + 1) = .push (bword (bK ls k) ls[k]) := by rw [bK, hd]
    obtain ⟨l1, l2⟩ := leaf_has ls[k] hs.il hs.rl hn1 hn2
    rw [e]
    refine ⟨bd_word h.d hs.il hs.rl _ hst.st.le hn1 hn2, fun i hi => ?_, fun i hi => ?_⟩
    · show ((bword (bK ls k) ls[k]).1.inp.getD i [] = []) ↔ _
      rw [l1 i hi, h.hi i hi, List.take_add_one, hd, List.any_append, Bool.or_eq_false_iff]
      simp
    · show ((bword (bK ls k) ls[k]).1.reg.getD i [] = []) ↔ _
      rw [l2 i hi, h.hr i hi, List.take_add_one, hd, List.any_append, Bool.or_eq_false_iff]
      simp
end Go.Proofs.YtmaogkgjiplckaaGreat
namespace Go.Proofs.YtmaogkgjiplckaaGreat
open Go.RowKit
theorem spread_b {Y Z : Nat → Prop} {g : G} {fr : List Int} {s : Nat → Bool} (q : Nat) (w1 : World) (hI : GI g fr s) (hn : g.n ≤ 1048576) (hm : g.cl.length ≤ 4194304) {vs : List Value} (hO : OwnW w1 q g.cl.length vs) (hS : SlsX Z w1 vs g.cl) {vf : Value} (hF : SlX Y w1 vf fr) (hfl : fr.length ≤ 1000000) :
    Calls Tryz.prog 10 #[.slice (some ⟨q, 0, none⟩) g.cl.length g.cl.length, vf] w1 fun e w' => ∃ a c, e = .returned (.tuple #[.slice a g.n c, .bool true]) ∧ SlX (fun _ => True) w' (.slice a g.n c) (toldL g.n s) ∧ Below w1.heap.size w1 w' := by
  refine (Spread_any (Y := fun _ => True) w1 q g.cl.length vs g.cl vf fr hO.rows hO.lt (hS.mono fun _ _ _ => trivial) rfl (hF.mono fun _ _ _ => trivial) (fun c hc x hx => isL_ok (hI.rng c hc x hx) hn) (fun x hx => isL_ok (hI.frm x hx).1 hn) (by omega) (fun c hc => by have := hI.len c hc; omega) hfl hI.der1).mono ?_
  rintro e w' (⟨hcf, _⟩ | ⟨v, out, is, rfl, hO2, hi, hcons, hnod, hp, hs, _, hb⟩)
  · exact absurd hcf (no_conflict hI)
  · have ht := told_of hI hi hcons hnod hp hs
    subst ht
    rw [toldL_len] at hO2
    have hsl := told_sl hO2
    obtain ⟨a, c, rfl⟩ := ownsRow_shape hO2
    exact ⟨a, c, rfl, hsl, hb⟩
def lsA : List Nd := [⟨1, 8, 0, 0, 0, 0⟩, ⟨0, 8, 65, 0, 0, 0⟩, ⟨19, 1, 0, 0, 1, 0⟩]
theorem lsA_tf : TF lsA := (tf_of (ls := lsA) (by decide) (by decide) (fun d hd => arr_no.1 (by
  simp only [lsA, List.mem_cons, List.not_mem_nil, or_false] at hd
  rcases hd with rfl | rfl | rfl <;> rfl)) (by
  intro d hd
  simp only [lsA, List.mem_cons, List.not_mem_nil, or_false] at hd
  rcases hd with rfl | rfl | rfl <;> (unfold NdWf; decide))).1
theorem mem_fr {I R : Nat → Nat} {b : BS} (x : Int) : x ∈ frB I R b ↔ (∃ i, i < 16 ∧ x ∈ sayL (b.inp.getD i []) (I i)) ∨ ∃ i, i < 8 ∧ x ∈ sayL (b.reg.getD i []) (R i) := by
  unfold frB
  simp only [List.mem_append, List.mem_flatMap, List.mem_range]
theorem ex_plain : ∃ (b : BS) (z : Int) (l : List Int) (s : Nat → Bool), bK lsA 3 = b ∧ b.at 2 = [z] ∧ b.inp.getD 0 [] = l ∧ l.length = 8 ∧ (∀ a ∈ l, -1048576 ≤ a ∧ a ≤ 1048576) ∧ GI b.g (sayL l 65) s ∧ isL b.g.n z ∧ lit s z = true ∧ b.g.n ≤ 1048576 := by
  obtain ⟨s, hs⟩ := blast_ok (I := fun _ => 65) (R := fun _ => 0) lsA_tf (fun _ => by decide) (fun _ => by decide) 3 (by decide)
  have hlv := leaves_ok lsA_tf 3 (by decide)
  have hn := blast_n lsA_tf 3 (by decide)
  have hc : costL (lsA.take 3) = 39000 := by decide
  rw [hc] at hn
  have W := hs.ws 2 (by decide)
  have hw : (wAt lsA ((2 : Nat) : Int)).toNat = 1 := by decide
  have hv : (vK (fun _ => 65) (fun _ => 0) lsA 3).getD 2 0 = 1 := by decide
  rw [hw, hv] at W
  obtain ⟨z, hz⟩ : ∃ z, (bK lsA 3).at ((2 : Nat) : Int) = [z] := List.length_eq_one_iff.1 W.len
  rw [hz] at W
  have hnz := W.num
  rw [num_one] at hnz
  have hzl := W.isl z (List.mem_singleton.2 rfl)
  have h0 : (bK lsA 3).inp.getD 0 [] ≠ [] := fun e => by
    have := (hlv.hi 0 (by decide)).1 e
    revert this; decide
  have W0 := (hs.inp 0 (by decide)).resolve_left h0
  refine ⟨bK lsA 3, z, _, s, rfl, hz, rfl, W0.len, fun a ha => rng_of (W0.isl a ha) (by omega), hs.gi.congr fun x => ?_, hzl, ?_, by omega⟩
  · rw [mem_fr]
    constructor
    · intro hx; exact .inl ⟨0, by decide, hx⟩
    · rintro (⟨i, hi, hx⟩ | ⟨i, hi, hx⟩)
      · by_cases e : i = 0
        · subst e; exact hx
        · have hne : (lsA.take 3).any (hasB 1 i) = false := by
            have : hasB 1 i ⟨1, 8, 0, 0, 0, 0⟩ = false := by unfold hasB; simp; omega
            show (hasB 1 i ⟨1, 8, 0, 0, 0, 0⟩ || (hasB 1 i ⟨0, 8, 65, 0, 0, 0⟩ || (hasB 1 i ⟨19, 1, 0, 0, 1, 0⟩ || false))) = false
            rw [this]; rfl
          rw [(hlv.hi i hi).2 hne] at hx
          simp [sayL] at hx
      · have hne : (lsA.take 3).any (hasB 2 i) = false := rfl
        rw [(hlv.hr i hi).2 hne] at hx
        simp [sayL] at hx
  · cases h : lit s z
    · rw [h] at hnz; cases hnz
    · rfl
theorem rowA (w : World) (t : TypeId) : RowAt 6 Nd.cells (w.alloc (.cells #[.int .i64 1, .int .i64 8, .int .u64 0, .int .i64 0, .int .i64 0, .int .i64 0, .int .i64 0, .int .i64 8, .int .u64 65, .int .i64 0, .int .i64 0, .int .i64 0, .int .i64 19, .int .i64 1, .int .u64 0, .int .i64 0, .int .i64 1, .int .i64 0] t)) w.heap.size 0 lsA := by
  intro i e hi j c hj
  have key : ∀ (m : Nat), (w.alloc (.cells #[.int .i64 1, .int .i64 8, .int .u64 0, .int .i64 0, .int .i64 0, .int .i64 0, .int .i64 0, .int .i64 8, .int .u64 65, .int .i64 0, .int .i64 0, .int .i64 0, .int .i64 19, .int .i64 1, .int .u64 0, .int .i64 0, .int .i64 1, .int .i64 0] t)).cell? ⟨w.heap.size, m, none⟩ = (lsA.flatMap Nd.cells)[m]? := fun m => by
    rw [cell_of_row _ _ m _ _ _ (heap_alloc_new w _), List.getElem?_toArray]
    rfl
  rw [Nat.zero_add, key]
  match i, hi with
  | 0, hi =>
    obtain rfl : _ = e := by simpa [lsA] using hi
    have hj6 : j < 6 := (List.getElem?_eq_some_iff.1 hj).1
    match j, hj6, hj with
    | 0, _, hj => exact hj
    | 1, _, hj => exact hj
    | 2, _, hj => exact hj
    | 3, _, hj => exact hj
    | 4, _, hj => exact hj
    | 5, _, hj => exact hj
  | 1, hi =>
    obtain rfl : _ = e := by simpa [lsA] using hi
    have hj6 : j < 6 := (List.getElem?_eq_some_iff.1 hj).1
    match j, hj6, hj with
    | 0, _, hj => exact hj
    | 1, _, hj => exact hj
    | 2, _, hj => exact hj
    | 3, _, hj => exact hj
    | 4, _, hj => exact hj
    | 5, _, hj => exact hj
  | 2, hi =>
    obtain rfl : _ = e := by simpa [lsA] using hi
    have hj6 : j < 6 := (List.getElem?_eq_some_iff.1 hj).1
    match j, hj6, hj with
    | 0, _, hj => exact hj
    | 1, _, hj => exact hj
    | 2, _, hj => exact hj
    | 3, _, hj => exact hj
    | 4, _, hj => exact hj
    | 5, _, hj => exact hj
  | i + 3, hi => simp [lsA] at hi
theorem fc_inp {c0 c1 c2 : Value} {iv rv : List Value} {i : Nat} {v : Value} (h : iv[i]? = some v) : (fcells c0 c1 c2 iv rv)[3 + i]? = some v := by
  have hl := (List.getElem?_eq_some_iff.1 h).1
  unfold fcells
  rw [List.getElem?_append_right (by show 3 ≤ _; omega), show 3 + i - [c0, c1, c2].length = i by simp, List.getElem?_append_left hl]
  exact h
theorem fc_reg {c0 c1 c2 : Value} {iv rv : List Value} (hi : iv.length = 16) {i : Nat} {v : Value} (h : rv[i]? = some v) : (fcells c0 c1 c2 iv rv)[19 + i]? = some v := by
  unfold fcells
  rw [List.getElem?_append_right (by show 3 ≤ _; omega), show 19 + i - [c0, c1, c2].length = 16 + i by simp; omega, List.getElem?_append_right (by omega), hi, show 16 + i - 16 = i by omega]
  exact h
set_option maxRecDepth 100000 in
set_option maxHeartbeats 4000000 in
theorem awake16_any (w : World) : Calls Tryz.prog 6 #[] w fun e w' => e = .returned (.bool true) ∧ Below w.heap.size w w' := by
  obtain ⟨b, z, l, s, hb, hz, hl, hll, hlb, hGI, hzl, hzt, hn⟩ := ex_plain
  have HOF : Hid (∀ u : World, Calls Tryz.prog 8 #[.slice (some ⟨u.heap.size, 0, none⟩) 3 3] (u.alloc (.cells #[.int .i64 1, .int .i64 8, .int .u64 0, .int .i64 0, .int .i64 0, .int .i64 0, .int .i64 0, .int .i64 8, .int .u64 65, .int .i64 0, .int .i64 0, .int .i64 0, .int .i64 19, .int .i64 1, .int .u64 0, .int .i64 0, .int .i64 1, .int .i64 0] 49)) fun e w' => OfRes b [z] e w' ∧ Below (u.heap.size + 1) (u.alloc (.cells #[.int .i64 1, .int .i64 8, .int .u64 0, .int .i64 0, .int .i64 0, .int .i64 0, .int .i64 0, .int .i64 8, .int .u64 65, .int .i64 0, .int .i64 0, .int .i64 0, .int .i64 19, .int .i64 1, .int .u64 0, .int .i64 0, .int .i64 1, .int .i64 0] 49)) w') := Lib.hid (fun u => by
    have h := of_ok lsA _ _ ⟨_, 3, rfl, Nat.le_refl _, by simp, fun _ => ⟨_, _, rfl, rowA u 49⟩⟩ (by
      intro d hd
      simp only [lsA, List.mem_cons, List.not_mem_nil, or_false] at hd
      rcases hd with rfl | rfl | rfl <;> (unfold NdWf; decide)) (by decide) (by decide) lsA_tf (by decide) (by
      intro d hd
      simp only [lsA, List.mem_cons, List.not_mem_nil, or_false] at hd
      rcases hd with rfl | rfl | rfl <;> decide) (by decide) (fun k hk => light_n lsA_tf (by decide) k hk)
    have e3 : bK lsA lsA.length = b := hb
    have e4 : (bK lsA lsA.length).at ((lsA.length - 1 : Nat) : Int) = [z] := by rw [e3]; exact hz
    rw [e4, e3] at h
    have hsz : (u.alloc (.cells #[.int .i64 1, .int .i64 8, .int .u64 0, .int .i64 0, .int .i64 0, .int .i64 0, .int .i64 0, .int .i64 8, .int .u64 65, .int .i64 0, .int .i64 0, .int .i64 0, .int .i64 19, .int .i64 1, .int .u64 0, .int .i64 0, .int .i64 1, .int .i64 0] 49)).heap.size = u.heap.size + 1 := by simp
    rw [hsz] at h
    exact h)
  have hil0 : b.inp.length = 16 := by
    obtain ⟨s0, hs0⟩ := blast_ok (I := fun _ => 0) (R := fun _ => 0) lsA_tf (fun _ => by decide) (fun _ => by decide) 3 (by decide)
    rw [hb] at hs0
    exact hs0.il
  have HL0 := Lib.hid (show b.inp[0]? = some l by rw [← hl, List.getD_eq_getElem?_getD, List.getElem?_eq_getElem (by omega)]; rfl)
  have HLL := Lib.hid hll
  have HLB := Lib.hid hlb
  have HGI := Lib.hid hGI
  have HZL := Lib.hid hzl
  have HZT := Lib.hid hzt
  have HN := Lib.hid hn
  clear hb hz hl hll hlb hGI hzl hzt hn hil0
  go_enter Tryz.func6, Tryz.ntmps6
  (repeat (first | (with_reducible first | refine xA ?_ | refine xB ?_ | refine xC ?_ | refine xD ?_ | refine xH ?_ | refine xI rfl ?_ | refine xE ?_ | refine xF ?_ | refine xG ?_) | go_skip | go_guarded | (go_at_call 8; (with_reducible refine (HOF.out _).mono ?_); rintro _ w2 ⟨⟨q, cs, ar, cr, iv, rv, rfl, hO, hC, hR, hil, hrl, hI, hRg, hni, hnr, hcm⟩, hb2⟩) | ((with_reducible refine wl_id ?_); refine wl_strow rfl 35 _ _ rfl w2.heap.size _ rfl rfl 35 fzero.toArray (heap_alloc_new w2 _) (by rw [List.size_toArray, fcells_len hil hrl]; exact sizeTF) (by rw [List.size_toArray, List.size_toArray, fcells_len hil hrl, fzero_len]) (fcells_one rfl rfl rfl (slsx_one hI) (slsx_one hRg)) ?_; intro w4 hh4 hg4; have hb4 := below_grown (Below.alloc (Below.refl w2.heap.size w2) (Nat.le_refl _) _) hg4 (fun k e => by injection e with e; omega); have HQ := Lib.hid ((hO.kept (Kept.ofBelow (X := fun _ => True) hb4) trivial)); have HC := Lib.hid (hC.kept (Kept.ofBelow hb4)); have HRT := Lib.hid (hR.kept (Kept.ofBelow hb4)); have HCM := Lib.hid hcm; have hc0 : w4.cell? ⟨w2.heap.size, 0, none⟩ = some (.slice (some ⟨q, 0, none⟩) b.g.cl.length b.g.cl.length) := (cell_of_row w4 w2.heap.size 0 _ _ _ hh4).trans rfl; have hc2 : w4.cell? ⟨w2.heap.size, 2, none⟩ = some (.slice ar 1 cr) := (cell_of_row w4 w2.heap.size 2 _ _ _ hh4).trans rfl; (obtain ⟨v0, hv0⟩ : ∃ v0, iv[0]? = some v0 := ⟨_, List.getElem?_eq_getElem (by omega)⟩); have hsl0 := (hI.2 0 v0 l hv0 HL0.out).kept (Kept.ofBelow hb4); (obtain ⟨a0, c0, rfl⟩ := slx_shape hsl0 HLL.out); have HSL0 := Lib.hid hsl0; have hc3 := (cell_of_row w4 w2.heap.size 3 _ _ _ hh4).trans ((List.getElem?_toArray ..).trans (fc_inp hv0)); replace hb2 := (Below.alloc (Below.refl w.heap.size w) (Nat.le_refl _) _).trans (hb2.mono (Nat.le_succ _)); replace hb4 := hb2.trans (hb4.mono hb2.size); clear hsl0 hv0 hh4 hg4 hO hC hR hil hrl hI hRg hni hnr hcm; (try simp only [Act.put, qz4, qz5, qz6])) | go_values | go_skip | go_guarded | go_step | go_upon | go_back | ((with_reducible show Oper.upon _ _ _ _ _ _); go_simp) | (dsimp only)))
  obtain ⟨br, orr, rfl, -, hbr, -, hRz⟩ := HRT.out.row Nat.zero_lt_one
  have hcz := hRz 0 z rfl
  rw [Nat.add_zero] at hcz
  have hbq : w2.heap.size < w4.heap.size := World.block_lt_of_cell? w4 _ hc0
  have hsz4 := hb2.size
  clear hRz HRT hbr hb2
  generalize w2.heap.size = q1 at *
  refine wp_region_held (S := fun u => u.cell? ⟨q1, 0, none⟩ = some (.slice (some ⟨q, 0, none⟩) b.g.cl.length b.g.cl.length) ∧ u.cell? ⟨q1, 3, none⟩ = some (.slice a0 8 c0)) (by kernel_rfl) ?_
  have hbd : Below w4.heap.size w4 ({ w4 with drawn := w4.drawn + 1 } : World) := ⟨rfl, rfl, rfl, Nat.le_refl _, fun _ _ => rfl⟩
  have HSC := And.intro (cell_keep hbd hc0) (cell_keep hbd hc3)
  have HW4 := Lib.hid hbd.size
  generalize ({ w4 with drawn := w4.drawn + 1 } : World) = u0 at *
  refine wpAnyH_take (i := 0) (v := .pointer (some ⟨q1, 0, none⟩)) rfl (by kernel_rfl) (by kernel_rfl) (by kernel_rfl) (fun _ _ _ h => h) (Or.inl ⟨rfl, fun w _ => by go_simp⟩) HSC ?_; simp only [Act.put, qz1, qz2, qz3, qz4, qz5, qz6]
  refine wpAnyH_take (i := 1) (v := .slice (some ⟨q, 0, none⟩) b.g.cl.length b.g.cl.length) rfl (by kernel_rfl) (by kernel_rfl) (by kernel_rfl) (fun _ _ _ h => h) (Or.inl ⟨rfl, fun w hw => by have h := hw.1; go_simp⟩) HSC ?_
  simp only [Act.put, qz1, qz2, qz3, qz4, qz5, qz6]
  refine wpAnyH_take (i := 2) (v := .pointer (some ⟨q1, 3, none⟩)) rfl (by kernel_rfl) (by kernel_rfl) (by kernel_rfl) (fun _ _ _ h => h) (Or.inl ⟨rfl, fun w _ => by go_simp⟩) HSC ?_; simp only [Act.put, qz1, qz2, qz3, qz4, qz5, qz6]
  refine wpAnyH_take (i := 3) (v := .pointer (some ⟨q1, 3, none⟩)) rfl (by kernel_rfl) (by kernel_rfl) (by kernel_rfl) (fun _ _ _ h => h) (Or.inl ⟨rfl, fun w _ => by go_simp⟩) HSC ?_; simp only [Act.put, qz1, qz2, qz3, qz4, qz5, qz6]
  refine wpAnyH_take (i := 4) (v := .slice a0 8 c0) rfl (by kernel_rfl) (by kernel_rfl) (by kernel_rfl) (fun _ _ _ h => h) (Or.inl ⟨rfl, fun w hw => by have h := hw.2; go_simp⟩) HSC ?_
  simp only [Act.put, qz1, qz2, qz3, qz4, qz5, qz6]
  refine wpAnyH_all (rs := [5]) (by kernel_rfl) (by simp) (fun i hi => ?_)
  obtain rfl : i = 5 := by simpa using hi
  refine wpOp_one rfl ?_
  have HSAY : Hid (Calls Tryz.prog 14 #[.slice a0 8 c0, .int .u64 65] u0 fun e w' => ∃ v', e = .returned v' ∧ w'.ownsRow u0.heap.size 3 1 v' l.length ((sayL l 65).map (Value.int .i64)) ∧ Below u0.heap.size u0 w') := Lib.hid (say_law _ l 65 u0 (HSL0.out.kept (Kept.ofBelow hbd)) (by rw [HLL.out]; decide) (by decide) HLB.out)
  (repeat (first | (with_reducible first | refine xA ?_ | refine xB ?_ | refine xC ?_ | refine xD ?_ | refine xH ?_ | refine xI rfl ?_ | refine xE ?_ | refine xF ?_ | refine xG ?_) | go_skip | go_guarded | (go_at_call 14; (with_reducible refine HSAY.out.mono ?_); rintro _ u1 ⟨vs, rfl, hO1, hb1⟩) | go_values | go_skip | go_guarded | go_step | go_upon | go_back | ((with_reducible show Oper.upon _ _ _ _ _ _); go_simp) | (dsimp only)))
  have hbe := hbd.trans (hb1.mono hbd.size)
  have HS1 := And.intro (cell_keep hb1 HSC.1) (cell_keep hb1 HSC.2)
  refine ⟨HS1, ?_⟩
  refine wpAnyH_all (rs := [6]) (by kernel_rfl) (by simp) (fun i hi => ?_)
  obtain rfl : i = 6 := by simpa using hi
  refine wpOp_one rfl ?_
  have HSP := Lib.hid (spread_b q u1 HGI.out HN.out HCM.out (HQ.out.kept (Kept.ofBelow (X := fun _ => True) hbe) trivial) (HC.out.kept (Kept.ofBelow hbe)) (own_sl (X := fun _ => True) hO1 fun _ _ => trivial) (by rw [sayL_len, HLL.out]; decide))
  (repeat (first | (with_reducible first | refine xA ?_ | refine xB ?_ | refine xC ?_ | refine xD ?_ | refine xH ?_ | refine xI rfl ?_ | refine xE ?_ | refine xF ?_ | refine xG ?_) | go_skip | go_guarded | (go_at_call 10; (with_reducible refine HSP.out.mono ?_); rintro _ u2 ⟨at', ct, rfl, hTD, hb2⟩) | go_values | go_skip | go_guarded | go_step | go_upon | go_back | ((with_reducible show Oper.upon _ _ _ _ _ _); go_simp) | (dsimp only)))
  have HS2 := And.intro (cell_keep hb2 HS1.1) (cell_keep hb2 HS1.2)
  have hbf := hbe.trans (hb2.mono hbe.size)
  refine ⟨HS2, ?_⟩
  refine wpAnyH_take (i := 7) (v := .tuple #[.slice at' b.g.n ct, .bool true]) rfl (by kernel_rfl) (by kernel_rfl) (by kernel_rfl) (fun _ _ _ h => h) (Or.inl ⟨rfl, fun w _ => by go_simp⟩) HS2 ?_
  simp only [Act.put, qz1, qz2, qz3, qz4, qz5, qz6]
  refine wpAnyH_take (i := 8) (v := .slice at' b.g.n ct) rfl (by kernel_rfl) (by kernel_rfl) (by kernel_rfl) (fun _ _ _ h => h) (Or.inl ⟨rfl, fun w _ => by go_simp⟩) HS2 ?_
  simp only [Act.put, qz1, qz2, qz3, qz4, qz5, qz6]
  refine wpAnyH_take (i := 9) (v := .bool true) rfl (by kernel_rfl) (by kernel_rfl) (by kernel_rfl) (fun _ _ _ h => h) (Or.inl ⟨rfl, fun w _ => by go_simp⟩) HS2 ?_
  simp only [Act.put, qz1, qz2, qz3, qz4, qz5, qz6]
  refine wpAnyH_take (i := 10) (v := .slice at' b.g.n ct) rfl (by kernel_rfl) (by kernel_rfl) (by kernel_rfl) (fun _ _ _ h => h) (Or.inl ⟨rfl, fun w _ => by go_simp⟩) HS2 ?_
  simp only [Act.put, qz1, qz2, qz3, qz4, qz5, qz6]
  refine wpAnyH_take (i := 11) (v := .bool true) rfl (by kernel_rfl) (by kernel_rfl) (by kernel_rfl) (fun _ _ _ h => h) (Or.inl ⟨rfl, fun w _ => by go_simp⟩) HS2 ?_
  simp only [Act.put, qz1, qz2, qz3, qz4, qz5, qz6]
  refine wpAnyH_done (by kernel_rfl) ?_ _
  have hc2' := cell_keep hbf hc2
  have hcz' := cell_keep hbf hcz
  have hb9 := hb4.trans (hbf.mono hb4.size)
  have HTD := Lib.hid hTD
  clear HS2 HS1 HSC hbf hbe hbd hb1 hb2 hTD hO1 HSP HSAY hc0 hc2 hc3 hcz hb4
  (repeat (first | (with_reducible first | refine xA ?_ | refine xB ?_ | refine xC ?_ | refine xD ?_ | refine xH ?_ | refine xI rfl ?_ | refine xE ?_ | refine xF ?_ | refine xG ?_) | go_skip | go_guarded | (go_at_call 19; (with_reducible refine (Is_any u2 _ b.g.n s HTD.out z HZL.out HN.out true HZT).mono ?_); rintro _ u3 ⟨rfl, rfl⟩) | go_values | go_skip | go_guarded | go_step | go_upon | go_back | ((with_reducible show Oper.upon _ _ _ _ _ _); go_simp) | (dsimp only)))
  go_ret
  exact ⟨rfl, hb9⟩
end Go.Proofs.YtmaogkgjiplckaaGreat
namespace Go.Proofs.YtmaogkgjiplckaaGreat
open Go.RowKit
theorem ops_of {ls : List Nd} (h : tchk ls = (0, 0)) (hm : ls.length ≤ 65536) : ∀ d ∈ ls, 0 ≤ d.op ∧ d.op ≤ 24 := by
  intro d hd
  unfold tchk at h
  split at h
  · injection h with h1 _; cases h1
  obtain ⟨j, hj⟩ := List.mem_iff_getElem?.1 hd
  have hjl : j < ls.length := (List.getElem?_eq_some_iff.1 hj).1
  have hr := chk_ok 0 (by omega) hm (by simpa using h) j d (by omega) hj
  by_cases h0 : 0 ≤ d.op ∧ d.op ≤ 24
  · exact h0
  · exfalso
    unfold rightE at hr
    rw [if_pos (by omega)] at hr
    cases hr
theorem tchk_2 : ∀ (k : Nat) (ls : List Nd), (chk (ls.take k) (ls.drop k)).1 = 0 → (chk (ls.take k) (ls.drop k)).2 = 0 := by
  intro k ls
  generalize hn : ls.length - k = n
  induction n generalizing k with
  | zero =>
    intro _
    rw [List.drop_of_length_le (by omega)]
    rfl
  | succ n ih =>
    intro h
    rw [chk_step (List.getElem?_eq_getElem (show k < ls.length by omega))] at h ⊢
    split at h
    · cases h
    · rename_i hk
      rw [if_neg hk]
      split at h
      · rename_i hne; exact absurd h hne
      · rename_i hne; rw [if_neg hne]; exact ih (k + 1) (by omega) h
theorem tchk_00 {ls : List Nd} (h : (tchk ls).1 = 0) : tchk ls = (0, 0) := by
  have e : (tchk ls).2 = 0 := by
    unfold tchk at h ⊢
    split at h
    · cases h
    · rename_i hne
      rw [if_neg hne]
      exact tchk_2 0 ls h
  exact Prod.ext h e
set_option maxRecDepth 100000 in
set_option maxHeartbeats 2000000 in
theorem check16_bad (ls : List Nd) (v : Value) (w : World) (h : SlIs 6 Nd.cells w v ls) (hwf : ∀ d ∈ ls, NdWf d) (E : Int) (hE : Hid ((tchk ls).1 = E)) (h0 : (E != 0) = true) :
    Calls Tryz.prog 9 #[v] w fun e w' => e = .returned (.int .i64 E) ∧ Below w.heap.size w w' := by
  have HC : Hid (∀ u : World, Below w.heap.size w u → Calls Tryz.prog 28 #[v] u fun e w' => e = .returned (.tuple #[.int .i64 E, .int .i64 (tchk ls).2]) ∧ Below u.heap.size u w') := Lib.hid (fun u hb => by
    have := rcheck_any ls v u (h.below hb) hwf
    rw [hE.out] at this
    exact this)
  generalize (tchk ls).2 = E2 at HC
  clear h hwf hE
  go_enter Tryz.func9, Tryz.ntmps9
  (repeat (first | (with_reducible first | refine xA ?_ | refine xB ?_ | refine xC ?_ | refine xD ?_ | refine xH ?_ | refine xI rfl ?_ | refine xE ?_ | refine xF ?_ | refine xG ?_) | go_skip | go_guarded | (go_at_call 28; (with_reducible refine (HC.out _ (Below.refl _ _)).mono ?_); rintro _ w1 ⟨rfl, hb1⟩) | go_values | go_skip | go_guarded | go_step | go_upon | go_back | ((with_reducible show Oper.upon _ _ _ _ _ _); go_simp) | (dsimp only)))
  go_ret
  exact ⟨rfl, hb1⟩
set_option maxRecDepth 100000 in
set_option maxHeartbeats 2000000 in
theorem check16_any (ls : List Nd) (v : Value) (w : World) (h : SlIs 6 Nd.cells w v ls) (hwf : ∀ d ∈ ls, NdWf d) (hE : (tchk ls).1 = 0) (hll : ls.length ≤ 1000000) (ho : ∀ d ∈ ls, 0 ≤ d.op ∧ d.op ≤ 24) (r : Int) (hr : Hid ((if ls.any arrB then 8 else 0) = r)) :
    Calls Tryz.prog 9 #[v] w fun e w' => e = .returned (.int .i64 r) ∧ Below w.heap.size w w' := by
  have HC : Hid (∀ u : World, Below w.heap.size w u → Calls Tryz.prog 28 #[v] u fun e w' => e = .returned (.tuple #[.int .i64 0, .int .i64 (tchk ls).2]) ∧ Below u.heap.size u w') := Lib.hid (fun u hb => by
    have := rcheck_any ls v u (h.below hb) hwf
    rw [hE] at this
    exact this)
  generalize (tchk ls).2 = E2 at HC
  obtain ⟨ao, cap, rfl, hcap, -, hrow⟩ := h
  have HROW := Lib.hid hrow
  have HO := Lib.hid ho
  have hlI : (ls.length : Int) ≤ 1000000 := by omega
  clear hwf hE hrow ho hll
  go_enter Tryz.func9, Tryz.ntmps9
  (repeat (first | (with_reducible first | refine xA ?_ | refine xB ?_ | refine xC ?_ | refine xD ?_ | refine xH ?_ | refine xI rfl ?_ | refine xE ?_ | refine xF ?_ | refine xG ?_) | go_skip | go_guarded | (go_at_call 28; (with_reducible refine (HC.out _ (Below.refl _ _)).mono ?_); rintro _ w1 ⟨rfl, hb1⟩) | go_values | go_skip | go_guarded | go_step | go_upon | go_back | ((with_reducible show Oper.upon _ _ _ _ _ _); go_simp) | (dsimp only)))
  go_loopw [5] (fun i wr => ∃ k : Nat, k ≤ ls.length ∧ i = .int .i64 k ∧ Hid (∀ j x, j < k → ls[j]? = some x → arrB x = false) ∧ wr = w1) (fun i _ => ls.length - (intOf i).toNat)
  case atStart => exact ⟨0, Nat.zero_le _, rfl, Lib.hid (fun j x hj => by omega), rfl⟩
  case round =>
    obtain ⟨k, hk, rfl, HA, rfl⟩ := hrel
    rcases Nat.lt_or_ge k ls.length with hlt | hge
    · obtain ⟨d, hd⟩ : ∃ d, ls[k]? = some d := ⟨_, List.getElem?_eq_getElem hlt⟩
      obtain ⟨b, off, rfl, HR0⟩ := HROW.out (by intro e; rw [e] at hlt; simp at hlt)
      have hc0 := cell_keep hb1 (HR0 k d hd 0 _ rfl)
      rw [Nat.add_zero, Nat.mul_comm] at hc0
      have hob := HO.out d (List.mem_of_getElem? hd)
      have i0 : (0 : Int) ≤ (k : Int) := by omega
      have i1 : (k : Int) < (ls.length : Int) := by omega
      obtain ⟨op, hop⟩ : ∃ op, d.op = op := ⟨_, rfl⟩
      rw [hop] at hc0 hob
      have HD := Lib.hid hd
      have HOP := Lib.hid hop
      have ab : arrB d = (op == 3 || op == 4 || op == 23 || op == 24) := by unfold arrB; rw [hop]
      have hyes : (op == 3 || op == 4 || op == 23 || op == 24) = true → r = 8 := fun h => by
        rw [← hr.out, if_pos (List.any_eq_true.2 ⟨d, List.mem_of_getElem? hd, by rw [ab]; exact h⟩)]
      have AB := Lib.hid ab
      have HY := Lib.hid hyes
      clear HR0 hd hop ab hyes
      by_cases c3 : op = 3
      · have e3 : (op == 3) = true := by simpa using c3
        (repeat (first | (with_reducible first | refine xA ?_ | refine xB ?_ | refine xC ?_ | refine xD ?_ | refine xH ?_ | refine xI rfl ?_ | refine xE ?_ | refine xF ?_ | refine xG ?_) | go_values | go_skip | go_guarded | go_step | go_upon | go_back | ((with_reducible show Oper.upon _ _ _ _ _ _); go_simp) | (dsimp only)))
        go_ret
        exact ⟨ret_int (HY.out (by simp [c3])).symm, hb1⟩
      have e3 : (op == 3) = false := by simpa using c3
      by_cases c4 : op = 4
      · have e4 : (op == 4) = true := by simpa using c4
        (repeat (first | (with_reducible first | refine xA ?_ | refine xB ?_ | refine xC ?_ | refine xD ?_ | refine xH ?_ | refine xI rfl ?_ | refine xE ?_ | refine xF ?_ | refine xG ?_) | go_values | go_skip | go_guarded | go_step | go_upon | go_back | ((with_reducible show Oper.upon _ _ _ _ _ _); go_simp) | (dsimp only)))
        go_ret
        exact ⟨ret_int (HY.out (by simp [c4])).symm, hb1⟩
      have e4 : (op == 4) = false := by simpa using c4
      by_cases c23 : op ≥ 23
      · (repeat (first | (with_reducible first | refine xA ?_ | refine xB ?_ | refine xC ?_ | refine xD ?_ | refine xH ?_ | refine xI rfl ?_ | refine xE ?_ | refine xF ?_ | refine xG ?_) | go_values | go_skip | go_guarded | go_step | go_upon | go_back | ((with_reducible show Oper.upon _ _ _ _ _ _); go_simp) | (dsimp only)))
        go_ret
        exact ⟨ret_int (HY.out (by have : op = 23 ∨ op = 24 := by omega
                                   rcases this with h | h <;> simp [h])).symm, hb1⟩
      · have c23' : ¬ (23 ≤ op) := c23
        (repeat (first | (with_reducible first | refine xA ?_ | refine xB ?_ | refine xC ?_ | refine xD ?_ | refine xH ?_ | refine xI rfl ?_ | refine xE ?_ | refine xF ?_ | refine xG ?_) | go_values | go_skip | go_guarded | go_step | go_upon | go_back | ((with_reducible show Oper.upon _ _ _ _ _ _); go_simp) | (dsimp only)))
        refine ⟨⟨k + 1, by omega, by go_num, Lib.hid (fun j x hj hx => ?_), rfl⟩, by simp [intOf]; omega⟩
        rcases Nat.lt_or_ge j k with hjk | hjk
        · exact HA.out j x hjk hx
        · obtain rfl : j = k := by omega
          obtain rfl : d = x := by have := HD.out; rw [this] at hx; exact Option.some.inj hx
          rw [AB.out]
          simp
          omega
    · obtain rfl : k = ls.length := by omega
      have hr0 : r = 0 := by
        rw [← hr.out]
        cases e : ls.any arrB with
        | false => rfl
        | true =>
          obtain ⟨x, hx, hax⟩ := List.any_eq_true.1 e
          obtain ⟨j, hj⟩ := List.mem_iff_getElem?.1 hx
          rw [HA.out j x (List.getElem?_eq_some_iff.1 hj).1 hj] at hax
          cases hax
      subst hr0
      (repeat (first | (with_reducible first | refine xA ?_ | refine xB ?_ | refine xC ?_ | refine xD ?_ | refine xH ?_ | refine xI rfl ?_ | refine xE ?_ | refine xF ?_ | refine xG ?_) | go_values | go_skip | go_guarded | go_step | go_upon | go_back | ((with_reducible show Oper.upon _ _ _ _ _ _); go_simp) | (dsimp only)))
      go_ret
      exact ⟨rfl, hb1⟩
end Go.Proofs.YtmaogkgjiplckaaGreat
namespace Go.Proofs.YtmaogkgjiplckaaGreat
open Go.RowKit
def ndsL (l : List Nd) : List Value := l.flatMap Nd.cells
def OwnN (w : World) (base : Nat) (v : Value) (ls : List Nd) : Prop := w.ownsRow base 49 6 v ls.length (ndsL ls)
theorem OwnN.alloc {w : World} {base : Nat} {v : Value} {ls : List Nd} (h : OwnN w base v ls) (o : Obj) : OwnN (w.alloc o) base v ls := World.ownsRow.alloc h o
theorem owns_keptS {w w' : World} {B T s n : Nat} {v : Value} {l : List Value} (h : w.ownsRow B T s v n l) {Y : Nat → Prop} (hk : Kept Y w w') (hy : ∀ k, v.ownBlock = some k → Y k) : w'.ownsRow B T s v n l := by
  rcases h with ⟨b2, hr⟩
  refine ⟨b2, ?_⟩
  rcases hr with ⟨e, r⟩ | ⟨g, cap, cur, e, hb, hh, r⟩
  · exact .inl ⟨e, r⟩
  · subst e
    exact .inr ⟨g, cap, cur, rfl, hb, (hk.at hh (hy g rfl)), r⟩
theorem OwnN.kept {w w' : World} {base : Nat} {v : Value} {ls : List Nd} {Y : Nat → Prop} (h : OwnN w base v ls) (hk : Kept Y w w') (hy : ∀ k, v.ownBlock = some k → Y k) : OwnN w' base v ls := owns_keptS h hk hy
theorem OwnN.below {w w' : World} {base : Nat} {v : Value} {ls : List Nd} (h : OwnN w base v ls) (hb : Below w.heap.size w w') : OwnN w' base v ls := h.kept (Kept.ofBelow (X := fun _ => True) hb) (fun _ _ => trivial)
theorem OwnN.nil (w : World) (base : Nat) : OwnN w base (.slice none 0 0) [] := World.ownsRow_nil _ _ _ _
theorem OwnN.new (w : World) (base : Nat) (hb : base ≤ w.heap.size) : OwnN (w.alloc (.cells #[] 49)) base (.slice (some ⟨w.heap.size, 0, none⟩) 0 0) [] :=
  ⟨rfl, .inr ⟨w.heap.size, 0, #[], rfl, hb, heap_alloc_new w _, Nat.le_refl _, by decide, rfl, rfl⟩⟩
end Go.Proofs.YtmaogkgjiplckaaGreat
namespace Go.Proofs.YtmaogkgjiplckaaGreat
open Go.RowKit
set_option maxRecDepth 100000 in
theorem ld_mid (w : World) (g o s : Nat) (t ty : TypeId) (cs : Array Value) (d : TypeDesc) (l : List Value) (hg : w.heap[g]? = some (.cells cs t (0, 0))) (hcut : ∀ (j : Nat) (v : Value), l[j]? = some v → cs[o + j]? = some v) (hls : l.length = s) (hu : Tryz.prog.underlying ty = some d) (hd : (match d with | .struct _ | .array _ _ => true | _ => false) = true) (hi : (Tryz.prog.info? ty).map (·.size) = some s) :
    (Instr.loadAt ty (.pointer (some ⟨g, o, none⟩))).run Tryz.prog w = .ok (.agg l.toArray) w := by
  simp only [Instr.loadAt, Instr.sureAddr, Sem.run_bind, Sem.run_pure, Result.andThen_ok]
  have hl : (loadCells ⟨g, o, none⟩ l.length).run Tryz.prog w = .ok l.toArray w :=
    run_loadCells_list (P := Tryz.prog) w ⟨g, o, none⟩ l (fun j v hv => by
      have hadd : (⟨g, o, none⟩ : Addr).add j = ⟨g, o + j, none⟩ := by unfold Addr.add; split <;> simp_all
      rw [hadd, cell_of_row w g (o + j) cs t (0, 0) hg]
      exact hcut j v hv)
  cases hq : Tryz.prog.info? ty with
  | none => simp [hq] at hi
  | some i =>
    have hz : i.size = s := by simpa [hq] using hi
    have hagg : (isAgg ty).run Tryz.prog w = .ok true w := by
      unfold isAgg
      rw [Sem.run_bind, run_underlying hu w]
      cases d <;> first | rfl | cases hd
    rw [hls] at hl
    simp [loadVar, Sem.run_bind, hagg, sizeOf, typeInfo, hq, hz, hl]
theorem size16 : (Tryz.prog.info? 32).map (·.size) = some 16 := by kernel_rfl
theorem size8 : (Tryz.prog.info? 33).map (·.size) = some 8 := by kernel_rfl
end Go.Proofs.YtmaogkgjiplckaaGreat
namespace Go.Proofs.YtmaogkgjiplckaaGreat
open Go.RowKit
end Go.Proofs.YtmaogkgjiplckaaGreat
namespace Go.Proofs.YtmaogkgjiplckaaGreat
open Go.RowKit
end Go.Proofs.YtmaogkgjiplckaaGreat
namespace Go.Proofs.YtmaogkgjiplckaaGreat
open Go.RowKit
open Go.ChangeShapes Go.WideShapes Go.Deep Go.Joins
set_option maxRecDepth 100000
section
variable {H : Type} {enc : TypeId × Value → H} {w : World}
theorem n_cells_int : Tryz.prog.cellsOf 3 = 1 := by kernel_rfl
theorem n_cells_u64 : Tryz.prog.cellsOf 24 = 1 := by kernel_rfl
theorem n_cells_3 : Tryz.prog.cellsOf 47 = 3 := by kernel_rfl
theorem n_cells_nd : Tryz.prog.cellsOf 49 = 6 := by kernel_rfl
theorem n_i64 {n : Int} (h : (Lit.int .i64 n).wf = true) : -9223372036854775808 ≤ n ∧ n ≤ 9223372036854775807 := by
  simp [Lit.wf, IntKind.min, IntKind.max, IntKind.bits, IntKind.signed] at h; omega
theorem n_u64 {n : Int} (h : (Lit.int .u64 n).wf = true) : 0 ≤ n ∧ n < 18446744073709551616 := by
  simp [Lit.wf, IntKind.min, IntKind.max, IntKind.bits, IntKind.signed] at h; omega
instance : Inhabited Nd := ⟨⟨0, 0, 0, 0, 0, 0⟩⟩
theorem n_six {l : List Value} (h : l.length = 6) : ∃ a b c d e f, l = [a, b, c, d, e, f] := by
  match l, h with
  | [a, b, c, d, e, f], _ => exact ⟨a, b, c, d, e, f, rfl⟩
theorem n_three {α : Type} {l : List α} (h : l.length = 3) : ∃ a b c, l = [a, b, c] := by
  match l, h with
  | [a, b, c], _ => exact ⟨a, b, c, rfl⟩
theorem n_struct4 {P : Program} {spare : Nat → Bool} {held : Bool} {base : Nat} {t : TypeId} {f0 f1 f2 f3 : Field} {fuel : Nat} {cs : List Value} {x : DataW H × List MemPlace} (ht : P.underlying t = some (.struct #[f0, f1, f2, f3])) (h : DataW.trod enc P w base spare held fuel t cs = some x) :
    ∃ y0 y1 y2 y3 n, DataW.trod enc P w base spare held n f0.type ((cs.drop f0.offset).take (P.cellsOf f0.type)) = some y0 ∧ DataW.trod enc P w base spare held n f1.type ((cs.drop f1.offset).take (P.cellsOf f1.type)) = some y1 ∧ DataW.trod enc P w base spare held n f2.type ((cs.drop f2.offset).take (P.cellsOf f2.type)) = some y2 ∧
      DataW.trod enc P w base spare held n f3.type ((cs.drop f3.offset).take (P.cellsOf f3.type)) = some y3 := by
  obtain ⟨xs, n, _, rfl, hl, hlen, hf⟩ := DataW.trod_struct ht h
  match xs, hlen with
  | [y0, y1, y2, y3], _ => exact ⟨y0, y1, y2, y3, n, by simpa using hf 0 f0 rfl, by simpa using hf 1 f1 rfl, by simpa using hf 2 f2 rfl, by simpa using hf 3 f3 rfl⟩
theorem open_slR {α : Type} (s : Nat) (hs0 : 0 < s) (f : α → List Value) (R : α → Prop) [Inhabited α] {t e : TypeId} {fuel : Nat} {v : Value} {x : DataW H × List MemPlace} (ht : Tryz.prog.underlying t = some (.slice e)) (hs : Tryz.prog.cellsOf e = s)
    (hone : ∀ n cs y, cs.length = s → DataW.trod enc Tryz.prog w 0 (fun _ => true) true n e cs = some y → ∃ a, cs = f a ∧ R a)
    (h : DataW.trod enc Tryz.prog w 0 (fun _ => true) true fuel t [v] = some x) : ∃ ls, SlIs s f w v ls ∧ ∀ a ∈ ls, R a := by
  rcases Go.Deep.open_slice ht h with ⟨h0, _⟩ | ⟨a, len, cap, m, n, D, Pl, hcs, _, hl, hm, hmm, _, hx⟩
  · injection h0 with h1 _
    subst h1
    exact ⟨[], ⟨none, 0, rfl, Nat.le_refl _, fun _ => rfl, fun h => absurd rfl h⟩, by simp⟩
  · injection hcs with h1 _
    subst h1
    simp only [if_true] at hmm
    subst hmm
    obtain ⟨A, hA⟩ := Go.Deep.choose_lt (α := α) (p := fun i y => w.cells? 0 (a.add (i * s)) s = some (f y) ∧ R y) (n := len) (fun i hi => by
      obtain ⟨cs', h1, h2⟩ := hx i (by omega)
      rw [hs] at h1
      obtain ⟨y, rfl, hy⟩ := hone n cs' _ (World.cells?_some h1).2.1 h2
      exact ⟨y, h1, hy⟩)
    refine ⟨(List.range len).map A, ⟨some a, m, by simp, by simpa using hl, fun h => by (cases h), fun hne => ?_⟩, ?_⟩
    · have hp : 0 < len := by
        rcases Nat.eq_zero_or_pos len with h | h
        · subst h; exact absurd rfl hne
        · exact h
      obtain ⟨_, hl0, hc0⟩ := World.cells?_some (hA 0 hp).1
      have hsp : a.spot = none := by
        have h1 := hc0 0 hs0
        rw [List.getElem?_eq_getElem (by omega)] at h1
        have h2 := World.cell?_spot h1
        simpa [Addr.add] using h2
      obtain ⟨b, o, sp⟩ := a
      dsimp only at hsp
      subst hsp
      refine ⟨b, o, rfl, fun i d hi j c hj => ?_⟩
      rw [List.getElem?_map] at hi
      have hil : i < len := by
        rcases Nat.lt_or_ge i len with h | h
        · exact h
        · rw [List.getElem?_eq_none (by simpa using h)] at hi; cases hi
      rw [List.getElem?_range hil] at hi
      obtain rfl := Option.some.inj hi
      obtain ⟨_, hln, hcn⟩ := World.cells?_some (hA i hil).1
      have hjl : j < s := by
        rcases Nat.lt_or_ge j s with h | h
        · exact h
        · rw [List.getElem?_eq_none (by omega)] at hj; cases hj
      have h3 := hcn j hjl
      rw [hj, Go.Deep.add_add] at h3
      have e1 : (⟨b, o, none⟩ : Addr).add (i * s + j) = ⟨b, o + (s * i + j), none⟩ := by
        unfold Addr.add
        rw [Nat.mul_comm i s]
        split
        · rename_i h0; rw [h0]; rfl
        · rfl
      rw [e1] at h3
      exact h3
    · intro y hy
      obtain ⟨i, hi, rfl⟩ := List.mem_map.1 hy
      exact (hA i (List.mem_range.1 hi)).2
theorem open_k3 {fuel : Nat} {a b c : Value} {x : DataW H × List MemPlace} (h : DataW.trod enc Tryz.prog w 0 (fun _ => true) true fuel 47 [a, b, c] = some x) :
    ∃ k0 k1 k2, a = .int .i64 k0 ∧ b = .int .i64 k1 ∧ c = .int .i64 k2 ∧ (-9223372036854775808 ≤ k0 ∧ k0 ≤ 9223372036854775807) ∧ (-9223372036854775808 ≤ k1 ∧ k1 ≤ 9223372036854775807) ∧ (-9223372036854775808 ≤ k2 ∧ k2 ≤ 9223372036854775807) := by
  obtain ⟨xs, m, _, _, _, hl, hx⟩ := DataW.trod_array Tryz.underlying47 h
  obtain ⟨y0, y1, y2, rfl⟩ := n_three hl
  have h0 := hx 0 (by decide)
  have h1 := hx 1 (by decide)
  have h2 := hx 2 (by decide)
  rw [n_cells_int] at h0 h1 h2
  simp only [List.drop_zero, Nat.zero_mul, Nat.one_mul, Nat.mul_one, List.drop_succ_cons, List.take_succ_cons, List.take_zero] at h0 h1 h2
  obtain ⟨k0, e0, _, w0⟩ := DataW.trod_int Tryz.underlying3 h0
  obtain ⟨k1, e1, _, w1⟩ := DataW.trod_int Tryz.underlying3 h1
  obtain ⟨k2, e2, _, w2⟩ := DataW.trod_int Tryz.underlying3 h2
  injection e0 with e0 _
  injection e1 with e1 _
  injection e2 with e2 _
  exact ⟨k0, k1, k2, e0, e1, e2, n_i64 w0, n_i64 w1, n_i64 w2⟩
theorem open_nodes {fuel : Nat} {v : Value} {x : DataW H × List MemPlace} (h : DataW.trod enc Tryz.prog w 0 (fun _ => true) true fuel 22 [v] = some x) :
    ∃ ls, SlIs 6 Nd.cells w v ls ∧ ∀ a ∈ ls, NdWf a :=
  open_slR 6 (by decide) Nd.cells _ Tryz.underlying22 n_cells_nd (fun n cs y hl h => by
    obtain ⟨c0, c1, c2, c3, c4, c5, rfl⟩ := n_six hl
    obtain ⟨y0, y1, y2, y3, m, h0, h1, h2, h3⟩ := n_struct4 Tryz.underlying49 h
    dsimp only at h0 h1 h2 h3
    rw [n_cells_int] at h0 h1
    rw [n_cells_u64] at h2
    rw [n_cells_3] at h3
    simp only [List.drop_zero, List.drop_succ_cons, List.take_succ_cons, List.take_zero] at h0 h1 h2 h3
    obtain ⟨k0, e0, _, w0⟩ := DataW.trod_int Tryz.underlying3 h0
    obtain ⟨k1, e1, _, w1⟩ := DataW.trod_int Tryz.underlying3 h1
    obtain ⟨k2, e2, _, w2⟩ := DataW.trod_int Tryz.underlying24 h2
    injection e0 with e0 _
    injection e1 with e1 _
    injection e2 with e2 _
    obtain ⟨k3, k4, k5, rfl, rfl, rfl, w3, w4, w5⟩ := open_k3 h3
    subst e0; subst e1; subst e2
    exact ⟨⟨k0, k1, k2, k3, k4, k5⟩, rfl, n_i64 w0, n_i64 w1, n_u64 w2, w3, w4, w5⟩) h
end
section
variable {H : Type} {enc : TypeId × Value → H} {w : World}
theorem n_cells_u8 : Tryz.prog.cellsOf 5 = 1 := by kernel_rfl
theorem n_cells_sl : Tryz.prog.cellsOf 23 = 1 := by kernel_rfl
theorem n_cells_r8 : Tryz.prog.cellsOf 25 = 8 := by kernel_rfl
theorem n_cells_env : Tryz.prog.cellsOf 27 = 10 := by kernel_rfl
theorem n_u8 {n : Int} (h : (Lit.int .u8 n).wf = true) : 0 ≤ n ∧ n < 256 := by
  simp [Lit.wf, IntKind.min, IntKind.max, IntKind.bits, IntKind.signed] at h; omega
theorem open_bytesD {fuel : Nat} {v : Value} {x : DataW H × List MemPlace} (h : DataW.trod enc Tryz.prog w 0 (fun _ => true) true fuel 23 [v] = some x) :
    ∃ ls, SlIs 1 u8c w v ls ∧ ∀ a ∈ ls, 0 ≤ a ∧ a < 256 :=
  open_slR 1 (by decide) u8c _ Tryz.underlying23 n_cells_u8 (fun n cs y _ h => by
    obtain ⟨n, rfl, _, hw⟩ := DataW.trod_int Tryz.underlying5 h
    exact ⟨n, rfl, n_u8 hw⟩) h
theorem n_ten {l : List Value} (h : l.length = 10) : ∃ a b c d e f g i j k, l = [a, b, c, d, e, f, g, i, j, k] := by
  match l, h with
  | [a, b, c, d, e, f, g, i, j, k], _ => exact ⟨a, b, c, d, e, f, g, i, j, k, rfl⟩
theorem n_eight {α : Type} {l : List α} (h : l.length = 8) : ∃ a b c d e f g i, l = [a, b, c, d, e, f, g, i] := by
  match l, h with
  | [a, b, c, d, e, f, g, i], _ => exact ⟨a, b, c, d, e, f, g, i, rfl⟩
theorem open_r8 {fuel : Nat} {a b c d e f g i : Value} {x : DataW H × List MemPlace} (h : DataW.trod enc Tryz.prog w 0 (fun _ => true) true fuel 25 [a, b, c, d, e, f, g, i] = some x) :
    ∃ r0 r1 r2 r3 r4 r5 r6 r7, a = .int .u64 r0 ∧ b = .int .u64 r1 ∧ c = .int .u64 r2 ∧ d = .int .u64 r3 ∧ e = .int .u64 r4 ∧ f = .int .u64 r5 ∧ g = .int .u64 r6 ∧ i = .int .u64 r7 ∧ ∀ x ∈ regL r0 r1 r2 r3 r4 r5 r6 r7, 0 ≤ x ∧ x < 18446744073709551616 := by
  obtain ⟨xs, m, _, _, _, hl, hx⟩ := DataW.trod_array Tryz.underlying25 h
  obtain ⟨y0, y1, y2, y3, y4, y5, y6, y7, rfl⟩ := n_eight hl
  have h0 := hx 0 (by decide)
  have h1 := hx 1 (by decide)
  have h2 := hx 2 (by decide)
  have h3 := hx 3 (by decide)
  have h4 := hx 4 (by decide)
  have h5 := hx 5 (by decide)
  have h6 := hx 6 (by decide)
  have h7 := hx 7 (by decide)
  rw [n_cells_u64] at h0 h1 h2 h3 h4 h5 h6 h7
  simp only [List.drop_zero, Nat.zero_mul, Nat.one_mul, Nat.mul_one, List.drop_succ_cons, List.take_succ_cons, List.take_zero] at h0 h1 h2 h3 h4 h5 h6 h7
  obtain ⟨r0, e0, _, w0⟩ := DataW.trod_int Tryz.underlying24 h0
  obtain ⟨r1, e1, _, w1⟩ := DataW.trod_int Tryz.underlying24 h1
  obtain ⟨r2, e2, _, w2⟩ := DataW.trod_int Tryz.underlying24 h2
  obtain ⟨r3, e3, _, w3⟩ := DataW.trod_int Tryz.underlying24 h3
  obtain ⟨r4, e4, _, w4⟩ := DataW.trod_int Tryz.underlying24 h4
  obtain ⟨r5, e5, _, w5⟩ := DataW.trod_int Tryz.underlying24 h5
  obtain ⟨r6, e6, _, w6⟩ := DataW.trod_int Tryz.underlying24 h6
  obtain ⟨r7, e7, _, w7⟩ := DataW.trod_int Tryz.underlying24 h7
  injection e0 with e0 _
  injection e1 with e1 _
  injection e2 with e2 _
  injection e3 with e3 _
  injection e4 with e4 _
  injection e5 with e5 _
  injection e6 with e6 _
  injection e7 with e7 _
  refine ⟨r0, r1, r2, r3, r4, r5, r6, r7, e0, e1, e2, e3, e4, e5, e6, e7, ?_⟩
  intro x hx
  unfold regL at hx
  simp only [List.mem_cons, List.not_mem_nil, or_false] at hx
  rcases hx with rfl | rfl | rfl | rfl | rfl | rfl | rfl | rfl
  · exact n_u64 w0
  · exact n_u64 w1
  · exact n_u64 w2
  · exact n_u64 w3
  · exact n_u64 w4
  · exact n_u64 w5
  · exact n_u64 w6
  · exact n_u64 w7
theorem open_env {r : Reach} {b0 : Nat} {v : Value} {d : DataW H} {p : List MemPlace} (hv : Value.okWide Tryz.prog w r b0 27 v) (h : DataW.Trod enc Tryz.prog w 0 (fun _ => true) true 27 v d p) :
    ∃ (inp : List Int) (ia : Option Addr) (ic : Nat) (r0 r1 r2 r3 r4 r5 r6 r7 : Int) (vm : Value), v = .agg #[.slice ia inp.length ic, .int .u64 r0, .int .u64 r1, .int .u64 r2, .int .u64 r3, .int .u64 r4, .int .u64 r5, .int .u64 r6, .int .u64 r7, vm] ∧ SlIs 1 u8c w (.slice ia inp.length ic) inp ∧ (∀ a ∈ inp, 0 ≤ a ∧ a < 256) ∧ ∀ x ∈ regL r0 r1 r2 r3 r4 r5 r6 r7, 0 ≤ x ∧ x < 18446744073709551616 := by
  obtain ⟨cs, rfl, hsz⟩ := okWide_struct Tryz.underlying27 hv
  rw [n_cells_env] at hsz
  obtain ⟨l, rfl⟩ : ∃ l : List Value, cs = l.toArray := ⟨cs.toList, by simp⟩
  obtain ⟨c0, c1, c2, c3, c4, c5, c6, c7, c8, c9, rfl⟩ := n_ten (by simpa using hsz)
  obtain ⟨fuel, hf⟩ := h
  obtain ⟨y0, y1, y2, n, _, _, h0, h1, h2⟩ := trod_struct3 Tryz.underlying27 hf
  dsimp only [Value.cells] at h0 h1 h2
  rw [n_cells_sl] at h0
  rw [n_cells_r8] at h1
  simp only [List.drop_zero, List.drop_succ_cons, List.take_succ_cons, List.take_zero] at h0 h1
  obtain ⟨inp, hs, hb⟩ := open_bytesD h0
  obtain ⟨r0, r1, r2, r3, r4, r5, r6, r7, rfl, rfl, rfl, rfl, rfl, rfl, rfl, rfl, hr⟩ := open_r8 h1
  obtain ⟨ia, ic, rfl, hrest⟩ := hs
  exact ⟨inp, ia, ic, r0, r1, r2, r3, r4, r5, r6, r7, c9, rfl, ⟨ia, ic, rfl, hrest⟩, hb, hr⟩
end
end Go.Proofs.YtmaogkgjiplckaaGreat
namespace Go.Proofs.YtmaogkgjiplckaaGreat
open Go.RowKit
open Go.ChangeShapes Go.WideShapes Go.Deep Go.Joins
theorem leaf_b {ls : List Nd} (hT : TF ls) (hn : (bK ls ls.length).g.n ≤ 1048576) : ∀ l, l ∈ (bK ls ls.length).inp ∨ l ∈ (bK ls ls.length).reg → l.length ≤ 64 ∧ ∀ a ∈ l, -1048576 ≤ a ∧ a ≤ 1048576 := by
  obtain ⟨s, hs⟩ := blast_ok (I := fun _ => 0) (R := fun _ => 0) hT (fun _ => by decide) (fun _ => by decide) ls.length (Nat.le_refl _)
  rintro l (h | h)
  · obtain ⟨i, hi⟩ := List.mem_iff_getElem?.1 h
    have h16 := hs.inp i (by have := (List.getElem?_eq_some_iff.1 hi).1; have := hs.il; omega)
    have e : (bK ls ls.length).inp.getD i [] = l := by rw [List.getD_eq_getElem?_getD, hi]; rfl
    rw [e] at h16
    rcases h16 with rfl | h16
    · simp
    · exact ⟨by have := h16.len; omega, fun a ha => rng_of (h16.isl a ha) hn⟩
  · obtain ⟨i, hi⟩ := List.mem_iff_getElem?.1 h
    have h16 := hs.reg i (by have := (List.getElem?_eq_some_iff.1 hi).1; have := hs.rl; omega)
    have e : (bK ls ls.length).reg.getD i [] = l := by rw [List.getD_eq_getElem?_getD, hi]; rfl
    rw [e] at h16
    rcases h16 with rfl | h16
    · simp
    · exact ⟨by have := h16.len; omega, fun a ha => rng_of (h16.isl a ha) hn⟩
theorem fr_len {I R : Nat → Nat} {b : BS} (h : ∀ l, l ∈ b.inp ∨ l ∈ b.reg → l.length ≤ 64) : (frB I R b).length ≤ 2000 := by
  have h1 : (frI I b.inp 16).length ≤ 16 * 64 := frI_len fun l hl => h l (.inl hl)
  have h2 : (frI R b.reg 8).length ≤ 8 * 64 := frI_len fun l hl => h l (.inr hl)
  have e : frB I R b = frI I b.inp 16 ++ frI R b.reg 8 := rfl
  rw [e, List.length_append]
  omega
structure PlainOk (ls : List Nd) (I R : Nat → Nat) (s : Nat → Bool) : Prop where
  gi : GI (bK ls ls.length).g (frB I R (bK ls ls.length)) s
  rx : ∀ x ∈ (bK ls ls.length).at ((ls.length - 1 : Nat) : Int), isL (bK ls ls.length).g.n x
  rl : (((bK ls ls.length).at ((ls.length - 1 : Nat) : Int)).length : Int) = wAt ls ((ls.length - 1 : Nat) : Int)
  r64 : ((bK ls ls.length).at ((ls.length - 1 : Nat) : Int)).length ≤ 64
  rv : bv (((bK ls ls.length).at ((ls.length - 1 : Nat) : Int)).map (lit s)) = (vK I R ls ls.length).getD (ls.length - 1) 0
theorem plain_ok {ls : List Nd} (hT : TF ls) (hne : ls ≠ []) {I R : Nat → Nat} (hI : ∀ i, I i < 256) (hR : ∀ i, R i < 18446744073709551616) : ∃ s, PlainOk ls I R s := by
  obtain ⟨s, hs⟩ := blast_ok hT hI hR ls.length (Nat.le_refl _)
  have hpos := List.length_pos_iff.2 hne
  have h := hs.ws (ls.length - 1) (by omega)
  have hw := hT.wd (ls.length - 1) (by omega)
  exact ⟨s, hs.gi, h.isl, by rw [h.len]; omega, by rw [h.len]; omega, h.num⟩
end Go.Proofs.YtmaogkgjiplckaaGreat
namespace Go.Proofs.YtmaogkgjiplckaaGreat
open Go.RowKit
theorem GI.more {g : G} {fr ex : List Int} {s : Nat → Bool} (h : GI g fr s) (hx : ∀ x ∈ ex, isL g.n x ∧ lit s x = true) : GI g (fr ++ ex) s :=
  ⟨h.pos, h.one, h.sat, h.rng, fun v h1 h2 => (h.det v h1 h2).mono (fun _ hc => hc) (fun x hm => List.mem_append_left _ hm), fun x hm => (List.mem_append.1 hm).elim (h.frm x) (hx x), h.an, h.xo, h.len⟩
theorem say_isL {n : Nat} : ∀ (l : List Int) (x : Nat), (∀ y ∈ l, isL n y) → ∀ y ∈ sayL l x, isL n y
  | [], _, _ => fun y hy => by simp [sayL] at hy
  | v :: l, x, h => fun y hy => by
    rw [sayL, List.mem_cons] at hy
    rcases hy with rfl | hy
    · have hv := h v (List.mem_cons_self ..)
      split
      · exact hv
      · exact hv.neg
    · exact say_isL l _ (fun z hz => h z (List.mem_cons_of_mem _ hz)) y hy
theorem say_all {s : Nat → Bool} : ∀ (l : List Int) (x : Nat), (∀ y ∈ l, y ≠ 0) → x < 2 ^ l.length → ((∀ y ∈ sayL l x, lit s y = true) ↔ bv (l.map (lit s)) = x)
  | [], x, _, hx => by
    have hx0 : x = 0 := by simpa using hx
    subst hx0
    constructor
    · intro _; rfl
    · intro _ y hy; simp [sayL] at hy
  | v :: l, x, h0, hx => by
    have hv := h0 v (List.mem_cons_self ..)
    have hx2 : x / 2 < 2 ^ l.length := by rw [List.length_cons, Nat.pow_succ] at hx; omega
    have ih := say_all (s := s) l (x / 2) (fun y hy => h0 y (List.mem_cons_of_mem _ hy)) hx2
    rw [List.map_cons, bv, sayL]
    constructor
    · intro h
      have h1 := h _ (List.mem_cons_self ..)
      have h2 := ih.1 (fun y hy => h y (List.mem_cons_of_mem _ hy))
      rw [h2]
      by_cases c : x % 2 = 1
      · rw [if_pos c] at h1
        rw [h1, if_pos rfl]; omega
      · rw [if_neg c, lit_neg hv] at h1
        have : lit s v = false := by simpa using h1
        rw [this]
        simp only [Bool.false_eq_true, if_false]
        omega
    · intro h
      have hb : bv (l.map (lit s)) = x / 2 ∧ (lit s v = true ↔ x % 2 = 1) := by
        cases e : lit s v
        · rw [e] at h
          simp only [Bool.false_eq_true, if_false] at h
          refine ⟨by omega, by simp; omega⟩
        · rw [e] at h
          simp only [if_true] at h
          refine ⟨by omega, by simp; omega⟩
      intro y hy
      rcases List.mem_cons.1 hy with rfl | hy
      · by_cases c : x % 2 = 1
        · rw [if_pos c]; exact hb.2.2 c
        · rw [if_neg c, lit_neg hv]
          have : lit s v = false := by
            cases e : lit s v
            · rfl
            · exact absurd (hb.2.1 e) c
          rw [this]; rfl
      · exact ih.2 hb.1 y hy
theorem say_conflict {g : G} {fr l : List Int} {s : Nat → Bool} (h : GI g fr s) (hl : ∀ y ∈ l, isL g.n y) {x : Nat} (hx : x < 2 ^ l.length) (hne : bv (l.map (lit s)) ≠ x) : Conflict g.cl (fr ++ sayL l x) := by
  have hnot : ¬ ∀ y ∈ sayL l x, lit s y = true := fun e => hne ((say_all l x (fun y hy => (hl y hy).1) hx).1 e)
  obtain ⟨y, hy⟩ := Classical.not_forall.1 hnot
  obtain ⟨hy, hf⟩ := Classical.not_imp.1 hy
  have hy1 := say_isL l x hl y hy
  left
  refine ⟨y, List.mem_append_right _ hy, ?_⟩
  have hd := h.der hy1.neg (by rw [lit_neg hy1.1]; simpa using hf)
  exact hd.mono (fun _ hc => hc) (fun z hz => List.mem_append_left _ hz)
theorem spread_say {Y Z : Nat → Prop} {g : G} {fr : List Int} {s : Nat → Bool} (q : Nat) (w1 : World) (hI : GI g fr s) (hn : g.n ≤ 1048576) (hm : g.cl.length ≤ 4194304) {vs : List Value} (hO : OwnW w1 q g.cl.length vs) (hS : SlsX Z w1 vs g.cl) (l : List Int) (hl : ∀ y ∈ l, isL g.n y) (x : Nat) (hx : x < 2 ^ l.length) {vf : Value} (hF : SlX Y w1 vf (fr ++ sayL l x)) (hfl : (fr ++ sayL l x).length ≤ 1000000) (r : Bool) (hr : Hid (decide (bv (l.map (lit s)) = x) = r)) :
    Calls Tryz.prog 10 #[.slice (some ⟨q, 0, none⟩) g.cl.length g.cl.length, vf] w1 fun e w' => (∃ v, e = .returned (.tuple #[v, .bool r])) ∧ Below w1.heap.size w1 w' := by
  by_cases hc : bv (l.map (lit s)) = x
  · have hr' : r = true := by rw [← hr.out, decide_eq_true hc]
    subst hr'
    have hall := (say_all l x (fun y hy => (hl y hy).1) hx).2 hc
    have hI2 := hI.more (ex := sayL l x) fun y hy => ⟨say_isL l x hl y hy, hall y hy⟩
    refine (spread_b q w1 hI2 hn hm hO hS hF hfl).mono ?_
    rintro e w' ⟨a, c, rfl, _, hb⟩
    exact ⟨⟨_, rfl⟩, hb⟩
  · have hr' : r = false := by rw [← hr.out, decide_eq_false hc]
    subst hr'
    have hcf := say_conflict hI hl hx hc
    refine (Spread_any (Y := fun _ => True) w1 q g.cl.length vs g.cl vf (fr ++ sayL l x) hO.rows hO.lt (hS.mono fun _ _ _ => trivial) rfl (hF.mono fun _ _ _ => trivial) (fun c hc x hx => isL_ok (hI.rng c hc x hx) hn) (fun y hy => ?_) (by omega) (fun c hc => by have := hI.len c hc; omega) hfl ?_).mono ?_
    · rcases List.mem_append.1 hy with h | h
      · exact isL_ok (hI.frm y h).1 hn
      · exact isL_ok (say_isL l x hl y h) hn
    · obtain ⟨y, hy⟩ := hI.der1
      exact ⟨y, hy.mono (fun _ hc => hc) (fun z hz => List.mem_append_left _ hz)⟩
    · rintro e w' (⟨_, rfl, hb⟩ | ⟨v, out, is, rfl, _, _, _, _, _, _, hno, _⟩)
      · exact ⟨⟨_, rfl⟩, hb⟩
      · exact absurd hcf hno
end Go.Proofs.YtmaogkgjiplckaaGreat
namespace Go.Proofs.YtmaogkgjiplckaaGreat
open Go.RowKit
set_option maxRecDepth 100000 in
set_option maxHeartbeats 2000000 in
theorem fails_dark {ia : Option Addr} {ic : Nat} {vm : Value} {r0 r1 r2 r3 r4 r5 r6 r7 n : Int} (inp : List Int) (ls : List Nd) (v : Value) (w : World) (h : SlIs 6 Nd.cells w v ls) (hl : lightB ls = false) :
    Calls Tryz.prog 4 #[v, .agg #[.slice ia inp.length ic, .int .u64 r0, .int .u64 r1, .int .u64 r2, .int .u64 r3, .int .u64 r4, .int .u64 r5, .int .u64 r6, .int .u64 r7, vm], .int .u64 n] w fun e w' => e = .returned (.bool true) ∧ Below w.heap.size w w' := by
  have HLG : Hid (∀ u : World, Below w.heap.size w u → Calls Tryz.prog 7 #[v] u fun e w' => e = .returned (.bool false) ∧ w' = u) := Lib.hid (fun u hb => light_any v ls u (h.below hb) false (Lib.hid hl))
  clear h hl
  go_enter Tryz.func4, Tryz.ntmps4
  (repeat (first | (with_reducible first | refine xA ?_ | refine xB ?_ | refine xC ?_ | refine xD ?_ | refine xH ?_ | refine xI rfl ?_ | refine xE ?_ | refine xF ?_ | refine xG ?_) | go_skip | go_guarded | (go_at_call 6; (with_reducible refine (awake16_any _).mono ?_); rintro _ w0 ⟨rfl, hb⟩; have he0 := (hb.block w.heap.size (by simp)).trans (heap_alloc_new w (.cells #[.slice ia inp.length ic, .int .u64 r0, .int .u64 r1, .int .u64 r2, .int .u64 r3, .int .u64 r4, .int .u64 r5, .int .u64 r6, .int .u64 r7, vm] 27)); have hb0 : Below w.heap.size w w0 := (Below.alloc (Below.refl _ _) (Nat.le_refl _) _).trans (hb.mono (by simp)); clear hb; have hci : w0.cell? ⟨w.heap.size, 0, none⟩ = some (.slice ia inp.length ic) := (cell_of_row w0 w.heap.size 0 _ _ _ he0).trans rfl; have HE0 := Lib.hid he0) | (go_at_call 7; (with_reducible refine (HLG.out _ hb0).mono ?_); rintro _ w1 ⟨rfl, rfl⟩) | go_values | go_skip | go_guarded | go_step | go_upon | go_back | ((with_reducible show Oper.upon _ _ _ _ _ _); go_simp) | (dsimp only)))
  go_ret
  exact ⟨rfl, hb0⟩
set_option maxRecDepth 100000 in
set_option maxHeartbeats 2000000 in
theorem fails_many {ia : Option Addr} {ic : Nat} {vm : Value} {r0 r1 r2 r3 r4 r5 r6 r7 n : Int} (inp : List Int) (hin : (inp.length : Int) > 100) (ls : List Nd) (v : Value) (w : World) (h : SlIs 6 Nd.cells w v ls) (hl : lightB ls = true) :
    Calls Tryz.prog 4 #[v, .agg #[.slice ia inp.length ic, .int .u64 r0, .int .u64 r1, .int .u64 r2, .int .u64 r3, .int .u64 r4, .int .u64 r5, .int .u64 r6, .int .u64 r7, vm], .int .u64 n] w fun e w' => e = .returned (.bool true) ∧ Below w.heap.size w w' := by
  have HLG : Hid (∀ u : World, Below w.heap.size w u → Calls Tryz.prog 7 #[v] u fun e w' => e = .returned (.bool true) ∧ w' = u) := Lib.hid (fun u hb => light_any v ls u (h.below hb) true (Lib.hid hl))
  clear h hl
  go_enter Tryz.func4, Tryz.ntmps4
  (repeat (first | (with_reducible first | refine xA ?_ | refine xB ?_ | refine xC ?_ | refine xD ?_ | refine xH ?_ | refine xI rfl ?_ | refine xE ?_ | refine xF ?_ | refine xG ?_) | go_skip | go_guarded | (go_at_call 6; (with_reducible refine (awake16_any _).mono ?_); rintro _ w0 ⟨rfl, hb⟩; have he0 := (hb.block w.heap.size (by simp)).trans (heap_alloc_new w (.cells #[.slice ia inp.length ic, .int .u64 r0, .int .u64 r1, .int .u64 r2, .int .u64 r3, .int .u64 r4, .int .u64 r5, .int .u64 r6, .int .u64 r7, vm] 27)); have hb0 : Below w.heap.size w w0 := (Below.alloc (Below.refl _ _) (Nat.le_refl _) _).trans (hb.mono (by simp)); clear hb; have hci : w0.cell? ⟨w.heap.size, 0, none⟩ = some (.slice ia inp.length ic) := (cell_of_row w0 w.heap.size 0 _ _ _ he0).trans rfl; have HE0 := Lib.hid he0) | (go_at_call 7; (with_reducible refine (HLG.out _ hb0).mono ?_); rintro _ w1 ⟨rfl, rfl⟩) | go_values | go_skip | go_guarded | go_step | go_upon | go_back | ((with_reducible show Oper.upon _ _ _ _ _ _); go_simp) | (dsimp only)))
  go_ret
  exact ⟨rfl, hb0⟩
set_option maxRecDepth 100000 in
set_option maxHeartbeats 2000000 in
theorem fails_bad {ia : Option Addr} {ic : Nat} {vm : Value} {r0 r1 r2 r3 r4 r5 r6 r7 n : Int} (inp : List Int) (hin : (inp.length : Int) ≤ 100) (ls : List Nd) (v : Value) (w : World) (h : SlIs 6 Nd.cells w v ls) (hl : lightB ls = true) (E : Int) (hE : (E != 0) = true) (hCK : ∀ u : World, Below w.heap.size w u → Calls Tryz.prog 9 #[v] u fun e w' => e = .returned (.int .i64 E) ∧ Below u.heap.size u w') :
    Calls Tryz.prog 4 #[v, .agg #[.slice ia inp.length ic, .int .u64 r0, .int .u64 r1, .int .u64 r2, .int .u64 r3, .int .u64 r4, .int .u64 r5, .int .u64 r6, .int .u64 r7, vm], .int .u64 n] w fun e w' => e = .returned (.bool true) ∧ Below w.heap.size w w' := by
  have HLG : Hid (∀ u : World, Below w.heap.size w u → Calls Tryz.prog 7 #[v] u fun e w' => e = .returned (.bool true) ∧ w' = u) := Lib.hid (fun u hb => light_any v ls u (h.below hb) true (Lib.hid hl))
  have HCK := Lib.hid hCK
  have HL := Lib.hid h
  have hin' : ¬ (inp.length : Int) > 100 := by omega
  clear h hl hCK hin
  go_enter Tryz.func4, Tryz.ntmps4
  (repeat (first | (with_reducible first | refine xA ?_ | refine xB ?_ | refine xC ?_ | refine xD ?_ | refine xH ?_ | refine xI rfl ?_ | refine xE ?_ | refine xF ?_ | refine xG ?_) | go_skip | go_guarded | (go_at_call 6; (with_reducible refine (awake16_any _).mono ?_); rintro _ w0 ⟨rfl, hb⟩; have he0 := (hb.block w.heap.size (by simp)).trans (heap_alloc_new w (.cells #[.slice ia inp.length ic, .int .u64 r0, .int .u64 r1, .int .u64 r2, .int .u64 r3, .int .u64 r4, .int .u64 r5, .int .u64 r6, .int .u64 r7, vm] 27)); have hb0 : Below w.heap.size w w0 := (Below.alloc (Below.refl _ _) (Nat.le_refl _) _).trans (hb.mono (by simp)); clear hb; have hci : w0.cell? ⟨w.heap.size, 0, none⟩ = some (.slice ia inp.length ic) := (cell_of_row w0 w.heap.size 0 _ _ _ he0).trans rfl; have HE0 := Lib.hid he0) | (go_at_call 7; (with_reducible refine (HLG.out _ hb0).mono ?_); rintro _ w1 ⟨rfl, rfl⟩) | (go_at_call 9; (with_reducible refine (HCK.out _ hb0).mono ?_); rintro _ w2 ⟨rfl, hbc⟩; have hb5 := hb0.trans (hbc.mono hb0.size); have HE5 := Lib.hid ((hbc.block _ (lt_of_block HE0.out)).trans HE0.out); have HSL := Lib.hid (HL.out.below hb5); clear hbc) | go_values | go_skip | go_guarded | go_step | go_upon | go_back | ((with_reducible show Oper.upon _ _ _ _ _ _); go_simp) | (dsimp only)))
  go_ret
  exact ⟨rfl, hb5⟩
theorem owns_lowB {w : World} {B B' T s n : Nat} {v : Value} {l : List Value} (h : w.ownsRow B T s v n l) (hB : B' ≤ B) : w.ownsRow B' T s v n l := by
  rcases h with ⟨b2, hr⟩
  refine ⟨b2, ?_⟩
  rcases hr with h | ⟨g, cap, cur, e, hb, r⟩
  · exact .inl h
  · exact .inr ⟨g, cap, cur, e, Nat.le_trans hB hb, r⟩
theorem wp_shr {o : Oper} {a : Act} {w : World} {K : Act → World → Prop} {Q : Exit → Act → World → Prop} (ty yt : TypeId) (x y : Operand) (ho : o.op = .binOp .shr ty x y yt) (vx vy v : Value) (hx : a.eval x = vx) (hy : a.eval y = vy) (hr : (binOp .shr ty vx vy).run Tryz.prog w = .ok v w) (h : K (a.put o.dst v) w) : Oper.wp Tryz.prog o a w K Q := by
  have hg : (eqGuard .shr ty x y vx vy).run Tryz.prog w = .ok () w := by simp [eqGuard]
  unfold Oper.wp execOp
  simp only [ho, hx, hy, Sem.run_bind, hg, hr, Result.andThen_ok]
  exact h
theorem shr_run (n k : Nat) (w : World) : (binOp .shr 24 (.int .u64 (n : Int)) (.int .i64 (k : Int))).run Tryz.prog w = .ok (.int .u64 (((n : Int) / 2 ^ min k 64))) w := by
  go_simp
set_option maxRecDepth 100000 in
set_option maxHeartbeats 8000000 in
theorem fails_main {ia : Option Addr} {ic : Nat} {vm : Value} {r0 r1 r2 r3 r4 r5 r6 r7 : Int} (inp : List Int) (hE : EnvWf inp (regL r0 r1 r2 r3 r4 r5 r6 r7)) (ls : List Nd) (v : Value) (w : World) (h : SlIs 6 Nd.cells w v ls) (hi : SlIs 1 u8c w (.slice ia inp.length ic) inp) (hl : lightB ls = true) (hll : ls.length ≤ 60) (b : BS) (root : List Int) (s : Nat → Bool) (V : Nat) (W : Int) (d : Nd) (hd : ls[ls.length - 1]? = some d) (hdW : d.w = W) (hne : ls ≠ [])
    (hGI : GI b.g (frB (inI inp) (rgR (regL r0 r1 r2 r3 r4 r5 r6 r7)) b) s) (hbn : b.g.n ≤ 1048576) (hleaf : ∀ l, l ∈ b.inp ∨ l ∈ b.reg → l.length ≤ 64 ∧ ∀ a ∈ l, -1048576 ≤ a ∧ a ≤ 1048576) (hfl : (frB (inI inp) (rgR (regL r0 r1 r2 r3 r4 r5 r6 r7)) b).length ≤ 2000) (hrx : ∀ x ∈ root, isL b.g.n x) (hr64 : root.length ≤ 64) (hrW : (root.length : Int) = W) (hrV : bv (root.map (lit s)) = V)
    (n : Nat) (hn : n < 18446744073709551616)
    (hOF : ∀ (u : World) (v' : Value), SlIs 6 Nd.cells u v' ls → Calls Tryz.prog 8 #[v'] u fun e w' => OfRes b root e w' ∧ Below u.heap.size u w')
    (hCK : ∀ u : World, Below w.heap.size w u → Calls Tryz.prog 9 #[v] u fun e w' => e = .returned (.int .i64 0) ∧ Below u.heap.size u w')
    (h07 : ∀ u : World, Below w.heap.size w u → Calls Tryz.prog 13 #[v, .agg #[.slice ia inp.length ic, .int .u64 r0, .int .u64 r1, .int .u64 r2, .int .u64 r3, .int .u64 r4, .int .u64 r5, .int .u64 r6, .int .u64 r7, vm]] u fun e w' => e = .returned (.tuple #[.int .u64 (V : Int), .int .i64 0]) ∧ Below u.heap.size u w') :
    Calls Tryz.prog 4 #[v, .agg #[.slice ia inp.length ic, .int .u64 r0, .int .u64 r1, .int .u64 r2, .int .u64 r3, .int .u64 r4, .int .u64 r5, .int .u64 r6, .int .u64 r7, vm], .int .u64 (n : Int)] w fun e w' => e = .returned (.bool true) ∧ Below w.heap.size w w' := by
  have HLG : Hid (∀ u : World, Below w.heap.size w u → Calls Tryz.prog 7 #[v] u fun e w' => e = .returned (.bool true) ∧ w' = u) := Lib.hid (fun u hb => light_any v ls u (h.below hb) true (Lib.hid hl))
  have HOF := Lib.hid hOF
  have HCK := Lib.hid hCK
  have H07 := Lib.hid h07
  have HL := Lib.hid h
  have HEW := Lib.hid hE
  have HIN := Lib.hid hi
  have HLN := Lib.hid hll
  have hin' : ¬ (inp.length : Int) > 100 := by have := hE.il; omega
  obtain ⟨ao, cap, rfl, hcap, -, hrow⟩ := h
  obtain ⟨lb, lo, rfl, HRow⟩ := hrow hne
  have hcw0 := HRow (ls.length - 1) d hd 1 _ rfl
  rw [hdW] at hcw0
  have hpos := List.length_pos_iff.2 hne
  obtain ⟨N, hN⟩ : ∃ N : Nat, ls.length = N + 1 := ⟨ls.length - 1, by omega⟩
  have HCW : Hid (w.cell? ⟨lb, lo + N * 6 + 1, none⟩ = some (.int .i64 (root.length : Int))) := Lib.hid (by
    rw [hrW, ← hcw0]
    congr 2
    omega)
  have HNN := Lib.hid hN
  rw [hN] at HLG HCK H07 HL ⊢
  have HGI := Lib.hid hGI
  have HBN := Lib.hid hbn
  have HLF := Lib.hid hleaf
  have HFL := Lib.hid hfl
  have HRX := Lib.hid hrx
  have hr64I : (root.length : Int) ≤ 64 := by omega
  have HR64 := Lib.hid hr64
  have HNB := Lib.hid hn
  have hn0 : (0 : Int) ≤ (n : Int) := by omega
  have hn1 : (n : Int) < 18446744073709551616 := by omega
  obtain ⟨r, hr⟩ : ∃ r, decide (bv (root.map (lit s)) = n) = r := ⟨_, rfl⟩
  have hnV : ((n : Int) == (V : Int)) = r := by
    rw [← hr, hrV]
    by_cases e : V = n
    · rw [decide_eq_true e, e]; simp
    · rw [decide_eq_false e]; simp; omega
  have HR := Lib.hid hr
  clear hl hOF hCK h07 hll hE hi hcw0 hrow HRow hcap hpos hN hGI hbn hleaf hfl hrx hr64 hrW hrV hd hdW hne hn hr
  go_enter Tryz.func4, Tryz.ntmps4
  (repeat (first | (with_reducible first | refine xA ?_ | refine xB ?_ | refine xC ?_ | refine xD ?_ | refine xH ?_ | refine xI rfl ?_ | refine xE ?_ | refine xF ?_ | refine xG ?_) | go_skip | go_guarded | (go_at_call 6; (with_reducible refine (awake16_any _).mono ?_); rintro _ w0 ⟨rfl, hb⟩; have he0 := (hb.block w.heap.size (by simp)).trans (heap_alloc_new w (.cells #[.slice ia inp.length ic, .int .u64 r0, .int .u64 r1, .int .u64 r2, .int .u64 r3, .int .u64 r4, .int .u64 r5, .int .u64 r6, .int .u64 r7, vm] 27)); have hb0 : Below w.heap.size w w0 := (Below.alloc (Below.refl _ _) (Nat.le_refl _) _).trans (hb.mono (by simp)); clear hb; have hci : w0.cell? ⟨w.heap.size, 0, none⟩ = some (.slice ia inp.length ic) := (cell_of_row w0 w.heap.size 0 _ _ _ he0).trans rfl; have HE0 := Lib.hid he0) | (go_at_call 7; (with_reducible refine (HLG.out _ hb0).mono ?_); rintro _ w1 ⟨rfl, rfl⟩) | (go_at_call 9; (with_reducible refine (HCK.out _ hb0).mono ?_); rintro _ w2 ⟨rfl, hbc⟩; have hb5 := hb0.trans (hbc.mono hb0.size); have HE5 := Lib.hid ((hbc.block _ (lt_of_block HE0.out)).trans HE0.out); have HSL := Lib.hid (HL.out.below hb5); clear hbc) | (go_at_call 8; (with_reducible refine (HOF.out _ _ HSL.out).mono ?_); rintro _ w6 ⟨⟨q, cs, ar, cr, iv, rv, rfl, hO, hC, hR, hil, hrl, hI, hRg, hni, hnr, hcm⟩, hb6⟩; have HB6 := Lib.hid (hb5.trans (hb6.mono hb5.size)); have HE6 := Lib.hid ((hb6.block _ (lt_of_block HE5.out)).trans HE5.out); clear hb6 hni hnr) | ((with_reducible refine wl_id ?_); refine wl_strow rfl 35 _ _ rfl w6.heap.size _ rfl rfl 35 fzero.toArray (heap_alloc_new w6 _) (by rw [List.size_toArray, fcells_len hil hrl]; exact sizeTF) (by rw [List.size_toArray, List.size_toArray, fcells_len hil hrl, fzero_len]) (fcells_one rfl rfl rfl (slsx_one hI) (slsx_one hRg)) ?_; intro w7 hh7 hg7; have hb67 := below_grown (Below.alloc (Below.refl w6.heap.size w6) (Nat.le_refl _) _) hg7 (fun k e => by injection e with e; omega); have HQ := Lib.hid (hO.kept (Kept.ofBelow (X := fun _ => True) hb67) trivial); have HC := Lib.hid (hC.kept (Kept.ofBelow hb67)); have HRT := Lib.hid (hR.kept (Kept.ofBelow hb67)); have HI := Lib.hid (hI.kept (Kept.ofBelow hb67)); have HRG := Lib.hid (hRg.kept (Kept.ofBelow hb67)); have HCM := Lib.hid hcm; have HIL := Lib.hid hil; have HRL := Lib.hid hrl; have HE7 := Lib.hid ((hb67.block _ (lt_of_block HE6.out)).trans HE6.out); have HB7 := Lib.hid (HB6.out.trans (hb67.mono HB6.out.size)); have HH7 := Lib.hid hh7; clear hb67 hg7 hh7 hO hC hR hI hRg hil hrl hcm; (try simp only [Act.put, qz4, qz5, qz6])) | go_values | go_skip | go_guarded | go_step | go_upon | go_back | ((with_reducible show Oper.upon _ _ _ _ _ _); go_simp) | (dsimp only)))
  obtain ⟨q1, hq1⟩ : ∃ q1, w6.heap.size = q1 := ⟨_, rfl⟩
  rw [hq1] at HH7 ⊢
  have HX0 : Hid (∀ u : World, Below w7.heap.size w7 u → u.heap[q1]? = some (.cells (fcells (.slice (some ⟨q, 0, none⟩) b.g.cl.length b.g.cl.length) (.int .i64 b.g.n) (.slice ar root.length cr) iv rv).toArray 35 (0, 0))) := Lib.hid (fun u hu => (hu.block _ (lt_of_block HH7.out)).trans HH7.out)
  have HXE : Hid (∀ u : World, Below w7.heap.size w7 u → u.heap[w.heap.size]? = some (.cells #[.slice ia inp.length ic, .int .u64 r0, .int .u64 r1, .int .u64 r2, .int .u64 r3, .int .u64 r4, .int .u64 r5, .int .u64 r6, .int .u64 r7, vm] 27 (0, 0))) := Lib.hid (fun u hu => (hu.block _ (lt_of_block HE7.out)).trans HE7.out)
  have HC0 : Hid (∀ u : World, Below w7.heap.size w7 u → u.cell? ⟨q1, 0, none⟩ = some (.slice (some ⟨q, 0, none⟩) b.g.cl.length b.g.cl.length)) := Lib.hid (fun u hu => (cell_of_row u q1 0 _ _ _ (HX0.out u hu)).trans rfl)
  have HC2 : Hid (∀ u : World, Below w7.heap.size w7 u → u.cell? ⟨q1, 2, none⟩ = some (.slice ar root.length cr)) := Lib.hid (fun u hu => (cell_of_row u q1 2 _ _ _ (HX0.out u hu)).trans rfl)
  have HLI : Hid (∀ u : World, Below w7.heap.size w7 u → (Instr.loadAt 32 (.pointer (some ⟨q1, 3, none⟩))).run Tryz.prog u = .ok (.agg iv.toArray) u) := Lib.hid (fun u hu => ld_mid u q1 3 16 35 32 _ _ iv (HX0.out u hu) (fun j v hj => (List.getElem?_toArray ..).trans (fc_inp hj)) HIL.out Tryz.underlying32 rfl size16)
  have HLR : Hid (∀ u : World, Below w7.heap.size w7 u → (Instr.loadAt 33 (.pointer (some ⟨q1, 19, none⟩))).run Tryz.prog u = .ok (.agg rv.toArray) u) := Lib.hid (fun u hu => ld_mid u q1 19 8 35 33 _ _ rv (HX0.out u hu) (fun j v hj => (List.getElem?_toArray ..).trans (fc_reg HIL.out hj)) HRL.out Tryz.underlying33 rfl size8)
  have hc2 := HC2.out w7 (Below.refl _ _)
  have hcw := cell_keep HB7.out HCW.out
  have iN0 : (0 : Int) ≤ (N : Int) := by omega
  have iN1 : (N : Int) < (N : Int) + 1 := by omega
  have iN2 : (N : Int) < ((N + 1 : Nat) : Int) := by omega
  have iN3 : (N : Int) ≤ 60 := by have := HLN.out; have := HNN.out; omega
  clear hq1
  have hnr : ((root.length : Int) != (root.length : Int)) = false := by simp
  go_quiet (fail)
  have hbq : Below w7.heap.size w7 (w7.drewN nq) := below_drewN (Below.refl _ _) nq
  clear hc2 hcw hnr
  have hcw := cell_keep (HB7.out.trans (hbq.mono HB7.out.size)) HCW.out
  generalize w7.drewN nq = w8 at *
  obtain ⟨X, hX⟩ : ∃ X : Int, (n : Int) / 2 ^ min root.length 64 = X := ⟨_, rfl⟩
  obtain ⟨L, hL⟩ : ∃ L : Int, (root.length : Int) = L := ⟨_, rfl⟩
  have hsh : ∀ w, (binOp .shr 24 (.int .u64 (n : Int)) (.int .i64 L)).run Tryz.prog w = .ok (.int .u64 X) w := fun w => by rw [← hX, ← hL]; exact shr_run n root.length w
  rw [hL] at hcw
  have HX := Lib.hid hX
  have hcase : (¬ L < 64) ∨ (L < 64 ∧ (X != 0) = false) ∨ (L < 64 ∧ (X != 0) = true) := by
    by_cases h64 : L < 64
    · cases e : (X != 0)
      · exact .inr (.inl ⟨h64, rfl⟩)
      · exact .inr (.inr ⟨h64, rfl⟩)
    · exact .inl h64
  clear hX
  have hr0 : (0 : Int) ≤ L := by omega
  have hr0' : ¬ L < 0 := by omega
  have hlt2 : Hid ((¬ L < 64) ∨ (X != 0) = false → n < 2 ^ root.length) := Lib.hid (fun hc => by
    rw [← hL] at hc
    by_cases h64 : (root.length : Int) < 64
    · have h2 := hc.resolve_left (fun h => h h64)
      have hx0 : X = 0 := by simpa using h2
      have hX' := HX.out
      rw [hx0, Nat.min_eq_left (by omega)] at hX'
      have hp : (0 : Int) < 2 ^ root.length := Int.pow_pos (by decide)
      have h3 := Int.lt_ediv_add_one_mul_self (n : Int) hp
      rw [hX'] at h3
      have h4 : (n : Int) < 2 ^ root.length := by simpa using h3
      exact_mod_cast h4
    · have e : root.length = 64 := by have := HR64.out; omega
      rw [e]; exact HNB.out)
  clear hL
  rcases hcase with h1 | ⟨h1, h2⟩ | ⟨h1, h2⟩
  rotate_left 2
  · (repeat (first | (with_reducible first | refine xA ?_ | refine xB ?_ | refine xC ?_ | refine xD ?_ | refine xH ?_ | refine xI rfl ?_ | refine xE ?_ | refine xF ?_ | refine xG ?_) | (refine wp_shr _ _ _ _ rfl _ _ _ rfl rfl (hsh _) ?_; (try simp only [Act.put, qz4, qz5, qz6])) | go_values | go_skip | go_guarded | go_step | go_upon | go_back | ((with_reducible show Oper.upon _ _ _ _ _ _); go_simp) | (dsimp only)))
    go_ret
    exact ⟨rfl, HB7.out.trans (hbq.mono HB7.out.size)⟩
  all_goals
    (repeat (first | (with_reducible first | refine xA ?_ | refine xB ?_ | refine xC ?_ | refine xD ?_ | refine xH ?_ | refine xI rfl ?_ | refine xE ?_ | refine xF ?_ | refine xG ?_) | (refine wp_shr _ _ _ _ rfl _ _ _ rfl rfl (hsh _) ?_; (try simp only [Act.put, qz4, qz5, qz6])) | go_values | go_skip | go_guarded | go_step | go_upon | go_back | ((with_reducible show Oper.upon _ _ _ _ _ _); go_simp) | (dsimp only)))
    have hnlt := hlt2.out (by first | exact .inl h1 | exact .inr h2)
    refine wp_region_held (S := fun u => Below w7.heap.size w7 u) (by kernel_rfl) ?_
    have HSC : Below w7.heap.size w7 ({ w8 with drawn := w8.drawn + 1 } : World) := hbq.trans ⟨rfl, rfl, rfl, Nat.le_refl _, fun _ _ => rfl⟩
    clear hbq hcw hsh HX hlt2 h1 hr0 hr0'
    have HNL := Lib.hid hnlt
    clear hnlt
    generalize ({ w8 with drawn := w8.drawn + 1 } : World) = u0 at *
    (refine wpAnyH_take (i := 0) (v := .pointer (some ⟨q1, 3, none⟩)) rfl (by kernel_rfl) (by kernel_rfl) (by kernel_rfl) (fun _ _ _ h => h) (Or.inl ⟨rfl, fun w _ => by go_simp⟩) HSC ?_; simp only [Act.put, qz1, qz2, qz3, qz4, qz5, qz6])
    (refine wpAnyH_take (i := 1) (v := .agg iv.toArray) rfl (by kernel_rfl) (by kernel_rfl) (by kernel_rfl) (fun _ _ _ h => h) (Or.inl ⟨rfl, fun w hw => take_ld rfl rfl (HLI.out w hw)⟩) HSC ?_; simp only [Act.put, qz1, qz2, qz3, qz4, qz5, qz6])
    (refine wpAnyH_take (i := 2) (v := .pointer (some ⟨q1, 19, none⟩)) rfl (by kernel_rfl) (by kernel_rfl) (by kernel_rfl) (fun _ _ _ h => h) (Or.inl ⟨rfl, fun w _ => by go_simp⟩) HSC ?_; simp only [Act.put, qz1, qz2, qz3, qz4, qz5, qz6])
    (refine wpAnyH_take (i := 3) (v := .agg rv.toArray) rfl (by kernel_rfl) (by kernel_rfl) (by kernel_rfl) (fun _ _ _ h => h) (Or.inl ⟨rfl, fun w hw => take_ld rfl rfl (HLR.out w hw)⟩) HSC ?_; simp only [Act.put, qz1, qz2, qz3, qz4, qz5, qz6])
    (refine wpAnyH_take (i := 4) (v := .agg #[.slice ia inp.length ic, .int .u64 r0, .int .u64 r1, .int .u64 r2, .int .u64 r3, .int .u64 r4, .int .u64 r5, .int .u64 r6, .int .u64 r7, vm]) rfl (by kernel_rfl) (by kernel_rfl) (by kernel_rfl) (fun _ _ _ h => h) (Or.inl ⟨rfl, fun w hw => take_ld rfl rfl (ldEnv w _ (HXE.out w hw))⟩) HSC ?_; simp only [Act.put, qz1, qz2, qz3, qz4, qz5, qz6])
    (refine wpAnyH_take (i := 6) (v := .pointer (some ⟨q1, 2, none⟩)) rfl (by kernel_rfl) (by kernel_rfl) (by kernel_rfl) (fun _ _ _ h => h) (Or.inl ⟨rfl, fun w _ => by go_simp⟩) HSC ?_; simp only [Act.put, qz1, qz2, qz3, qz4, qz5, qz6])
    (refine wpAnyH_take (i := 7) (v := .slice ar root.length cr) rfl (by kernel_rfl) (by kernel_rfl) (by kernel_rfl) (fun _ _ _ h => h) (Or.inl ⟨rfl, fun w hw => by have hx := HC2.out w hw; go_simp⟩) HSC ?_; simp only [Act.put, qz1, qz2, qz3, qz4, qz5, qz6])
    (refine wpAnyH_take (i := 8) (v := .int .u64 (n : Int)) rfl (by kernel_rfl) (by kernel_rfl) (by kernel_rfl) (fun _ _ _ h => h) (Or.inl ⟨rfl, fun w _ => by go_simp⟩) HSC ?_; simp only [Act.put, qz1, qz2, qz3, qz4, qz5, qz6])
    refine wpAnyH_all (rs := [5]) (by kernel_rfl) (by simp) (fun i hi => ?_)
    obtain rfl : i = 5 := by simpa using hi
    refine wpOp_one rfl ?_
    have HFRM := Lib.hid (from_any (w := u0) inp HEW.out (HIN.out.below (HB7.out.trans (HSC.mono HB7.out.size))) b iv rv (HI.out.kept (Kept.ofBelow HSC)) (HRG.out.kept (Kept.ofBelow HSC)) HIL.out HRL.out HLF.out (inI inp) (rgR (regL r0 r1 r2 r3 r4 r5 r6 r7)) rfl rfl (vm := vm))
    (repeat (first | (with_reducible first | refine xA ?_ | refine xB ?_ | refine xC ?_ | refine xD ?_ | refine xH ?_ | refine xI rfl ?_ | refine xE ?_ | refine xF ?_ | refine xG ?_) | go_skip | go_guarded | (go_at_call 11; (with_reducible refine HFRM.out.mono ?_); rintro _ u1 ⟨⟨vf, rfl, hOF⟩, hb1⟩) | go_values | go_skip | go_guarded | go_step | go_upon | go_back | ((with_reducible show Oper.upon _ _ _ _ _ _); go_simp) | (dsimp only)))
    have HS1 := HSC.trans (hb1.mono HSC.size)
    refine ⟨HS1, ?_⟩
    refine wpAnyH_all (rs := [9]) (by kernel_rfl) (by simp) (fun i hi => ?_)
    obtain rfl : i = 9 := by simpa using hi
    refine wpOp_one rfl ?_
    have HSAY := Lib.hid (say_law _ root n u1 (HRT.out.kept (Kept.ofBelow HS1)) (by have := HR64.out; omega) HNB.out (fun a ha => rng_of (HRX.out a ha) HBN.out))
    (repeat (first | (with_reducible first | refine xA ?_ | refine xB ?_ | refine xC ?_ | refine xD ?_ | refine xH ?_ | refine xI rfl ?_ | refine xE ?_ | refine xF ?_ | refine xG ?_) | go_skip | go_guarded | (go_at_call 14; (with_reducible refine HSAY.out.mono ?_); rintro _ u2 ⟨vs, rfl, hO2, hb2⟩) | go_values | go_skip | go_guarded | go_step | go_upon | go_back | ((with_reducible show Oper.upon _ _ _ _ _ _); go_simp) | (dsimp only)))
    have HS2 := HS1.trans (hb2.mono HS1.size)
    have hO3 := owns_lowB (owns_kept hOF (Kept.ofBelow (X := fun _ => True) hb2) (fun _ _ => trivial)) (B' := u0.heap.size) (by omega)
    have hsz2 : u0.heap.size ≤ u2.heap.size := Nat.le_trans hb1.size hb2.size
    have hszu := HSC.size
    refine ⟨HS2, ?_⟩
    refine wpAnyH_all (rs := [10]) (by kernel_rfl) (by simp) (fun i hi => ?_)
    obtain rfl : i = 10 := by simpa using hi
    refine wpOp_one rfl ?_
    (repeat (first | (with_reducible first | refine xA ?_ | refine xB ?_ | refine xC ?_ | refine xD ?_ | refine xH ?_ | refine xI rfl ?_ | refine xE ?_ | refine xF ?_ | refine xG ?_) | go_skip | go_guarded | ((with_reducible refine wl_id ?_); refine wl_appendO rfl _ _ rfl u0.heap.size vf _ _ rfl hO3 u1.heap.size root.length vs (sayL root n) rfl hO2 (by have := HFL.out; have := HR64.out; omega) hsz2 ?_; intro v9 w9 hO9 hg9 hl9; (try simp only [Act.put, qz4, qz5, qz6])) | go_values | go_skip | go_guarded | go_step | go_upon | go_back | ((with_reducible show Oper.upon _ _ _ _ _ _); go_simp) | (dsimp only)))
    have HS9 := below_grown HS2 hg9 (fun k e => Nat.le_trans hszu (hO3.lt k e).1)
    obtain ⟨a9, c9, rfl⟩ := ownsRow_shape hO9
    refine ⟨HS9, ?_⟩
    clear HSC
    have HSC := HS9
    (refine wpAnyH_take (i := 11) (v := .slice a9 ((frB (inI inp) (rgR (regL r0 r1 r2 r3 r4 r5 r6 r7)) b).length + root.length) c9) rfl (by kernel_rfl) (by kernel_rfl) (by kernel_rfl) (fun _ _ _ h => h) (Or.inl ⟨rfl, fun w _ => by go_simp⟩) HSC ?_; simp only [Act.put, qz1, qz2, qz3, qz4, qz5, qz6])
    refine wpAnyH_done (by kernel_rfl) ?_ _
    have hc0 := HC0.out w9 HS9
    have HSP := Lib.hid (spread_say q w9 HGI.out HBN.out HCM.out (HQ.out.kept (Kept.ofBelow (X := fun _ => True) HS9) trivial) (HC.out.kept (Kept.ofBelow HS9)) root HRX.out n HNL.out (own_sl (X := fun _ => True) hO9 fun _ _ => trivial) (by rw [List.length_append, sayL_len]; have := HFL.out; have := HR64.out; omega) r HR)
    clear HSC HS2 HS1 hb1 hb2 hO2 hO3 hOF hsz2 hszu hO9 hg9 hl9 HSAY HFRM
    (repeat (first | (with_reducible first | refine xA ?_ | refine xB ?_ | refine xC ?_ | refine xD ?_ | refine xH ?_ | refine xI rfl ?_ | refine xE ?_ | refine xF ?_ | refine xG ?_) | go_skip | go_guarded | (go_at_call 10; (with_reducible refine HSP.out.mono ?_); rintro _ u3 ⟨⟨v3, rfl⟩, hb3⟩; have hS3 := HS9.trans (hb3.mono HS9.size); have he3 := HXE.out _ hS3; have HB3 := Lib.hid (HB7.out.trans (hS3.mono HB7.out.size)); clear hb3) | ((with_reducible refine wl_id ?_); refine wpList_load_row rfl 27 _ rfl _ rfl 27 _ (0, 0) _ he3 Tryz.underlying27 rfl sizeEnv ?_; (try simp only [Act.put, qz4, qz5, qz6])) | (go_at_call 13; (with_reducible refine (H07.out _ HB3.out).mono ?_); rintro _ u4 ⟨rfl, hb4⟩; have HB4 := Lib.hid (HB3.out.trans (hb4.mono HB3.out.size)); clear hb4) | go_values | go_skip | go_guarded | go_step | go_upon | go_back | ((with_reducible show Oper.upon _ _ _ _ _ _); go_simp) | (dsimp only)))
    go_ret
    exact ⟨ret_bool (by simp), HB4.out⟩
end Go.Proofs.YtmaogkgjiplckaaGreat
namespace Go.Proofs.YtmaogkgjiplckaaGreat
open Go.RowKit
open Go.ChangeShapes Go.WideShapes Go.Deep Go.Joins
set_option maxRecDepth 100000 in
theorem fails_walk {ia : Option Addr} {ic : Nat} {vm : Value} {r0 r1 r2 r3 r4 r5 r6 r7 n : Int} (inp : List Int) (ls : List Nd) (v : Value) (w : World) (h : SlIs 6 Nd.cells w v ls) (hwf : ∀ d ∈ ls, NdWf d) (hi : SlIs 1 u8c w (.slice ia inp.length ic) inp) (hib : ∀ a ∈ inp, 0 ≤ a ∧ a < 256) (hrb : ∀ x ∈ regL r0 r1 r2 r3 r4 r5 r6 r7, 0 ≤ x ∧ x < 18446744073709551616) (hn0 : 0 ≤ n) (hn1 : n < 18446744073709551616) :
    Calls Tryz.prog 4 #[v, .agg #[.slice ia inp.length ic, .int .u64 r0, .int .u64 r1, .int .u64 r2, .int .u64 r3, .int .u64 r4, .int .u64 r5, .int .u64 r6, .int .u64 r7, vm], .int .u64 n] w fun e w' => e = .returned (.bool true) ∧ Below w.heap.size w w' := by
  cases hl : lightB ls with
  | false => exact fails_dark inp ls v w h hl
  | true =>
    have hll : ls.length ≤ 60 := by
      unfold lightB at hl
      rw [Bool.and_eq_true, decide_eq_true_eq] at hl
      exact hl.1
    by_cases hin : inp.length ≤ 100
    · by_cases hE : (tchk ls).1 = 0
      · have h00 := tchk_00 hE
        have ho := ops_of h00 (by omega)
        cases ha : ls.any arrB with
        | true => exact fails_bad inp (by omega) ls v w h hl 8 rfl (fun u hb => check16_any ls v u (h.below hb) hwf hE (by omega) ho 8 (Lib.hid (by rw [ha]; rfl)))
        | false =>
          obtain ⟨hT, hne⟩ := tf_of h00 (by omega) (fun d hd => arr_no.1 (by
            have := List.any_eq_false.1 ha d hd
            simpa using this)) hwf
          have hEW : EnvWf inp (regL r0 r1 r2 r3 r4 r5 r6 r7) := ⟨hin, hib, hrb⟩
          obtain ⟨s, hp⟩ := plain_ok (I := inI inp) (R := rgR (regL r0 r1 r2 r3 r4 r5 r6 r7)) hT hne hEW.I hEW.R
          have hn := light_n hT hl
          have hbn : (bK ls ls.length).g.n ≤ 1048576 := by have := hn ls.length (Nat.le_refl _); omega
          have hlf := leaf_b hT hbn
          have hpos := List.length_pos_iff.2 hne
          have hd := List.getElem?_eq_getElem (show ls.length - 1 < ls.length by omega)
          obtain ⟨m, rfl⟩ := Int.eq_ofNat_of_zero_le hn0
          exact fails_main inp hEW ls v w h hi hl hll (bK ls ls.length) ((bK ls ls.length).at ((ls.length - 1 : Nat) : Int)) s _ (wAt ls ((ls.length - 1 : Nat) : Int)) _ hd (wAt_get hd).symm hne hp.gi hbn hlf (fr_len (I := inI inp) (R := rgR (regL r0 r1 r2 r3 r4 r5 r6 r7)) (b := bK ls ls.length) (fun l h => (hlf l h).1)) hp.rx hp.r64 hp.rl hp.rv m (by omega) (fun u v' hs => of_ok ls v' u hs hwf hE (by omega) hT hne ho ha hn) (fun u hb => check16_any ls v u (h.below hb) hwf hE (by omega) ho 0 (Lib.hid (by rw [ha]; rfl))) (fun u hb => of7_any inp hEW (hi.below hb) ls (h.below hb) (by omega) hT hwf hE hne _ _ rfl rfl _ (Lib.hid rfl))
      · exact fails_bad inp (by omega) ls v w h hl (tchk ls).1 (by simpa using hE) (fun u hb => check16_bad ls v u (h.below hb) hwf _ (Lib.hid rfl) (by simpa using hE))
    · exact fails_many inp (by omega) ls v w h hl
set_option maxRecDepth 100000 in
theorem fails_law {H : Type} {enc : TypeId × Value → H} {base : Nat} {d0 d1 : DataW H} {p0 p1 : List MemPlace} (v0 v1 : Value) (a2 : Int) (w : World) (o0 : Value.okWide Tryz.prog w .any base 22 v0) (k0 : DataW.Trod enc Tryz.prog w 0 (fun _ => true) true 22 v0 d0 p0) (o1 : Value.okWide Tryz.prog w .any base 27 v1) (k1 : DataW.Trod enc Tryz.prog w 0 (fun _ => true) true 27 v1 d1 p1) (w2 : (Lit.int .u64 a2).wf = true) :
    Calls Tryz.prog 4 #[v0, v1, .int .u64 a2] w fun e w' => e = .returned (.bool true) ∧ Below w.heap.size w w' := by
  obtain ⟨a, l, c, rfl⟩ := okWide_slice Tryz.underlying22 o0
  obtain ⟨fuel, h⟩ := k0
  obtain ⟨ls, h1, h2⟩ := open_nodes (by simpa [Value.cells] using h)
  obtain ⟨inp, ia, ic, r0, r1, r2, r3, r4, r5, r6, r7, vm, rfl, hs, hb, hr⟩ := open_env o1 k1
  exact fails_walk inp ls _ w h1 h2 hs hb hr (n_u64 w2).1 (n_u64 w2).2
end Go.Proofs.YtmaogkgjiplckaaGreat

