/-
  The reference's reader: value.
-/
import Derived.Test.YtoemnccklakkeaaDoorLrG
namespace Go.Proofs.YtoemnccklakkeaaDoor
open Go.RowKit Go.Lib
set_option linter.unusedVariables false

theorem PRef.bad0 {w w6 : World} {R : Nat} {s : ByteArray} {r : Nat × Bool × VL} (h : r.2.1 = false) (hr : Rrs w w6 R s r.1) :
    PRef w R s r (.returned (.tuple #[.agg #[.int .i64 0, .int .i64 0, .string ⟨#[]⟩, .slice none 0 0], .bool false])) w6 :=
  ⟨0, 0, ⟨#[]⟩, none, 0, 0, by rw [h], hr, fun e => by rw [h] at e; cases e⟩
theorem PRef.move {w wa w6 : World} {R : Nat} {s : ByteArray} {i : Nat} {k n : Int} {t : ByteArray} {sa : Option Addr} {l sc : Nat} {r : Nat × Bool × VL} (ha : Rrs w wa R s i) (hza : w.heap.size < wa.heap.size) (hr : Rrs wa w6 R s r.1) (hRl : R < w.heap.size)
    (hv : r.2.1 = true → ∃ sub : VL, r.2.2 = val1 k n t sub ∧ l = sub.len ∧ sub.len ≤ sc ∧ RpL w6 (fun b => wa.heap.size ≤ b ∧ b < w6.heap.size) sub sa) :
    PRef w R s r (.returned (.tuple #[.agg #[.int .i64 k, .int .i64 n, .string t, .slice sa l sc], .bool r.2.1])) ((((w6.setCell ⟨w.heap.size, 0, none⟩ (.int .i64 k)).setCell ⟨w.heap.size, 1, none⟩ (.int .i64 n)).setCell ⟨w.heap.size, 2, none⟩ (.string t)).setCell ⟨w.heap.size, 3, none⟩ (.slice sa l sc)) := by
  refine ⟨k, n, t, sa, l, sc, rfl, (ha.trans hr).far4 (Nat.le_refl _) hRl _ _ _ _, fun h => ?_⟩
  obtain ⟨sub, h1, h2, h3, h4⟩ := hv h
  exact ⟨sub, h1, h2, h3, h4.keep (fun b hb => heap_set4 _ _ _ _ _ _ _ (by have := hb.1; omega)) (fun b hb => ⟨by have := hb.1; omega, by rw [size_set4]; exact hb.2⟩)⟩

set_option maxRecDepth 100000 in
set_option maxHeartbeats 4000000 in
theorem valueR_step (f : Nat) (ih : ∀ f', f' < f → ValRC f') : ValRC f := by
  intro R s i w h hs hi hf
  obtain ⟨f, rfl⟩ : ∃ g, f = g + 1 := ⟨f - 1, by omega⟩
  have hRl := h.lt
  obtain ⟨wa, hwa⟩ : ∃ wa, wa = w.alloc (.cells #[.int .i64 0, .int .i64 0, .string ⟨#[]⟩, .slice none 0 0] 31) := ⟨_, rfl⟩
  have hra : Rrs w wa R s i := by rw [hwa]; exact (Rrs.of h).alloc _
  have hb2 : StB wa w.heap.size (.int .i64 0) (.int .i64 0) (.string ⟨#[]⟩) (.slice none 0 0) := by rw [hwa]; exact StB.new w _ _ _ _
  have HZA := Lib.hid (show wa.heap.size = w.heap.size + 1 by rw [hwa]; simp)
  have HA := Lib.hid hra
  have HB2 := Lib.hid hb2
  have HW := Lib.hid hwa
  have hwR : some w.heap.size ≠ some R := fun e => by injection e with e; omega
  have d0 := hra.at_.c0
  have d1 := hra.at_.c1
  have df := hra.at_.fr 1
  rw [hwa] at d0 d1 df
  clear hra hb2 h hwa
  by_cases hlt : i < s.size
  · have t1 : ¬ s.size ≤ i := by omega
    have t1b : decide ((s.size : Int) ≤ (i : Int)) = false := by rw [decide_eq_false_iff_not]; omega
    have hp : s[i] = pk s i := (pk_in s i hlt).symm
    by_cases hnum : pk s i = 45 ∨ digB (pk s i) = true
    · have HSP := Lib.hid (show valR s (f + 1) i = ((sgnSp s 9223372036854775808 9223372036854775807 i).1, (sgnSp s 9223372036854775808 9223372036854775807 i).2.1, val1 0 (sgnSp s 9223372036854775808 9223372036854775807 i).2.2 ByteArray.empty .nil) by rw [valR, if_neg (by simpa using hlt), if_pos hnum])
      have NC := Lib.hid (fun W hW => signed_c R s i 9223372036854775808 9223372036854775807 W hW hs hi ⟨by omega, by omega⟩ (by omega) (by omega))
      obtain ⟨r, hr⟩ : ∃ r, r = sgnSp s 9223372036854775808 9223372036854775807 i := ⟨_, rfl⟩
      rw [← hr] at HSP NC
      clear hr
      have hw : ((s[i].toNat : Int) == 45) = true ∨ (((s[i].toNat : Int) == 45) = false ∧ (48 : Int) ≤ (s[i].toNat : Int) ∧ (s[i].toNat : Int) ≤ 57) := by
        rw [hp]
        by_cases h45 : pk s i = 45
        · rw [h45]; exact .inl rfl
        · have := digB_range (hnum.resolve_left h45)
          exact .inr ⟨(ne_byte 45 45 rfl h45).1, by omega, by omega⟩
      clear hp hnum
      rcases hw with q1 | ⟨q1, q2, q3⟩
      all_goals
        go_enter Tryd.func41, Tryd.ntmps41
        go_wp2_with fail
        go_quiet (fail)
        go_wp2_with fail
        go_quiet (fail)
        go_wp2_with fail
        refine (NC.out _ (by rw [← HW.out]; exact HA.out.at_.drewN _)).mono ?_
        rintro e w2 ⟨rfl, hr2⟩
        rw [← HW.out] at hr2
        go_wp2_with fail
        refine (refI_c r.2.2 _).mono ?_
        rintro e w3 ⟨rfl, hw3⟩
        have hr3 : Rrs w w3 R s r.1 := by rw [← hw3]; exact ((HA.out.drewN _).trans hr2).alloc _
        have hs3 : StB w3 w.heap.size (.int .i64 0) (.int .i64 0) (.string ⟨#[]⟩) (.slice none 0 0) := by rw [← hw3]; exact ((HB2.out.drewN _).only hr2.grown hwR).alloc _
        clear d0 d1 df
        have HR3 := Lib.hid hr3
        have HS3 := Lib.hid hs3
        clear hw3 hr2
        have k0 := hs3.c0; have k1 := hs3.c1; have k2 := hs3.c2; have k3 := hs3.c3
        have f0 := hs3.fr 0; have f1 := hs3.fr 1; have f2 := hs3.fr 2; have f3 := hs3.fr 3
        clear hr3 hs3
        go_wp2_with fail
        refine ret_cell4_tmp Tryd.results41 w.heap.size rfl rfl (HS3.out.set4 _ _ _ _) ?_
        rw [HSP.out]
        exact PRef.mk4 rfl HR3.out hRl rfl
    have n45 : ((s[i].toNat : Int) == 45) = false := by rw [hp]; exact (ne_byte 45 45 rfl (fun e => hnum (.inl e))).1
    by_cases h35 : pk s i = 35
    · have HSP := Lib.hid (show valR s (f + 1) i = ((sgnSp s 2147483648 2147483647 (i + 1)).1, (sgnSp s 2147483648 2147483647 (i + 1)).2.1, val1 1 (sgnSp s 2147483648 2147483647 (i + 1)).2.2 ByteArray.empty .nil) by rw [valR, if_neg (by simpa using hlt), if_neg hnum, if_pos h35])
      have NC := Lib.hid (fun W hW => signed_c R s (i + 1) 2147483648 2147483647 W hW hs hlt ⟨by omega, by omega⟩ (by omega) (by omega))
      obtain ⟨r, hr⟩ : ∃ r, r = sgnSp s 2147483648 2147483647 (i + 1) := ⟨_, rfl⟩
      rw [← hr] at HSP NC
      have hx : (s[i].toNat : Int) = 35 := by rw [hp, h35]; rfl
      clear hr hp hnum h35 n45
      go_enter Tryd.func41, Tryd.ntmps41
      go_wp2_with fail
      go_quiet (fail)
      go_wp2_with fail
      go_quiet (fail)
      go_wp2_with fail
      refine (NC.out _ (by rw [← HW.out]; first | exact (HA.out.at_.drewN _).set1 (i + 1) | exact (HA.out.at_.set1 (i + 1)).drewN _)).mono ?_
      rintro e w2 ⟨rfl, hr2⟩
      rw [← HW.out] at hr2
      have hra2 : Rrs w w2 R s r.1 := Rrs.trans (by first | exact (HA.out.drewN _).set1 (i + 1) | exact (HA.out.set1 (i + 1)).drewN _) hr2
      have hsa2 : StB w2 w.heap.size (.int .i64 0) (.int .i64 0) (.string ⟨#[]⟩) (.slice none 0 0) := StB.only (by first | exact (HB2.out.drewN _).far (p := ⟨R, 1, none⟩) (by show w.heap.size ≠ R; omega) _ | exact (HB2.out.far (p := ⟨R, 1, none⟩) (by show w.heap.size ≠ R; omega) _).drewN _) hr2.grown hwR
      clear d0 d1 df hr2
      have HRA2 := Lib.hid hra2
      have k0 := hsa2.c0; have k1 := hsa2.c1; have k2 := hsa2.c2; have k3 := hsa2.c3
      have f0 := hsa2.fr 0; have f1 := hsa2.fr 1; have f2 := hsa2.fr 2; have f3 := hsa2.fr 3
      have HSA2 := Lib.hid hsa2
      clear hra2 hsa2
      go_wp2_with fail
      refine ret_cell4_tmp Tryd.results41 w.heap.size rfl rfl (HSA2.out.set4 _ _ _ _) ?_
      rw [HSP.out]
      exact PRef.mk4 rfl HRA2.out hRl rfl
    by_cases h34 : pk s i = 34
    · have HSP := Lib.hid (show valR s (f + 1) i = quoSp s i by rw [valR, if_neg (by simpa using hlt), if_neg hnum, if_neg h35, if_pos h34])
      have NC := Lib.hid (fun W hW => quoted_c R s i W hW hs hlt)
      obtain ⟨r, hr⟩ : ∃ r, r = quoSp s i := ⟨_, rfl⟩
      rw [← hr] at HSP NC
      have hx : (s[i].toNat : Int) = 34 := by rw [hp, h34]; rfl
      clear hr hp hnum h34 n45
      go_enter Tryd.func41, Tryd.ntmps41
      go_wp2_with fail
      go_quiet (fail)
      go_wp2_with fail
      go_quiet (fail)
      go_wp2_with fail
      refine (NC.out _ (by rw [← HW.out]; exact HA.out.at_.drewN _)).mono ?_
      rintro e w2 ⟨k, n, t, sa, l, sc, rfl, hr2, hv⟩
      rw [← HW.out] at hr2 hv
      have hsa2 : StB w2 w.heap.size (.int .i64 0) (.int .i64 0) (.string ⟨#[]⟩) (.slice none 0 0) := StB.only (HB2.out.drewN _) hr2.grown hwR
      have HR2 := Lib.hid hr2
      have HV := Lib.hid hv
      clear d0 d1 df hr2 hv
      have k0 := hsa2.c0; have k1 := hsa2.c1; have k2 := hsa2.c2; have k3 := hsa2.c3
      have f0 := hsa2.fr 0; have f1 := hsa2.fr 1; have f2 := hsa2.fr 2; have f3 := hsa2.fr 3
      have HSA2 := Lib.hid hsa2
      clear hsa2
      go_wp2_with fail
      refine ret_cell4_tmp Tryd.results41 w.heap.size rfl rfl (HSA2.out.set4 _ _ _ _) ?_
      rw [HSP.out]
      exact PRef.move (HA.out.drewN _) (by show w.heap.size < wa.heap.size; have := HZA.out; omega) HR2.out hRl HV.out
    by_cases h69 : pk s i = 69
    · have HSP := Lib.hid (show valR s (f + 1) i = errSp s i by rw [valR, if_neg (by simpa using hlt), if_neg hnum, if_neg h35, if_neg h34, if_pos h69])
      have NC := Lib.hid (fun W hW => err_c R s i W hW hs hi)
      obtain ⟨r, hr⟩ : ∃ r, r = errSp s i := ⟨_, rfl⟩
      rw [← hr] at HSP NC
      have hx : (s[i].toNat : Int) = 69 := by rw [hp, h69]; rfl
      clear hr hp hnum h69 n45
      go_enter Tryd.func41, Tryd.ntmps41
      go_wp2_with fail
      go_quiet (fail)
      go_wp2_with fail
      go_quiet (fail)
      go_wp2_with fail
      refine (NC.out _ (by rw [← HW.out]; exact HA.out.at_.drewN _)).mono ?_
      rintro e w2 ⟨k, n, t, sa, l, sc, rfl, hr2, hv⟩
      rw [← HW.out] at hr2 hv
      have hsa2 : StB w2 w.heap.size (.int .i64 0) (.int .i64 0) (.string ⟨#[]⟩) (.slice none 0 0) := StB.only (HB2.out.drewN _) hr2.grown hwR
      have HR2 := Lib.hid hr2
      have HV := Lib.hid hv
      clear d0 d1 df hr2 hv
      have k0 := hsa2.c0; have k1 := hsa2.c1; have k2 := hsa2.c2; have k3 := hsa2.c3
      have f0 := hsa2.fr 0; have f1 := hsa2.fr 1; have f2 := hsa2.fr 2; have f3 := hsa2.fr 3
      have HSA2 := Lib.hid hsa2
      clear hsa2
      go_wp2_with fail
      refine ret_cell4_tmp Tryd.results41 w.heap.size rfl rfl (HSA2.out.set4 _ _ _ _) ?_
      rw [HSP.out]
      exact PRef.move (HA.out.drewN _) (by show w.heap.size < wa.heap.size; have := HZA.out; omega) HR2.out hRl HV.out
    by_cases h123 : pk s i = 123
    · have HSP := Lib.hid (show valR s (f + 1) i = brR s f i by rw [valR, if_neg (by simpa using hlt), if_neg hnum, if_neg h35, if_neg h34, if_neg h69, if_pos h123]; rfl)
      have NC := Lib.hid (fun W hW => listR_c f (fun f' hf' => ih f' (by omega)) R s i W hW hs hlt (by omega))
      obtain ⟨r, hr⟩ : ∃ r, r = brR s f i := ⟨_, rfl⟩
      rw [← hr] at HSP NC
      have hx : (s[i].toNat : Int) = 123 := by rw [hp, h123]; rfl
      clear hr hp hnum h123 n45
      go_enter Tryd.func41, Tryd.ntmps41
      go_wp2_with fail
      go_quiet (fail)
      go_wp2_with fail
      go_quiet (fail)
      go_wp2_with fail
      refine (NC.out _ (by rw [← HW.out]; exact HA.out.at_.drewN _)).mono ?_
      rintro e w2 ⟨k, n, t, sa, l, sc, rfl, hr2, hv⟩
      rw [← HW.out] at hr2 hv
      have hsa2 : StB w2 w.heap.size (.int .i64 0) (.int .i64 0) (.string ⟨#[]⟩) (.slice none 0 0) := StB.only (HB2.out.drewN _) hr2.grown hwR
      have HR2 := Lib.hid hr2
      have HV := Lib.hid hv
      clear d0 d1 df hr2 hv
      have k0 := hsa2.c0; have k1 := hsa2.c1; have k2 := hsa2.c2; have k3 := hsa2.c3
      have f0 := hsa2.fr 0; have f1 := hsa2.fr 1; have f2 := hsa2.fr 2; have f3 := hsa2.fr 3
      have HSA2 := Lib.hid hsa2
      clear hsa2
      go_wp2_with fail
      refine ret_cell4_tmp Tryd.results41 w.heap.size rfl rfl (HSA2.out.set4 _ _ _ _) ?_
      rw [HSP.out]
      exact PRef.move (HA.out.drewN _) (by show w.heap.size < wa.heap.size; have := HZA.out; omega) HR2.out hRl HV.out
    have HSP := Lib.hid (show valR s (f + 1) i = (i, false, .nil) by rw [valR, if_neg (by simpa using hlt), if_neg hnum, if_neg h35, if_neg h34, if_neg h69, if_neg h123])
    have n35 : ((s[i].toNat : Int) == 35) = false := by rw [hp]; exact (ne_byte 35 35 rfl h35).1
    have n34 : ((s[i].toNat : Int) == 34) = false := by rw [hp]; exact (ne_byte 34 34 rfl h34).1
    have n69 : ((s[i].toNat : Int) == 69) = false := by rw [hp]; exact (ne_byte 69 69 rfl h69).1
    have n123 : ((s[i].toNat : Int) == 123) = false := by rw [hp]; exact (ne_byte 123 123 rfl h123).1
    have hdg : decide ((48 : Int) ≤ (s[i].toNat : Int)) = false ∨ ((48 : Int) ≤ (s[i].toNat : Int) ∧ decide ((s[i].toNat : Int) ≤ 57) = false) := by
      have hd : ¬ digB (pk s i) = true := fun e => hnum (.inr e)
      unfold digB at hd
      rw [decide_eq_true_eq] at hd
      by_cases h48 : (48 : Int) ≤ (s[i].toNat : Int)
      · exact .inr ⟨h48, by rw [decide_eq_false_iff_not]; rw [hp] at h48 ⊢; omega⟩
      · exact .inl (by rw [decide_eq_false_iff_not]; exact h48)
    have k0 := HB2.out.c0; have k1 := HB2.out.c1; have k2 := HB2.out.c2; have k3 := HB2.out.c3
    clear hp hnum h35 h34 h69 h123 k0 k1 k2 k3
    rcases hdg with g1 | ⟨g1, g2⟩
    all_goals
      go_enter Tryd.func41, Tryd.ntmps41
      go_wp2_with fail
      go_quiet (fail)
      go_wp2_with fail
      go_quiet (fail)
      go_wp2_with fail
      rw [← HW.out]
      refine ret_cell4_tmp Tryd.results41 w.heap.size rfl rfl (StB.set4 (HB2.out.drewN _) _ _ _ _) ?_
      rw [HSP.out]
      exact PRef.bad rfl (HA.out.drewN _) hRl
  · have HSP := Lib.hid (show valR s (f + 1) i = (i, false, .nil) by rw [valR, if_pos hlt])
    have t1 : s.size ≤ i := by omega
    have t1b : decide ((s.size : Int) ≤ (i : Int)) = true := by rw [decide_eq_true_eq]; omega
    clear hlt
    go_enter Tryd.func41, Tryd.ntmps41
    go_wp2_with fail
    go_quiet (fail)
    go_wp2_with fail
    rw [← HW.out]
    refine ret_cell4_tmp Tryd.results41 w.heap.size rfl rfl (StB.set4 (HB2.out.drewN _) _ _ _ _) ?_
    rw [HSP.out]
    exact PRef.bad rfl (HA.out.drewN _) hRl
end Go.Proofs.YtoemnccklakkeaaDoor
