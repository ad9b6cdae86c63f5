/-
  The walk of the reader's value: by induction on what is left of the text.
-/
import Derived.Test.YtoemnccklakkeaaDoorRdJ
namespace Go.Proofs.YtoemnccklakkeaaDoor
open Go.RowKit Go.Lib

/-- A plain value behind the call that makes it. -/
theorem PVal.mk4 {w w6 : World} {R : Nat} {s : ByteArray} {r : Nat × Bool × VL} {k n : Int} {t : ByteArray} (hr : Rds w w6 R s r.1 r.2.1) (hRl : R < w.heap.size) (hv : r.2.2 = val1 k n t .nil) :
    PVal w R s r (.returned (.agg #[.int .i64 k, .int .i64 n, .string t, .slice none 0 0])) ((((w6.setCell ⟨w.heap.size, 0, none⟩ (.int .i64 k)).setCell ⟨w.heap.size, 1, none⟩ (.int .i64 n)).setCell ⟨w.heap.size, 2, none⟩ (.string t)).setCell ⟨w.heap.size, 3, none⟩ (.slice none 0 0)) :=
  ⟨k, n, t, none, 0, 0, rfl, hr.far4 (Nat.le_refl _) hRl _ _ _ _, fun _ => ⟨.nil, hv, rfl, Nat.le_refl _, trivial⟩⟩

set_option maxRecDepth 100000 in
set_option maxHeartbeats 2000000 in
theorem value_step (f : Nat) (ih : ∀ f', f' < f → ValC f') : ValC f := by
  intro R s i w h hs hi hf
  obtain ⟨f, rfl⟩ : ∃ g, f = g + 1 := ⟨f - 1, by omega⟩
  have hRl := h.lt
  obtain ⟨wa, hwa⟩ : ∃ wa, wa = w.alloc (.cells #[.int .i64 0, .int .i64 0, .string ⟨#[]⟩, .slice none 0 0] 31) := ⟨_, rfl⟩
  have hra : Rds w wa R s i true := by rw [hwa]; exact (Rds.of h).alloc _
  have hb2 : StB wa w.heap.size (.int .i64 0) (.int .i64 0) (.string ⟨#[]⟩) (.slice none 0 0) := by rw [hwa]; exact StB.new w _ _ _ _
  have HA := Lib.hid hra
  have HB2 := Lib.hid hb2
  have hwR : some w.heap.size ≠ some R := fun e => by injection e with e; omega
  clear hra hb2
  have pk0 := fun W hW => peek_c R s i true W hW
  obtain ⟨x, hx⟩ : ∃ x, x = pk s i := ⟨_, rfl⟩
  rw [← hx] at pk0
  have PK := Lib.hid pk0
  clear pk0
  by_cases h35 : pk s i = 35
  · have hi2 : i < s.size := pk_lt (by rw [h35]; decide)
    obtain rfl : x = 35 := hx.trans h35
    have HSP := Lib.hid (show valSp s (f + 1) i = ((numSp s (-2147483648) 2147483647 (i + 1)).1, (numSp s (-2147483648) 2147483647 (i + 1)).2.1, val1 1 (numSp s (-2147483648) 2147483647 (i + 1)).2.2 ByteArray.empty .nil) by rw [valSp, if_pos h35])
    have NC := Lib.hid (fun W hW => number_c R s (i + 1) (-2147483648) 2147483647 W hW hs (by omega) (by omega) (by omega) (by omega))
    have ka := HA.out.at_.c1
    have kf := HA.out.at_.fr 1
    clear hx h35
    go_enter Tryd.func39, Tryd.ntmps39
    go_wp2_with fail
    rw [← hwa]
    clear hwa
    refine (PK.out _ HA.out.at_).mono ?_
    rintro e w1 ⟨rfl, n1, rfl⟩
    go_wp2_with fail
    refine (NC.out _ ((HA.out.drewN n1).set1 (i + 1)).at_).mono ?_
    rintro e w2 ⟨rfl, hr2⟩
    go_wp2_with fail
    refine (valO_c _ _).mono ?_
    rintro e w3 ⟨rfl, rfl⟩
    have HR3 := Lib.hid ((((HA.out.drewN n1).set1 (i + 1)).trans hr2).alloc (.cells #[.int .i64 1, .int .i64 (numSp s (-2147483648) 2147483647 (i + 1)).2.2, .string ⟨#[]⟩, .slice none 0 0] 31))
    have M2 := Lib.hid ((((HB2.out.drewN n1).far (p := ⟨R, 1, none⟩) (by show w.heap.size ≠ R; omega) (.int .i64 (i + 1 : Nat))).only hr2.grown hwR).alloc (.cells #[.int .i64 1, .int .i64 (numSp s (-2147483648) 2147483647 (i + 1)).2.2, .string ⟨#[]⟩, .slice none 0 0] 31))
    clear hr2
    have k20 := M2.out.c0; have k21 := M2.out.c1; have k22 := M2.out.c2; have k23 := M2.out.c3
    have f20 := M2.out.fr 0; have f21 := M2.out.fr 1; have f22 := M2.out.fr 2; have f23 := M2.out.fr 3
    go_wp2_with fail
    refine ret_cell4 Tryd.results39 w.heap.size rfl rfl (M2.out.set4 _ _ _ _) ?_
    rw [HSP.out]
    exact PVal.mk4 HR3.out hRl rfl
  obtain ⟨n35, _⟩ := ne_byte (x := x) 35 35 rfl (by rw [hx]; exact h35)
  have hdg := fun W => digit_any x _ rfl W
  by_cases hnum : pk s i = 45 ∨ digB (pk s i) = true
  · have HSP := Lib.hid (show valSp s (f + 1) i = ((numSp s (-9223372036854775808) 9223372036854775807 i).1, (numSp s (-9223372036854775808) 9223372036854775807 i).2.1, val1 0 (numSp s (-9223372036854775808) 9223372036854775807 i).2.2 ByteArray.empty .nil) by rw [valSp, if_neg h35, if_pos hnum])
    have NC := Lib.hid (fun W hW => number_c R s i (-9223372036854775808) 9223372036854775807 W hW hs (by omega) (by omega) (by omega) (by omega))
    by_cases h45 : pk s i = 45
    · obtain rfl : x = 45 := hx.trans h45
      clear hx h45 hnum h35 hdg
      go_enter Tryd.func39, Tryd.ntmps39
      go_wp2_with fail
      rw [← hwa]
      clear hwa
      refine (PK.out _ HA.out.at_).mono ?_
      rintro e w1 ⟨rfl, n1, rfl⟩
      go_wp2_with fail
      refine (NC.out _ (HA.out.at_.drewN n1)).mono ?_
      rintro e w2 ⟨rfl, hr2⟩
      go_wp2_with fail
      refine (valI_c _ _).mono ?_
      rintro e w3 ⟨rfl, rfl⟩
      have HR3 := Lib.hid (((HA.out.drewN n1).trans hr2).alloc (.cells #[.int .i64 0, .int .i64 (numSp s (-9223372036854775808) 9223372036854775807 i).2.2, .string ⟨#[]⟩, .slice none 0 0] 31))
      have M2 := Lib.hid (((HB2.out.drewN n1).only hr2.grown hwR).alloc (.cells #[.int .i64 0, .int .i64 (numSp s (-9223372036854775808) 9223372036854775807 i).2.2, .string ⟨#[]⟩, .slice none 0 0] 31))
      clear hr2
      have k20 := M2.out.c0; have k21 := M2.out.c1; have k22 := M2.out.c2; have k23 := M2.out.c3
      have f20 := M2.out.fr 0; have f21 := M2.out.fr 1; have f22 := M2.out.fr 2; have f23 := M2.out.fr 3
      go_wp2_with fail
      refine ret_cell4 Tryd.results39 w.heap.size rfl rfl (M2.out.set4 _ _ _ _) ?_
      rw [HSP.out]
      exact PVal.mk4 HR3.out hRl rfl
    · have hd : digB x = true := by rw [hx]; exact hnum.resolve_left h45
      obtain ⟨n45, _⟩ := ne_byte (x := x) 45 45 rfl (by rw [hx]; exact h45)
      rw [hd] at hdg
      have DG := Lib.hid hdg
      clear hx h45 hnum h35 hdg hd
      go_enter Tryd.func39, Tryd.ntmps39
      go_wp2_with fail
      rw [← hwa]
      clear hwa
      refine (PK.out _ HA.out.at_).mono ?_
      rintro e w1 ⟨rfl, n1, rfl⟩
      go_wp2_with fail
      refine (DG.out _).mono ?_
      rintro e w' ⟨rfl, rfl⟩
      go_wp2_with fail
      refine (NC.out _ (HA.out.at_.drewN n1)).mono ?_
      rintro e w2 ⟨rfl, hr2⟩
      go_wp2_with fail
      refine (valI_c _ _).mono ?_
      rintro e w3 ⟨rfl, rfl⟩
      have HR3 := Lib.hid (((HA.out.drewN n1).trans hr2).alloc (.cells #[.int .i64 0, .int .i64 (numSp s (-9223372036854775808) 9223372036854775807 i).2.2, .string ⟨#[]⟩, .slice none 0 0] 31))
      have M2 := Lib.hid (((HB2.out.drewN n1).only hr2.grown hwR).alloc (.cells #[.int .i64 0, .int .i64 (numSp s (-9223372036854775808) 9223372036854775807 i).2.2, .string ⟨#[]⟩, .slice none 0 0] 31))
      clear hr2
      have k20 := M2.out.c0; have k21 := M2.out.c1; have k22 := M2.out.c2; have k23 := M2.out.c3
      have f20 := M2.out.fr 0; have f21 := M2.out.fr 1; have f22 := M2.out.fr 2; have f23 := M2.out.fr 3
      go_wp2_with fail
      refine ret_cell4 Tryd.results39 w.heap.size rfl rfl (M2.out.set4 _ _ _ _) ?_
      rw [HSP.out]
      exact PVal.mk4 HR3.out hRl rfl
  have h45 : pk s i ≠ 45 := fun e => hnum (.inl e)
  have hd : digB x = false := by
    rw [hx]
    cases he : digB (pk s i) with
    | false => rfl
    | true => exact absurd (.inr he) hnum
  obtain ⟨n45, _⟩ := ne_byte (x := x) 45 45 rfl (by rw [hx]; exact h45)
  rw [hd] at hdg
  have DG := Lib.hid hdg
  clear hdg hd
  by_cases h34 : pk s i = 34
  · obtain rfl : x = 34 := hx.trans h34
    have HSP := Lib.hid (show valSp s (f + 1) i = ((strSp s i).1, (strSp s i).2.1, val1 2 0 ⟨(strSp s i).2.2.toArray⟩ .nil) by rw [valSp, if_neg h35, if_neg hnum, if_pos h34])
    have SC := Lib.hid (fun W hW => str_c R s i W hW hs h34)
    clear hx h34 hnum h35 h45
    go_enter Tryd.func39, Tryd.ntmps39
    go_wp2_with fail
    rw [← hwa]
    clear hwa
    refine (PK.out _ HA.out.at_).mono ?_
    rintro e w1 ⟨rfl, n1, rfl⟩
    go_wp2_with fail
    refine (DG.out _).mono ?_
    rintro e w' ⟨rfl, rfl⟩
    go_wp2_with fail
    refine (SC.out _ (HA.out.at_.drewN n1)).mono ?_
    rintro e w2 ⟨rfl, hr2⟩
    go_wp2_with fail
    refine (valS_c _ _).mono ?_
    rintro e w3 ⟨rfl, rfl⟩
    have HR3 := Lib.hid (((HA.out.drewN n1).trans hr2).alloc (.cells #[.int .i64 2, .int .i64 0, .string ⟨(strSp s i).2.2.toArray⟩, .slice none 0 0] 31))
    have M2 := Lib.hid (((HB2.out.drewN n1).only hr2.grown hwR).alloc (.cells #[.int .i64 2, .int .i64 0, .string ⟨(strSp s i).2.2.toArray⟩, .slice none 0 0] 31))
    clear hr2
    have k20 := M2.out.c0; have k21 := M2.out.c1; have k22 := M2.out.c2; have k23 := M2.out.c3
    have f20 := M2.out.fr 0; have f21 := M2.out.fr 1; have f22 := M2.out.fr 2; have f23 := M2.out.fr 3
    go_wp2_with fail
    refine ret_cell4 Tryd.results39 w.heap.size rfl rfl (M2.out.set4 _ _ _ _) ?_
    rw [HSP.out]
    exact PVal.mk4 HR3.out hRl rfl
  obtain ⟨n34, _⟩ := ne_byte (x := x) 34 34 rfl (by rw [hx]; exact h34)
  by_cases h123 : pk s i = 123
  · obtain rfl : x = 123 := hx.trans h123
    have hi2 : i < s.size := pk_lt (by rw [h123]; decide)
    have HSP := Lib.hid (show valSp s (f + 1) i = brSp s f i by rw [valSp, if_neg h35, if_neg hnum, if_neg h34, if_pos h123]; rfl)
    have LC := Lib.hid (fun W hW => list_c f (fun f' hf' => ih f' (by omega)) R s i W hW hs h123 (by omega))
    clear hx h34 hnum h35 h45 h123 ih
    go_enter Tryd.func39, Tryd.ntmps39
    go_wp2_with fail
    rw [← hwa]
    clear hwa
    refine (PK.out _ HA.out.at_).mono ?_
    rintro e w1 ⟨rfl, n1, rfl⟩
    go_wp2_with fail
    refine (DG.out _).mono ?_
    rintro e w' ⟨rfl, rfl⟩
    go_wp2_with fail
    refine (LC.out _ (HA.out.at_.drewN n1)).mono ?_
    rintro e w2 hpv
    obtain ⟨vk, vn, vt, va, vl, vc, rfl, hr2, hval⟩ := hpv
    have HR2 := Lib.hid ((HA.out.drewN n1).trans hr2)
    have hgz : wa.heap.size ≤ w2.heap.size := hr2.grown.size
    have M2 := Lib.hid ((HB2.out.drewN n1).only hr2.grown hwR)
    have hbz := HB2.out.lt
    have HV := Lib.hid hval
    clear hr2 hval
    have k20 := M2.out.c0; have k21 := M2.out.c1; have k22 := M2.out.c2; have k23 := M2.out.c3
    have f20 := M2.out.fr 0; have f21 := M2.out.fr 1; have f22 := M2.out.fr 2; have f23 := M2.out.fr 3
    go_wp2_with fail
    refine ret_cell4 Tryd.results39 w.heap.size rfl rfl (M2.out.set4 _ _ _ _) ?_
    rw [HSP.out]
    refine ⟨vk, vn, vt, va, vl, vc, rfl, HR2.out.far4 (Nat.le_refl _) hRl _ _ _ _, fun hok => ?_⟩
    obtain ⟨sub, h1, h2, h3, h4⟩ := HV.out hok
    refine ⟨sub, h1, h2, h3, h4.keep (fun b hb => heap_set4 _ _ _ _ _ _ _ (by have : wa.heap.size ≤ b := hb.1; omega)) (fun b hb => ⟨by have : wa.heap.size ≤ b := hb.1; omega, by rw [size_set4]; exact hb.2⟩)⟩
  obtain ⟨n123, _⟩ := ne_byte (x := x) 123 123 rfl (by rw [hx]; exact h123)
  have HSP := Lib.hid (show valSp s (f + 1) i = ((codeSp s i).1, (codeSp s i).2.1, val1 3 (codeSp s i).2.2 ByteArray.empty .nil) by rw [valSp, if_neg h35, if_neg hnum, if_neg h34, if_neg h123])
  have CC := Lib.hid (fun W hW => code_c R s i W hW hs hi)
  clear hx h34 hnum h35 h45 h123
  go_enter Tryd.func39, Tryd.ntmps39
  go_wp2_with fail
  rw [← hwa]
  clear hwa
  refine (PK.out _ HA.out.at_).mono ?_
  rintro e w1 ⟨rfl, n1, rfl⟩
  go_wp2_with fail
  refine (DG.out _).mono ?_
  rintro e w' ⟨rfl, rfl⟩
  go_wp2_with fail
  refine (CC.out _ (HA.out.at_.drewN n1)).mono ?_
  rintro e w2 ⟨rfl, hr2⟩
  go_wp2_with fail
  refine (valE_c _ _).mono ?_
  rintro e w3 ⟨rfl, rfl⟩
  have HR3 := Lib.hid (((HA.out.drewN n1).trans hr2).alloc (.cells #[.int .i64 3, .int .i64 (codeSp s i).2.2, .string ⟨#[]⟩, .slice none 0 0] 31))
  have M2 := Lib.hid (((HB2.out.drewN n1).only hr2.grown hwR).alloc (.cells #[.int .i64 3, .int .i64 (codeSp s i).2.2, .string ⟨#[]⟩, .slice none 0 0] 31))
  clear hr2
  have k20 := M2.out.c0; have k21 := M2.out.c1; have k22 := M2.out.c2; have k23 := M2.out.c3
  have f20 := M2.out.fr 0; have f21 := M2.out.fr 1; have f22 := M2.out.fr 2; have f23 := M2.out.fr 3
  go_wp2_with fail
  refine ret_cell4 Tryd.results39 w.heap.size rfl rfl (M2.out.set4 _ _ _ _) ?_
  rw [HSP.out]
  exact PVal.mk4 HR3.out hRl rfl

theorem value_c (f : Nat) : ValC f := by
  induction f using Nat.strongRecOn with
  | _ f ih => exact value_step f ih
end Go.Proofs.YtoemnccklakkeaaDoor
