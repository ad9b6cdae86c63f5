/- Contracts of the functions that the statement reaches, and the plain mathematics beneath: several texts joined. -/
import Derived.Test.YtbalpfpcbckghaaGreatDoorFlsAS
import Derived.Test.YtbalpfpcbckghaaGreatDoorFlsAQ
import Derived.Test.YtbalpfpcbckghaaGreatDoorFlsAR
namespace Go.Proofs.YtbalpfpcbckghaaGreatDoor
open Go.RowKit Go.Lib
set_option linter.unusedVariables false
set_option linter.unusedSimpArgs false

set_option maxRecDepth 100000 in
set_option maxHeartbeats 8000000 in
theorem funLists_c (l : VL) (sa : Option Addr) (sc : Nat) (k' n' : Int) (s' : ByteArray) (sub' : VL) (va : Option Addr) (vc : Nat) (n0 : Int) (ea : Nat → Addr) (w : World) (hfit : l.fit) (hln : l.len ≤ 140737488351232) (hsc : l.len ≤ sc) (hrep : RpL w (fun b => b < w.heap.size) l sa)
    (hfv : (val1 k' n' s' sub').fit) (hvc : sub'.len ≤ vc) (hrv : RpL w (fun b => b < w.heap.size) sub' va) (hn0 : -9223372036854775808 ≤ n0) (hn1 : n0 ≤ 9223372036854775807) (he : FnEnv w) (hea : ErrsAt w ea) :
    Calls Tryz.prog 3 #[.slice sa l.len sc, .agg #[.int .i64 k', .int .i64 n', .string s', .slice va sub'.len vc], .int .i64 n0] w fun e w' => e = .returned (.bool true) ∧ Below w.heap.size w w' := by
  have hroom := he.room
  obtain ⟨i0, hi0, hz0, hz1, hz2⟩ := info_parts val_info
  obtain ⟨wa, hwa⟩ : ∃ wa, wa = w.alloc (.cells #[.int .i64 k', .int .i64 n', .string s', .slice va sub'.len vc] 24) := ⟨_, rfl⟩
  have hba : Below w.heap.size w wa := by rw [hwa]; exact (Below.refl _ _).alloc (Nat.le_refl _) _
  have hwz : wa.heap.size = w.heap.size + 1 := by rw [hwa]; simp
  have hV : StB wa w.heap.size (.int .i64 k') (.int .i64 n') (.string s') (.slice va sub'.len vc) := by rw [hwa]; exact StB.new w _ _ _ _
  have hw : ∀ W, Below wa.heap.size wa W → Below w.heap.size w W := fun W hW => hba.trans (below_le' hW (by omega))
  have HV := Lib.hid (fun (W : World) (hW : Below wa.heap.size wa W) => hV.below' hW)
  have HE := Lib.hid (fun (W : World) (hW : Below wa.heap.size wa W) => hea.below (hw W hW) (Nat.le_of_lt hroom))
  have HN := Lib.hid (fun (W : World) (hW : Below wa.heap.size wa W) => he.below (hw W hW) (Nat.le_of_lt hroom))
  have HR := Lib.hid (fun (W : World) (hW : Below wa.heap.size wa W) => hrep.keep (w' := W) (S' := fun b => b < W.heap.size) (fun b hb => (hw W hW).block b hb) (fun b hb => by have := (hw W hW).size; omega))
  have HRV := Lib.hid (fun (W : World) (hW : Below wa.heap.size wa W) => hrv.keep (w' := W) (S' := fun b => b < wa.heap.size) (fun b hb => (hw W hW).block b hb) (fun b hb => by omega))
  have F := Lib.hid (funfirst_c ea wa (HN.out wa (Below.refl _ _)) (HE.out wa (Below.refl _ _)))
  have WV := Lib.hid (fun (W : World) (hW : Below wa.heap.size wa W) => worldValuesM_c 30 l sa sc W hfit hln hsc (HR.out W hW))
  obtain ⟨q, hq⟩ : ∃ q, q = (decide (l.len ≤ 30) && rightsL l) := ⟨_, rfl⟩
  rw [← hq] at WV
  have HQ := Lib.hid hq
  have HB := Lib.hid hba
  have HW := Lib.hid hw
  have HWA := Lib.hid hwa
  have HFL := Lib.hid (show (val1 4 0 ⟨#[]⟩ l).fit from ⟨by decide, hln, hfit, trivial⟩)
  have HFV := Lib.hid hfv
  clear hq hba hw hwa hV hrep hrv he hea hfit hfv
  go_enter Tryz.func3, Tryz.ntmps3
  go_wp2_with fail
  rw [← HWA.out]
  refine F.out.mono ?_
  rintro e w1 ⟨rfl, hb1⟩
  have HB1 := Lib.hid hb1
  clear hb1 F
  go_wp2_with fail
  refine (WV.out _ HB1.out).mono ?_
  rintro e w2 ⟨rfl, hb2⟩
  have HB2 := Lib.hid (HB1.out.trans (below_le' hb2 HB1.out.size))
  clear hb2 WV
  cases q with
  | false =>
    go_wp2_with fail
    go_ret
    exact ⟨rfl, HW.out _ HB2.out⟩
  | true =>
    have hqq := HQ.out
    rw [eq_comm, Bool.and_eq_true, decide_eq_true_eq] at hqq
    obtain ⟨hl30, hrl⟩ := hqq
    have hcost := rights_cost l hrl
    have HRL := Lib.hid hrl
    clear hrl
    have LC := Lib.hid (refL_cB l sa sc w2 (by omega) hsc (HR.out w2 HB2.out))
    clear hcost HQ
    go_wp2_with fail
    refine LC.out.mono ?_
    rintro e w3 ⟨sb3, cb3, rfl, hcb3, hrb3, hb3⟩
    have HB3 := Lib.hid (HB2.out.trans (below_le' hb3 HB2.out.size))
    have RC := Lib.hid (right_c 4 0 ⟨#[]⟩ l sb3 cb3 w3 HFL.out hcb3 (hrb3.wide (fun b hb => hb.2)))
    obtain ⟨r, hr⟩ : ∃ r, r = rightB 4 0 ⟨#[]⟩ l := ⟨_, rfl⟩
    rw [← hr] at RC
    have HR4 := Lib.hid hr
    clear hb3 hrb3 LC hr
    go_wp2_with fail
    refine RC.out.mono ?_
    rintro e w4 ⟨rfl, hb4⟩
    have HB4 := Lib.hid (HB3.out.trans (below_le' hb4 HB3.out.size))
    clear hb4 RC
    cases r with
    | false =>
      go_wp2_with fail
      go_ret
      exact ⟨rfl, HW.out _ HB4.out⟩
    | true =>
      have hv4 := HV.out _ HB4.out
      have u0 := hv4.c0; have u1 := hv4.c1; have u2 := hv4.c2; have u3 := hv4.c3
      have RV := Lib.hid (right_c k' n' s' sub' va vc w4 HFV.out hvc ((HRV.out w4 HB4.out).wide (fun b hb => Nat.lt_of_lt_of_le hb HB4.out.size)))
      obtain ⟨r2, hr2⟩ : ∃ r2, r2 = rightB k' n' s' sub' := ⟨_, rfl⟩
      rw [← hr2] at RV
      have HRV2 := Lib.hid hr2
      clear hv4 hr2
      go_wp2_with fail
      refine RV.out.mono ?_
      rintro e w5 ⟨rfl, hb5⟩
      have HB5 := Lib.hid (HB4.out.trans (below_le' hb5 HB4.out.size))
      clear hb5 RV u0 u1 u2 u3
      cases r2 with
      | false =>
        go_wp2_with fail
        go_ret
        exact ⟨rfl, HW.out _ HB5.out⟩
      | true =>
        obtain ⟨A, hA⟩ : ∃ A, A = l.app (.cons k' n' s' sub' .nil) := ⟨_, rfl⟩
        have hAl : A.len = l.len + 1 := by rw [hA, VL.len_app]; rfl
        have hRA : rightsL A = true := by rw [hA]; exact rights_snoc l k' n' s' sub' HRL.out HRV2.out.symm
        have hcl : cost l ≤ 4096 := by
          have := walk1_cost 4 0 ⟨#[]⟩ l 1 4096 (by omega) (of_decide_eq_true HR4.out.symm)
          have hm : mOf 4 ⟨#[]⟩ = 0 := rfl
          omega
        have hcA : cost A ≤ 10000 := by
          have := walk1_cost k' n' s' sub' 1 4096 (by omega) (of_decide_eq_true HRV2.out.symm)
          rw [hA, cost_app', cost, cost]
          omega
        have HA := Lib.hid hA
        have HRA := Lib.hid hRA
        have hz5 := HB5.out.size
        have LRF := Lib.hid (fun (g cap : Nat) (W : World) (h1 : A.len ≤ cap) (h2 : RpL W (fun b => b < W.heap.size) A (some ⟨g, 0, none⟩)) => (show Calls Tryz.prog 10 #[.slice (some ⟨g, 0, none⟩) (l.len + 1) cap] W (PCopy W 4 0 ⟨#[]⟩ A) by rw [← hAl]; exact refL_c A (some ⟨g, 0, none⟩) cap W (by omega) h1 h2))
        obtain ⟨fv, hfv⟩ : ∃ fv, fv = fitsV 4 ⟨#[]⟩ A := ⟨_, rfl⟩
        have FTC := Lib.hid (fun (sb : Option Addr) (cb : Nat) (W : World) (h1 : A.len ≤ cb) (h2 : RpL W (fun b => b < W.heap.size) A sb) => (show Calls Tryz.prog 11 #[.agg #[.int .i64 4, .int .i64 0, .string ⟨#[]⟩, .slice sb A.len cb]] W (fun e w' => e = .returned (.int .i64 fv) ∧ Below W.heap.size W w') by rw [hfv]; exact fits_c 4 0 ⟨#[]⟩ A sb cb W (by have hm : mOf 4 ⟨#[]⟩ = 0 := rfl; omega) h1 h2))
        have HFVV := Lib.hid hfv
        clear hA hRA hAl hfv
        go_upto_region 6 with fail
        refine law_r6 (l := l) (A := A) (fv := fv) (HV.out _ HB5.out) HA.out hl30 hvc (fun W hW => (HRV.out W (HB5.out.trans (below_le' hW hz5))).wide (fun b hb => by omega)) (fun W hW => values_o l sa sc W (by omega) hsc (HR.out W (HB5.out.trans (below_le' hW hz5)))) LRF.out FTC.out ?_
        · intro t50 t51 t52 t53 t54 t55 t56 wc hb9
          have HB9 := Lib.hid (HB5.out.trans (below_le' hb9 hz5))
          clear hb9
          by_cases h0 : fv = 0
          case neg =>
            have h1 : (fv != 0) = true := by simp [h0]
            go_wp2_with fail
            go_ret
            exact ⟨rfl, HW.out _ HB9.out⟩
          have h1 : (fv != 0) = false := by simp [h0]
          have HF := Lib.hid (FitL.of HRA.out (by rw [← HFVV.out]; exact h0))
          have hlA : A.len = l.len + 1 := by rw [HA.out, VL.len_app]; rfl
          have HLA := Lib.hid hlA
          have HCS := Lib.hid (show cost sub' ≤ 100000 by
            have h := hcA
            rw [HA.out, cost_app', cost] at h
            have := cost_ge l
            have := mOf_ge k' s'
            have : cost VL.nil = 0 := rfl
            omega)
          clear hlA h0 HRA HFVV LRF FTC
          have CV := Lib.hid (valL_o l sa sc wc (by omega) hsc (HR.out wc HB9.out))
          go_wp2_with fail
          refine CV.out.mono ?_
          rintro e w10 ⟨V, xs, rfl, hC⟩
          have hb10 := hC.below
          obtain ⟨sx, cx, rfl, hcx, hrx, hsx⟩ := cinv_shape hC
          have HSX := Lib.hid hsx
          have HCX := Lib.hid hcx
          have HRX0 := Lib.hid (hrx.wide (S' := fun b => b < w10.heap.size) (fun b hb => hb.2))
          have BV9 := Lib.hid (HV.out wc HB9.out)
          clear hC hrx hsx hcx CV h1
          have hz1 := hb10.size
          have HB_1 := Lib.hid (HB9.out.trans (below_le' hb10 HB9.out.size))
          have Bxv1 := Lib.hid (BV9.out.below' hb10)
          clear hb10
          obtain ⟨BB, hBB⟩ : ∃ BB, BB = VL.cons k' n' s' sub' l := ⟨_, rfl⟩
          have HBB := Lib.hid hBB
          have HFB := Lib.hid (show FitL BB by rw [hBB]; exact FitL.ins (l := l) (by rw [← HA.out]; exact HF.out))
          have HLB := Lib.hid (show BB.len = l.len + 1 by rw [hBB]; rfl)
          clear hBB
          obtain ⟨q1, hq1⟩ : ∃ q1, q1 = w10.alloc (.cells #[.int .i64 4, .int .i64 0, .string ⟨#[]⟩, .slice sx l.len cx] 24) := ⟨_, rfl⟩
          have bq1 : Below w10.heap.size w10 q1 := by rw [hq1]; exact (Below.refl _ _).alloc (Nat.le_refl _) _
          have Bx0 := Lib.hid (show StB q1 w10.heap.size (.int .i64 4) (.int .i64 0) (.string ⟨#[]⟩) (.slice sx l.len cx) by rw [hq1]; exact StB.new _ _ _ _ _)
          have Hq1 := Lib.hid hq1
          have hz2 := bq1.size
          have HB_2 := Lib.hid (HB_1.out.trans (below_le' bq1 HB_1.out.size))
          have Bxv2 := Lib.hid (Bxv1.out.below' bq1)
          have Rpx2 := Lib.hid (HRX0.out.keep (w' := q1) (S' := fun b => b < q1.heap.size) (fun b hb' => bq1.block b hb') (fun b hb' => Nat.lt_of_lt_of_le hb' hz2))
          clear bq1 hq1 
          go_upto_region 9 with fail
          rw [← Hq1.out]
          obtain ⟨p2, hp2⟩ : ∃ p2, p2 = q1.alloc (.cells #[.int .i64 4, .int .i64 0, .string ⟨#[]⟩, .slice sx l.len cx, .int .i64 k', .int .i64 n', .string s', .slice va sub'.len vc] 24) := ⟨_, rfl⟩
          have bp2 : Below q1.heap.size q1 p2 := by rw [hp2]; exact (Below.refl _ _).alloc (Nat.le_refl _) _
          have gp2 : p2.heap[q1.heap.size]? = some (.cells #[.int .i64 4, .int .i64 0, .string ⟨#[]⟩, .slice sx l.len cx, .int .i64 k', .int .i64 n', .string s', .slice va sub'.len vc] 24 (0, 0)) := by rw [hp2]; exact heap_alloc_new q1 _
          have Hp2 := Lib.hid hp2
          have xx0 := Bx0.out.c0
          have xx1 := Bx0.out.c1
          have xx2 := Bx0.out.c2
          have xx3 := Bx0.out.c3
          have xv0 := Bxv2.out.c0
          have xv1 := Bxv2.out.c1
          have xv2 := Bxv2.out.c2
          have xv3 := Bxv2.out.c3
          have hz3 := bp2.size
          have HB_3 := Lib.hid (HB_2.out.trans (below_le' bp2 HB_2.out.size))
          have Bxv3 := Lib.hid (Bxv2.out.below' bp2)
          have Bxx3 := Lib.hid (Bx0.out.below' bp2)
          have Rpx3 := Lib.hid (Rpx2.out.keep (w' := p2) (S' := fun b => b < p2.heap.size) (fun b hb' => bp2.block b hb') (fun b hb' => Nat.lt_of_lt_of_le hb' hz3))
          have CC2 := Lib.hid ((show Calls Tryz.prog 14 #[.string ⟨#[108, 105, 115, 116, 97, 112, 112, 101, 110, 100]⟩, .slice (some ⟨q1.heap.size, 0, none⟩) 2 2] p2 (PValC p2 4 0 ⟨#[]⟩ A 0) by rw [HA.out]; exact callAppend l sx cx k' n' s' sub' va vc q1.heap.size ea p2 (HN.out p2 HB_3.out) (HE.out p2 HB_3.out) (by omega) gp2 (by rw [← HA.out]; exact HF.out) hvc HSX.out ((HRV.out p2 HB_3.out).wide (fun b hb => Nat.lt_of_lt_of_le hb HB_3.out.size)) HCX.out Rpx3.out))
          clear hp2 bp2 gp2
          go_wp2_with fail
          rw [← Hp2.out]
          refine CC2.out.mono ?_
          rintro e y2 ⟨sb2, cb2, rfl, hcb2, hrb2, hb2⟩
          clear xx0 xx1 xx2 xx3 xv0 xv1 xv2 xv3
          have hz4 := hb2.size
          have HB_4 := Lib.hid (HB_3.out.trans (below_le' hb2 HB_3.out.size))
          have Bxv4 := Lib.hid (Bxv3.out.below' hb2)
          have Bxx4 := Lib.hid (Bxx3.out.below' hb2)
          have Rpx4 := Lib.hid (Rpx3.out.keep (w' := y2) (S' := fun b => b < y2.heap.size) (fun b hb' => hb2.block b hb') (fun b hb' => Nat.lt_of_lt_of_le hb' hz4))
          have RR2 := Lib.hid (hrb2.wide (S' := fun b => b < y2.heap.size) (fun b hb' => hb'.2))
          have HC2 := Lib.hid hcb2
          obtain ⟨q3, hq3⟩ : ∃ q3, q3 = y2.alloc (.cells #[.int .i64 4, .int .i64 0, .string ⟨#[]⟩, .slice sb2 (A).len cb2] 24) := ⟨_, rfl⟩
          have bq3 : Below y2.heap.size y2 q3 := by rw [hq3]; exact (Below.refl _ _).alloc (Nat.le_refl _) _
          have Ba0 := Lib.hid (show StB q3 y2.heap.size (.int .i64 4) (.int .i64 0) (.string ⟨#[]⟩) (.slice sb2 (A).len cb2) by rw [hq3]; exact StB.new _ _ _ _ _)
          have Hq3 := Lib.hid hq3
          have hz5 := bq3.size
          have HB_5 := Lib.hid (HB_4.out.trans (below_le' bq3 HB_4.out.size))
          have Bxv5 := Lib.hid (Bxv4.out.below' bq3)
          have Bxx5 := Lib.hid (Bxx4.out.below' bq3)
          have Rpx5 := Lib.hid (Rpx4.out.keep (w' := q3) (S' := fun b => b < q3.heap.size) (fun b hb' => bq3.block b hb') (fun b hb' => Nat.lt_of_lt_of_le hb' hz5))
          have Rpa5 := Lib.hid (RR2.out.keep (w' := q3) (S' := fun b => b < q3.heap.size) (fun b hb' => bq3.block b hb') (fun b hb' => Nat.lt_of_lt_of_le hb' hz5))
          clear bq3 hq3 hb2 hcb2 hrb2 CC2
          go_upto_region 10 with fail
          rw [← Hq3.out]
          obtain ⟨p4, hp4⟩ : ∃ p4, p4 = q3.alloc (.cells #[.int .i64 4, .int .i64 0, .string ⟨#[]⟩, .slice sx l.len cx, .int .i64 k', .int .i64 n', .string s', .slice va sub'.len vc] 24) := ⟨_, rfl⟩
          have bp4 : Below q3.heap.size q3 p4 := by rw [hp4]; exact (Below.refl _ _).alloc (Nat.le_refl _) _
          have gp4 : p4.heap[q3.heap.size]? = some (.cells #[.int .i64 4, .int .i64 0, .string ⟨#[]⟩, .slice sx l.len cx, .int .i64 k', .int .i64 n', .string s', .slice va sub'.len vc] 24 (0, 0)) := by rw [hp4]; exact heap_alloc_new q3 _
          have Hp4 := Lib.hid hp4
          have xx0 := Bxx5.out.c0
          have xx1 := Bxx5.out.c1
          have xx2 := Bxx5.out.c2
          have xx3 := Bxx5.out.c3
          have xv0 := Bxv5.out.c0
          have xv1 := Bxv5.out.c1
          have xv2 := Bxv5.out.c2
          have xv3 := Bxv5.out.c3
          have hz6 := bp4.size
          have HB_6 := Lib.hid (HB_5.out.trans (below_le' bp4 HB_5.out.size))
          have Bxv6 := Lib.hid (Bxv5.out.below' bp4)
          have Bxx6 := Lib.hid (Bxx5.out.below' bp4)
          have Bxa6 := Lib.hid (Ba0.out.below' bp4)
          have Rpx6 := Lib.hid (Rpx5.out.keep (w' := p4) (S' := fun b => b < p4.heap.size) (fun b hb' => bp4.block b hb') (fun b hb' => Nat.lt_of_lt_of_le hb' hz6))
          have Rpa6 := Lib.hid (Rpa5.out.keep (w' := p4) (S' := fun b => b < p4.heap.size) (fun b hb' => bp4.block b hb') (fun b hb' => Nat.lt_of_lt_of_le hb' hz6))
          have CC4 := Lib.hid ((show Calls Tryz.prog 14 #[.string ⟨#[108, 105, 115, 116, 105, 110, 115, 101, 114, 116]⟩, .slice (some ⟨q3.heap.size, 0, none⟩) 2 2] p4 (PValC p4 4 0 ⟨#[]⟩ BB 0) by rw [HBB.out]; exact callInsert l sx cx k' n' s' sub' va vc q3.heap.size ea p4 (HN.out p4 HB_6.out) (HE.out p4 HB_6.out) (by omega) gp4 (by rw [← HA.out]; exact HF.out) hvc HSX.out ((HRV.out p4 HB_6.out).wide (fun b hb => Nat.lt_of_lt_of_le hb HB_6.out.size)) HCX.out Rpx6.out))
          clear hp4 bp4 gp4
          go_wp2_with fail
          rw [← Hp4.out]
          refine CC4.out.mono ?_
          rintro e y4 ⟨sb4, cb4, rfl, hcb4, hrb4, hb4⟩
          clear xx0 xx1 xx2 xx3 xv0 xv1 xv2 xv3
          have hz7 := hb4.size
          have HB_7 := Lib.hid (HB_6.out.trans (below_le' hb4 HB_6.out.size))
          have Bxv7 := Lib.hid (Bxv6.out.below' hb4)
          have Bxx7 := Lib.hid (Bxx6.out.below' hb4)
          have Bxa7 := Lib.hid (Bxa6.out.below' hb4)
          have Rpx7 := Lib.hid (Rpx6.out.keep (w' := y4) (S' := fun b => b < y4.heap.size) (fun b hb' => hb4.block b hb') (fun b hb' => Nat.lt_of_lt_of_le hb' hz7))
          have Rpa7 := Lib.hid (Rpa6.out.keep (w' := y4) (S' := fun b => b < y4.heap.size) (fun b hb' => hb4.block b hb') (fun b hb' => Nat.lt_of_lt_of_le hb' hz7))
          have RR4 := Lib.hid (hrb4.wide (S' := fun b => b < y4.heap.size) (fun b hb' => hb'.2))
          have HC4 := Lib.hid hcb4
          obtain ⟨q5, hq5⟩ : ∃ q5, q5 = y4.alloc (.cells #[.int .i64 4, .int .i64 0, .string ⟨#[]⟩, .slice sb4 (BB).len cb4] 24) := ⟨_, rfl⟩
          have bq5 : Below y4.heap.size y4 q5 := by rw [hq5]; exact (Below.refl _ _).alloc (Nat.le_refl _) _
          have Bb0 := Lib.hid (show StB q5 y4.heap.size (.int .i64 4) (.int .i64 0) (.string ⟨#[]⟩) (.slice sb4 (BB).len cb4) by rw [hq5]; exact StB.new _ _ _ _ _)
          have Hq5 := Lib.hid hq5
          have hz8 := bq5.size
          have HB_8 := Lib.hid (HB_7.out.trans (below_le' bq5 HB_7.out.size))
          have Bxv8 := Lib.hid (Bxv7.out.below' bq5)
          have Bxx8 := Lib.hid (Bxx7.out.below' bq5)
          have Bxa8 := Lib.hid (Bxa7.out.below' bq5)
          have Rpx8 := Lib.hid (Rpx7.out.keep (w' := q5) (S' := fun b => b < q5.heap.size) (fun b hb' => bq5.block b hb') (fun b hb' => Nat.lt_of_lt_of_le hb' hz8))
          have Rpa8 := Lib.hid (Rpa7.out.keep (w' := q5) (S' := fun b => b < q5.heap.size) (fun b hb' => bq5.block b hb') (fun b hb' => Nat.lt_of_lt_of_le hb' hz8))
          have Rpb8 := Lib.hid (RR4.out.keep (w' := q5) (S' := fun b => b < q5.heap.size) (fun b hb' => bq5.block b hb') (fun b hb' => Nat.lt_of_lt_of_le hb' hz8))
          clear bq5 hq5 hb4 hcb4 hrb4 CC4
          go_upto_region 11 with fail
          rw [← Hq5.out]
          obtain ⟨ga, oa, pa, qa, hsa, hga, a0, a1, a2, a3, hqa, hra⟩ := item_last HA.out Rpa8.out
          obtain ⟨gb, ob, pb, qb, hsb, hgb, b0, b1, b2, b3, hqb, hrb⟩ := item_first HBB.out Rpb8.out
          refine law_r11 Bxv8.out (ra := ga) (oa := oa) (rb := gb) (ob := ob) (by rw [← hsa]; exact Bxa8.out.c3) (by rw [← hsb]; exact Bb0.out.c3) (by omega) HLA.out HLB.out a0 a1 a2 a3 b0 b1 b2 b3 (fun W hW => vsame_c (sub'.size + 1) k' n' s' sub' pa va qa vc W (by omega) HCS.out hqa hvc (hra.keep (w' := W) (S' := fun b => b < W.heap.size) (fun b hb => hW.block b hb) (fun b hb => Nat.lt_of_lt_of_le hb hW.size)) ((HRV.out W (HB_8.out.trans (below_le' hW HB_8.out.size))).wide (fun b hb => Nat.lt_of_lt_of_le hb (HB_8.out.trans (below_le' hW HB_8.out.size)).size))) (fun W hW => vsame_c (sub'.size + 1) k' n' s' sub' pb va qb vc W (by omega) HCS.out hqb hvc (hrb.keep (w' := W) (S' := fun b => b < W.heap.size) (fun b hb => hW.block b hb) (fun b hb => Nat.lt_of_lt_of_le hb hW.size)) ((HRV.out W (HB_8.out.trans (below_le' hW HB_8.out.size))).wide (fun b hb => Nat.lt_of_lt_of_le hb (HB_8.out.trans (below_le' hW HB_8.out.size)).size))) ?_
          intro t74 t75 t76 t77 t78 t79 t80 t81 t82 t83 t84 t85 t86 t87 t88 t89 t90 t91 t92 t93 t94 t95 t96 t97 t98 t99 t100 t101 t102 t103 t104 t105 t106 t107 t108 t109 t110 t111 t112 t113 t114 t115 t116 wzr hbcr
          clear hsa hsb hga hgb a0 a1 a2 a3 b0 b1 b2 b3 hqa hqb hra hrb
          have hz9 := hbcr.size
          have HB_9 := Lib.hid (HB_8.out.trans (below_le' hbcr HB_8.out.size))
          have Bxv9 := Lib.hid (Bxv8.out.below' hbcr)
          have Bxx9 := Lib.hid (Bxx8.out.below' hbcr)
          have Bxa9 := Lib.hid (Bxa8.out.below' hbcr)
          have Bxb9 := Lib.hid (Bb0.out.below' hbcr)
          have Rpx9 := Lib.hid (Rpx8.out.keep (w' := wzr) (S' := fun b => b < wzr.heap.size) (fun b hb' => hbcr.block b hb') (fun b hb' => Nat.lt_of_lt_of_le hb' hz9))
          have Rpa9 := Lib.hid (Rpa8.out.keep (w' := wzr) (S' := fun b => b < wzr.heap.size) (fun b hb' => hbcr.block b hb') (fun b hb' => Nat.lt_of_lt_of_le hb' hz9))
          have Rpb9 := Lib.hid (Rpb8.out.keep (w' := wzr) (S' := fun b => b < wzr.heap.size) (fun b hb' => hbcr.block b hb') (fun b hb' => Nat.lt_of_lt_of_le hb' hz9))
          clear hbcr
          obtain ⟨SV, hSV⟩ : ∃ SV, SV = sortV A := ⟨_, rfl⟩
          have HSV := Lib.hid hSV
          have HSB := Lib.hid (show SV = sortV BB by rw [hSV]; refine sort_eq ?_; rw [HA.out, HBB.out]; exact (perm_ins l k' n' s' sub').symm)
          have HFS := Lib.hid (show FitL SV by rw [hSV]; exact HF.out.sort)
          have HLS := Lib.hid (show SV.len = A.len by rw [hSV]; exact len_perm (sortV_perm A))
          obtain ⟨TV, hTV⟩ : ∃ TV, TV = turnV A := ⟨_, rfl⟩
          have HTV := Lib.hid hTV
          have HTT := Lib.hid (show A = turnV TV by rw [hTV, turn_turn])
          have HFT := Lib.hid (show FitL TV by rw [hTV]; exact HF.out.turn)
          have HLT := Lib.hid (show TV.len = A.len by rw [hTV]; exact len_perm (by rw [itms_turn]; exact List.reverse_perm _))
          clear hSV hTV
          go_upto_region 13 with fail
          obtain ⟨p6, hp6⟩ : ∃ p6, p6 = wzr.alloc (.cells #[.int .i64 4, .int .i64 0, .string ⟨#[]⟩, .slice sb2 (A).len cb2] 24) := ⟨_, rfl⟩
          have bp6 : Below wzr.heap.size wzr p6 := by rw [hp6]; exact (Below.refl _ _).alloc (Nat.le_refl _) _
          have gp6 : p6.heap[wzr.heap.size]? = some (.cells #[.int .i64 4, .int .i64 0, .string ⟨#[]⟩, .slice sb2 (A).len cb2] 24 (0, 0)) := by rw [hp6]; exact heap_alloc_new wzr _
          have Hp6 := Lib.hid hp6
          have xa0 := Bxa9.out.c0
          have xa1 := Bxa9.out.c1
          have xa2 := Bxa9.out.c2
          have xa3 := Bxa9.out.c3
          have hz10 := bp6.size
          have HB_10 := Lib.hid (HB_9.out.trans (below_le' bp6 HB_9.out.size))
          have Bxv10 := Lib.hid (Bxv9.out.below' bp6)
          have Bxx10 := Lib.hid (Bxx9.out.below' bp6)
          have Bxa10 := Lib.hid (Bxa9.out.below' bp6)
          have Bxb10 := Lib.hid (Bxb9.out.below' bp6)
          have Rpx10 := Lib.hid (Rpx9.out.keep (w' := p6) (S' := fun b => b < p6.heap.size) (fun b hb' => bp6.block b hb') (fun b hb' => Nat.lt_of_lt_of_le hb' hz10))
          have Rpa10 := Lib.hid (Rpa9.out.keep (w' := p6) (S' := fun b => b < p6.heap.size) (fun b hb' => bp6.block b hb') (fun b hb' => Nat.lt_of_lt_of_le hb' hz10))
          have Rpb10 := Lib.hid (Rpb9.out.keep (w' := p6) (S' := fun b => b < p6.heap.size) (fun b hb' => bp6.block b hb') (fun b hb' => Nat.lt_of_lt_of_le hb' hz10))
          have CC6 := Lib.hid ((show Calls Tryz.prog 14 #[.string ⟨#[108, 101, 110, 103, 116, 104]⟩, .slice (some ⟨wzr.heap.size, 0, none⟩) 1 1] p6 (PValC p6 0 (A.len : Int) ⟨#[]⟩ .nil 0) by exact callLength A sb2 cb2 wzr.heap.size ea p6 (HN.out p6 HB_10.out) (HE.out p6 HB_10.out) (by have h1 := HLA.out; have h2 := HLA.out; omega) gp6 HC2.out Rpa10.out))
          clear hp6 bp6 gp6
          go_wp2_with fail
          rw [← Hp6.out]
          refine CC6.out.mono ?_
          rintro e y6 ⟨sb6, cb6, rfl, hcb6, hrb6, hb6⟩
          clear xa0 xa1 xa2 xa3
          have hz11 := hb6.size
          have HB_11 := Lib.hid (HB_10.out.trans (below_le' hb6 HB_10.out.size))
          have Bxv11 := Lib.hid (Bxv10.out.below' hb6)
          have Bxx11 := Lib.hid (Bxx10.out.below' hb6)
          have Bxa11 := Lib.hid (Bxa10.out.below' hb6)
          have Bxb11 := Lib.hid (Bxb10.out.below' hb6)
          have Rpx11 := Lib.hid (Rpx10.out.keep (w' := y6) (S' := fun b => b < y6.heap.size) (fun b hb' => hb6.block b hb') (fun b hb' => Nat.lt_of_lt_of_le hb' hz11))
          have Rpa11 := Lib.hid (Rpa10.out.keep (w' := y6) (S' := fun b => b < y6.heap.size) (fun b hb' => hb6.block b hb') (fun b hb' => Nat.lt_of_lt_of_le hb' hz11))
          have Rpb11 := Lib.hid (Rpb10.out.keep (w' := y6) (S' := fun b => b < y6.heap.size) (fun b hb' => hb6.block b hb') (fun b hb' => Nat.lt_of_lt_of_le hb' hz11))
          have RR6 := Lib.hid (hrb6.wide (S' := fun b => b < y6.heap.size) (fun b hb' => hb'.2))
          have HC6 := Lib.hid hcb6
          obtain ⟨q7, hq7⟩ : ∃ q7, q7 = y6.alloc (.cells #[.int .i64 0, .int .i64 (A.len : Int), .string ⟨#[]⟩, .slice sb6 (VL.nil).len cb6] 24) := ⟨_, rfl⟩
          have bq7 : Below y6.heap.size y6 q7 := by rw [hq7]; exact (Below.refl _ _).alloc (Nat.le_refl _) _
          have Be0 := Lib.hid (show StB q7 y6.heap.size (.int .i64 0) (.int .i64 (A.len : Int)) (.string ⟨#[]⟩) (.slice sb6 (VL.nil).len cb6) by rw [hq7]; exact StB.new _ _ _ _ _)
          have Hq7 := Lib.hid hq7
          have hz12 := bq7.size
          have HB_12 := Lib.hid (HB_11.out.trans (below_le' bq7 HB_11.out.size))
          have Bxv12 := Lib.hid (Bxv11.out.below' bq7)
          have Bxx12 := Lib.hid (Bxx11.out.below' bq7)
          have Bxa12 := Lib.hid (Bxa11.out.below' bq7)
          have Bxb12 := Lib.hid (Bxb11.out.below' bq7)
          have Rpx12 := Lib.hid (Rpx11.out.keep (w' := q7) (S' := fun b => b < q7.heap.size) (fun b hb' => bq7.block b hb') (fun b hb' => Nat.lt_of_lt_of_le hb' hz12))
          have Rpa12 := Lib.hid (Rpa11.out.keep (w' := q7) (S' := fun b => b < q7.heap.size) (fun b hb' => bq7.block b hb') (fun b hb' => Nat.lt_of_lt_of_le hb' hz12))
          have Rpb12 := Lib.hid (Rpb11.out.keep (w' := q7) (S' := fun b => b < q7.heap.size) (fun b hb' => bq7.block b hb') (fun b hb' => Nat.lt_of_lt_of_le hb' hz12))
          have Rpe12 := Lib.hid (RR6.out.keep (w' := q7) (S' := fun b => b < q7.heap.size) (fun b hb' => bq7.block b hb') (fun b hb' => Nat.lt_of_lt_of_le hb' hz12))
          clear bq7 hq7 hb6 hcb6 hrb6 CC6
          go_upto_region 14 with fail
          rw [← Hq7.out]
          obtain ⟨p8, hp8⟩ : ∃ p8, p8 = q7.alloc (.cells #[.int .i64 4, .int .i64 0, .string ⟨#[]⟩, .slice sb2 (A).len cb2] 24) := ⟨_, rfl⟩
          have bp8 : Below q7.heap.size q7 p8 := by rw [hp8]; exact (Below.refl _ _).alloc (Nat.le_refl _) _
          have gp8 : p8.heap[q7.heap.size]? = some (.cells #[.int .i64 4, .int .i64 0, .string ⟨#[]⟩, .slice sb2 (A).len cb2] 24 (0, 0)) := by rw [hp8]; exact heap_alloc_new q7 _
          have Hp8 := Lib.hid hp8
          have xa0 := Bxa12.out.c0
          have xa1 := Bxa12.out.c1
          have xa2 := Bxa12.out.c2
          have xa3 := Bxa12.out.c3
          have hz13 := bp8.size
          have HB_13 := Lib.hid (HB_12.out.trans (below_le' bp8 HB_12.out.size))
          have Bxv13 := Lib.hid (Bxv12.out.below' bp8)
          have Bxx13 := Lib.hid (Bxx12.out.below' bp8)
          have Bxa13 := Lib.hid (Bxa12.out.below' bp8)
          have Bxb13 := Lib.hid (Bxb12.out.below' bp8)
          have Bxe13 := Lib.hid (Be0.out.below' bp8)
          have Rpx13 := Lib.hid (Rpx12.out.keep (w' := p8) (S' := fun b => b < p8.heap.size) (fun b hb' => bp8.block b hb') (fun b hb' => Nat.lt_of_lt_of_le hb' hz13))
          have Rpa13 := Lib.hid (Rpa12.out.keep (w' := p8) (S' := fun b => b < p8.heap.size) (fun b hb' => bp8.block b hb') (fun b hb' => Nat.lt_of_lt_of_le hb' hz13))
          have Rpb13 := Lib.hid (Rpb12.out.keep (w' := p8) (S' := fun b => b < p8.heap.size) (fun b hb' => bp8.block b hb') (fun b hb' => Nat.lt_of_lt_of_le hb' hz13))
          have Rpe13 := Lib.hid (Rpe12.out.keep (w' := p8) (S' := fun b => b < p8.heap.size) (fun b hb' => bp8.block b hb') (fun b hb' => Nat.lt_of_lt_of_le hb' hz13))
          have CC8 := Lib.hid ((show Calls Tryz.prog 14 #[.string ⟨#[115, 111, 114, 116]⟩, .slice (some ⟨q7.heap.size, 0, none⟩) 1 1] p8 (PValC p8 4 0 ⟨#[]⟩ SV 0) by rw [HSV.out]; exact callSort A sb2 cb2 q7.heap.size ea p8 (HN.out p8 HB_13.out) (HE.out p8 HB_13.out) (by have h1 := HLA.out; have h2 := HLA.out; omega) gp8 HF.out (by have h1 := HLA.out; have h2 := HLA.out; omega) (by have h1 := HLA.out; have h2 := HLA.out; omega) HC2.out Rpa13.out))
          clear hp8 bp8 gp8
          go_wp2_with fail
          rw [← Hp8.out]
          refine CC8.out.mono ?_
          rintro e y8 ⟨sb8, cb8, rfl, hcb8, hrb8, hb8⟩
          clear xa0 xa1 xa2 xa3
          have hz14 := hb8.size
          have HB_14 := Lib.hid (HB_13.out.trans (below_le' hb8 HB_13.out.size))
          have Bxv14 := Lib.hid (Bxv13.out.below' hb8)
          have Bxx14 := Lib.hid (Bxx13.out.below' hb8)
          have Bxa14 := Lib.hid (Bxa13.out.below' hb8)
          have Bxb14 := Lib.hid (Bxb13.out.below' hb8)
          have Bxe14 := Lib.hid (Bxe13.out.below' hb8)
          have Rpx14 := Lib.hid (Rpx13.out.keep (w' := y8) (S' := fun b => b < y8.heap.size) (fun b hb' => hb8.block b hb') (fun b hb' => Nat.lt_of_lt_of_le hb' hz14))
          have Rpa14 := Lib.hid (Rpa13.out.keep (w' := y8) (S' := fun b => b < y8.heap.size) (fun b hb' => hb8.block b hb') (fun b hb' => Nat.lt_of_lt_of_le hb' hz14))
          have Rpb14 := Lib.hid (Rpb13.out.keep (w' := y8) (S' := fun b => b < y8.heap.size) (fun b hb' => hb8.block b hb') (fun b hb' => Nat.lt_of_lt_of_le hb' hz14))
          have Rpe14 := Lib.hid (Rpe13.out.keep (w' := y8) (S' := fun b => b < y8.heap.size) (fun b hb' => hb8.block b hb') (fun b hb' => Nat.lt_of_lt_of_le hb' hz14))
          have RR8 := Lib.hid (hrb8.wide (S' := fun b => b < y8.heap.size) (fun b hb' => hb'.2))
          have HC8 := Lib.hid hcb8
          obtain ⟨q9, hq9⟩ : ∃ q9, q9 = y8.alloc (.cells #[.int .i64 4, .int .i64 0, .string ⟨#[]⟩, .slice sb8 (SV).len cb8] 24) := ⟨_, rfl⟩
          have bq9 : Below y8.heap.size y8 q9 := by rw [hq9]; exact (Below.refl _ _).alloc (Nat.le_refl _) _
          have Bs0 := Lib.hid (show StB q9 y8.heap.size (.int .i64 4) (.int .i64 0) (.string ⟨#[]⟩) (.slice sb8 (SV).len cb8) by rw [hq9]; exact StB.new _ _ _ _ _)
          have Hq9 := Lib.hid hq9
          have hz15 := bq9.size
          have HB_15 := Lib.hid (HB_14.out.trans (below_le' bq9 HB_14.out.size))
          have Bxv15 := Lib.hid (Bxv14.out.below' bq9)
          have Bxx15 := Lib.hid (Bxx14.out.below' bq9)
          have Bxa15 := Lib.hid (Bxa14.out.below' bq9)
          have Bxb15 := Lib.hid (Bxb14.out.below' bq9)
          have Bxe15 := Lib.hid (Bxe14.out.below' bq9)
          have Rpx15 := Lib.hid (Rpx14.out.keep (w' := q9) (S' := fun b => b < q9.heap.size) (fun b hb' => bq9.block b hb') (fun b hb' => Nat.lt_of_lt_of_le hb' hz15))
          have Rpa15 := Lib.hid (Rpa14.out.keep (w' := q9) (S' := fun b => b < q9.heap.size) (fun b hb' => bq9.block b hb') (fun b hb' => Nat.lt_of_lt_of_le hb' hz15))
          have Rpb15 := Lib.hid (Rpb14.out.keep (w' := q9) (S' := fun b => b < q9.heap.size) (fun b hb' => bq9.block b hb') (fun b hb' => Nat.lt_of_lt_of_le hb' hz15))
          have Rpe15 := Lib.hid (Rpe14.out.keep (w' := q9) (S' := fun b => b < q9.heap.size) (fun b hb' => bq9.block b hb') (fun b hb' => Nat.lt_of_lt_of_le hb' hz15))
          have Rps15 := Lib.hid (RR8.out.keep (w' := q9) (S' := fun b => b < q9.heap.size) (fun b hb' => bq9.block b hb') (fun b hb' => Nat.lt_of_lt_of_le hb' hz15))
          clear bq9 hq9 hb8 hcb8 hrb8 CC8
          go_upto_region 15 with fail
          rw [← Hq9.out]
          obtain ⟨p10, hp10⟩ : ∃ p10, p10 = q9.alloc (.cells #[.int .i64 4, .int .i64 0, .string ⟨#[]⟩, .slice sb4 (BB).len cb4] 24) := ⟨_, rfl⟩
          have bp10 : Below q9.heap.size q9 p10 := by rw [hp10]; exact (Below.refl _ _).alloc (Nat.le_refl _) _
          have gp10 : p10.heap[q9.heap.size]? = some (.cells #[.int .i64 4, .int .i64 0, .string ⟨#[]⟩, .slice sb4 (BB).len cb4] 24 (0, 0)) := by rw [hp10]; exact heap_alloc_new q9 _
          have Hp10 := Lib.hid hp10
          have xb0 := Bxb15.out.c0
          have xb1 := Bxb15.out.c1
          have xb2 := Bxb15.out.c2
          have xb3 := Bxb15.out.c3
          have hz16 := bp10.size
          have HB_16 := Lib.hid (HB_15.out.trans (below_le' bp10 HB_15.out.size))
          have Bxv16 := Lib.hid (Bxv15.out.below' bp10)
          have Bxx16 := Lib.hid (Bxx15.out.below' bp10)
          have Bxa16 := Lib.hid (Bxa15.out.below' bp10)
          have Bxb16 := Lib.hid (Bxb15.out.below' bp10)
          have Bxe16 := Lib.hid (Bxe15.out.below' bp10)
          have Bxs16 := Lib.hid (Bs0.out.below' bp10)
          have Rpx16 := Lib.hid (Rpx15.out.keep (w' := p10) (S' := fun b => b < p10.heap.size) (fun b hb' => bp10.block b hb') (fun b hb' => Nat.lt_of_lt_of_le hb' hz16))
          have Rpa16 := Lib.hid (Rpa15.out.keep (w' := p10) (S' := fun b => b < p10.heap.size) (fun b hb' => bp10.block b hb') (fun b hb' => Nat.lt_of_lt_of_le hb' hz16))
          have Rpb16 := Lib.hid (Rpb15.out.keep (w' := p10) (S' := fun b => b < p10.heap.size) (fun b hb' => bp10.block b hb') (fun b hb' => Nat.lt_of_lt_of_le hb' hz16))
          have Rpe16 := Lib.hid (Rpe15.out.keep (w' := p10) (S' := fun b => b < p10.heap.size) (fun b hb' => bp10.block b hb') (fun b hb' => Nat.lt_of_lt_of_le hb' hz16))
          have Rps16 := Lib.hid (Rps15.out.keep (w' := p10) (S' := fun b => b < p10.heap.size) (fun b hb' => bp10.block b hb') (fun b hb' => Nat.lt_of_lt_of_le hb' hz16))
          have CC10 := Lib.hid ((show Calls Tryz.prog 14 #[.string ⟨#[115, 111, 114, 116]⟩, .slice (some ⟨q9.heap.size, 0, none⟩) 1 1] p10 (PValC p10 4 0 ⟨#[]⟩ SV 0) by rw [HSB.out]; exact callSort BB sb4 cb4 q9.heap.size ea p10 (HN.out p10 HB_16.out) (HE.out p10 HB_16.out) (by have h1 := HLB.out; have h2 := HLA.out; omega) gp10 HFB.out (by have h1 := HLB.out; have h2 := HLA.out; omega) (by have h1 := HLB.out; have h2 := HLA.out; omega) HC4.out Rpb16.out))
          clear hp10 bp10 gp10
          go_wp2_with fail
          rw [← Hp10.out]
          refine CC10.out.mono ?_
          rintro e y10 ⟨sb10, cb10, rfl, hcb10, hrb10, hb10⟩
          clear xb0 xb1 xb2 xb3
          have hz17 := hb10.size
          have HB_17 := Lib.hid (HB_16.out.trans (below_le' hb10 HB_16.out.size))
          have Bxv17 := Lib.hid (Bxv16.out.below' hb10)
          have Bxx17 := Lib.hid (Bxx16.out.below' hb10)
          have Bxa17 := Lib.hid (Bxa16.out.below' hb10)
          have Bxb17 := Lib.hid (Bxb16.out.below' hb10)
          have Bxe17 := Lib.hid (Bxe16.out.below' hb10)
          have Bxs17 := Lib.hid (Bxs16.out.below' hb10)
          have Rpx17 := Lib.hid (Rpx16.out.keep (w' := y10) (S' := fun b => b < y10.heap.size) (fun b hb' => hb10.block b hb') (fun b hb' => Nat.lt_of_lt_of_le hb' hz17))
          have Rpa17 := Lib.hid (Rpa16.out.keep (w' := y10) (S' := fun b => b < y10.heap.size) (fun b hb' => hb10.block b hb') (fun b hb' => Nat.lt_of_lt_of_le hb' hz17))
          have Rpb17 := Lib.hid (Rpb16.out.keep (w' := y10) (S' := fun b => b < y10.heap.size) (fun b hb' => hb10.block b hb') (fun b hb' => Nat.lt_of_lt_of_le hb' hz17))
          have Rpe17 := Lib.hid (Rpe16.out.keep (w' := y10) (S' := fun b => b < y10.heap.size) (fun b hb' => hb10.block b hb') (fun b hb' => Nat.lt_of_lt_of_le hb' hz17))
          have Rps17 := Lib.hid (Rps16.out.keep (w' := y10) (S' := fun b => b < y10.heap.size) (fun b hb' => hb10.block b hb') (fun b hb' => Nat.lt_of_lt_of_le hb' hz17))
          have RR10 := Lib.hid (hrb10.wide (S' := fun b => b < y10.heap.size) (fun b hb' => hb'.2))
          have HC10 := Lib.hid hcb10
          obtain ⟨q11, hq11⟩ : ∃ q11, q11 = y10.alloc (.cells #[.int .i64 4, .int .i64 0, .string ⟨#[]⟩, .slice sb10 (SV).len cb10] 24) := ⟨_, rfl⟩
          have bq11 : Below y10.heap.size y10 q11 := by rw [hq11]; exact (Below.refl _ _).alloc (Nat.le_refl _) _
          have Bt0 := Lib.hid (show StB q11 y10.heap.size (.int .i64 4) (.int .i64 0) (.string ⟨#[]⟩) (.slice sb10 (SV).len cb10) by rw [hq11]; exact StB.new _ _ _ _ _)
          have Hq11 := Lib.hid hq11
          have hz18 := bq11.size
          have HB_18 := Lib.hid (HB_17.out.trans (below_le' bq11 HB_17.out.size))
          have Bxv18 := Lib.hid (Bxv17.out.below' bq11)
          have Bxx18 := Lib.hid (Bxx17.out.below' bq11)
          have Bxa18 := Lib.hid (Bxa17.out.below' bq11)
          have Bxb18 := Lib.hid (Bxb17.out.below' bq11)
          have Bxe18 := Lib.hid (Bxe17.out.below' bq11)
          have Bxs18 := Lib.hid (Bxs17.out.below' bq11)
          have Rpx18 := Lib.hid (Rpx17.out.keep (w' := q11) (S' := fun b => b < q11.heap.size) (fun b hb' => bq11.block b hb') (fun b hb' => Nat.lt_of_lt_of_le hb' hz18))
          have Rpa18 := Lib.hid (Rpa17.out.keep (w' := q11) (S' := fun b => b < q11.heap.size) (fun b hb' => bq11.block b hb') (fun b hb' => Nat.lt_of_lt_of_le hb' hz18))
          have Rpb18 := Lib.hid (Rpb17.out.keep (w' := q11) (S' := fun b => b < q11.heap.size) (fun b hb' => bq11.block b hb') (fun b hb' => Nat.lt_of_lt_of_le hb' hz18))
          have Rpe18 := Lib.hid (Rpe17.out.keep (w' := q11) (S' := fun b => b < q11.heap.size) (fun b hb' => bq11.block b hb') (fun b hb' => Nat.lt_of_lt_of_le hb' hz18))
          have Rps18 := Lib.hid (Rps17.out.keep (w' := q11) (S' := fun b => b < q11.heap.size) (fun b hb' => bq11.block b hb') (fun b hb' => Nat.lt_of_lt_of_le hb' hz18))
          have Rpt18 := Lib.hid (RR10.out.keep (w' := q11) (S' := fun b => b < q11.heap.size) (fun b hb' => bq11.block b hb') (fun b hb' => Nat.lt_of_lt_of_le hb' hz18))
          clear bq11 hq11 hb10 hcb10 hrb10 CC10
          go_upto_region 16 with fail
          rw [← Hq11.out]
          obtain ⟨p12, hp12⟩ : ∃ p12, p12 = q11.alloc (.cells #[.int .i64 4, .int .i64 0, .string ⟨#[]⟩, .slice sb2 (A).len cb2] 24) := ⟨_, rfl⟩
          have bp12 : Below q11.heap.size q11 p12 := by rw [hp12]; exact (Below.refl _ _).alloc (Nat.le_refl _) _
          have gp12 : p12.heap[q11.heap.size]? = some (.cells #[.int .i64 4, .int .i64 0, .string ⟨#[]⟩, .slice sb2 (A).len cb2] 24 (0, 0)) := by rw [hp12]; exact heap_alloc_new q11 _
          have Hp12 := Lib.hid hp12
          have xa0 := Bxa18.out.c0
          have xa1 := Bxa18.out.c1
          have xa2 := Bxa18.out.c2
          have xa3 := Bxa18.out.c3
          have hz19 := bp12.size
          have HB_19 := Lib.hid (HB_18.out.trans (below_le' bp12 HB_18.out.size))
          have Bxv19 := Lib.hid (Bxv18.out.below' bp12)
          have Bxx19 := Lib.hid (Bxx18.out.below' bp12)
          have Bxa19 := Lib.hid (Bxa18.out.below' bp12)
          have Bxb19 := Lib.hid (Bxb18.out.below' bp12)
          have Bxe19 := Lib.hid (Bxe18.out.below' bp12)
          have Bxs19 := Lib.hid (Bxs18.out.below' bp12)
          have Bxt19 := Lib.hid (Bt0.out.below' bp12)
          have Rpx19 := Lib.hid (Rpx18.out.keep (w' := p12) (S' := fun b => b < p12.heap.size) (fun b hb' => bp12.block b hb') (fun b hb' => Nat.lt_of_lt_of_le hb' hz19))
          have Rpa19 := Lib.hid (Rpa18.out.keep (w' := p12) (S' := fun b => b < p12.heap.size) (fun b hb' => bp12.block b hb') (fun b hb' => Nat.lt_of_lt_of_le hb' hz19))
          have Rpb19 := Lib.hid (Rpb18.out.keep (w' := p12) (S' := fun b => b < p12.heap.size) (fun b hb' => bp12.block b hb') (fun b hb' => Nat.lt_of_lt_of_le hb' hz19))
          have Rpe19 := Lib.hid (Rpe18.out.keep (w' := p12) (S' := fun b => b < p12.heap.size) (fun b hb' => bp12.block b hb') (fun b hb' => Nat.lt_of_lt_of_le hb' hz19))
          have Rps19 := Lib.hid (Rps18.out.keep (w' := p12) (S' := fun b => b < p12.heap.size) (fun b hb' => bp12.block b hb') (fun b hb' => Nat.lt_of_lt_of_le hb' hz19))
          have Rpt19 := Lib.hid (Rpt18.out.keep (w' := p12) (S' := fun b => b < p12.heap.size) (fun b hb' => bp12.block b hb') (fun b hb' => Nat.lt_of_lt_of_le hb' hz19))
          have CC12 := Lib.hid ((show Calls Tryz.prog 14 #[.string ⟨#[114, 101, 118, 101, 114, 115, 101]⟩, .slice (some ⟨q11.heap.size, 0, none⟩) 1 1] p12 (PValC p12 4 0 ⟨#[]⟩ TV 0) by rw [HTV.out]; exact callReverse A sb2 cb2 q11.heap.size ea p12 (HN.out p12 HB_19.out) (HE.out p12 HB_19.out) (by have h1 := HLA.out; have h2 := HLA.out; omega) gp12 HF.out (by have h1 := HLA.out; have h2 := HLA.out; omega) (by have h1 := HLA.out; have h2 := HLA.out; omega) HC2.out Rpa19.out))
          clear hp12 bp12 gp12
          go_wp2_with fail
          rw [← Hp12.out]
          refine CC12.out.mono ?_
          rintro e y12 ⟨sb12, cb12, rfl, hcb12, hrb12, hb12⟩
          clear xa0 xa1 xa2 xa3
          have hz20 := hb12.size
          have HB_20 := Lib.hid (HB_19.out.trans (below_le' hb12 HB_19.out.size))
          have Bxv20 := Lib.hid (Bxv19.out.below' hb12)
          have Bxx20 := Lib.hid (Bxx19.out.below' hb12)
          have Bxa20 := Lib.hid (Bxa19.out.below' hb12)
          have Bxb20 := Lib.hid (Bxb19.out.below' hb12)
          have Bxe20 := Lib.hid (Bxe19.out.below' hb12)
          have Bxs20 := Lib.hid (Bxs19.out.below' hb12)
          have Bxt20 := Lib.hid (Bxt19.out.below' hb12)
          have Rpx20 := Lib.hid (Rpx19.out.keep (w' := y12) (S' := fun b => b < y12.heap.size) (fun b hb' => hb12.block b hb') (fun b hb' => Nat.lt_of_lt_of_le hb' hz20))
          have Rpa20 := Lib.hid (Rpa19.out.keep (w' := y12) (S' := fun b => b < y12.heap.size) (fun b hb' => hb12.block b hb') (fun b hb' => Nat.lt_of_lt_of_le hb' hz20))
          have Rpb20 := Lib.hid (Rpb19.out.keep (w' := y12) (S' := fun b => b < y12.heap.size) (fun b hb' => hb12.block b hb') (fun b hb' => Nat.lt_of_lt_of_le hb' hz20))
          have Rpe20 := Lib.hid (Rpe19.out.keep (w' := y12) (S' := fun b => b < y12.heap.size) (fun b hb' => hb12.block b hb') (fun b hb' => Nat.lt_of_lt_of_le hb' hz20))
          have Rps20 := Lib.hid (Rps19.out.keep (w' := y12) (S' := fun b => b < y12.heap.size) (fun b hb' => hb12.block b hb') (fun b hb' => Nat.lt_of_lt_of_le hb' hz20))
          have Rpt20 := Lib.hid (Rpt19.out.keep (w' := y12) (S' := fun b => b < y12.heap.size) (fun b hb' => hb12.block b hb') (fun b hb' => Nat.lt_of_lt_of_le hb' hz20))
          have RR12 := Lib.hid (hrb12.wide (S' := fun b => b < y12.heap.size) (fun b hb' => hb'.2))
          have HC12 := Lib.hid hcb12
          obtain ⟨q13, hq13⟩ : ∃ q13, q13 = y12.alloc (.cells #[.int .i64 4, .int .i64 0, .string ⟨#[]⟩, .slice sb12 (TV).len cb12] 24) := ⟨_, rfl⟩
          have bq13 : Below y12.heap.size y12 q13 := by rw [hq13]; exact (Below.refl _ _).alloc (Nat.le_refl _) _
          have Br0 := Lib.hid (show StB q13 y12.heap.size (.int .i64 4) (.int .i64 0) (.string ⟨#[]⟩) (.slice sb12 (TV).len cb12) by rw [hq13]; exact StB.new _ _ _ _ _)
          have Hq13 := Lib.hid hq13
          have hz21 := bq13.size
          have HB_21 := Lib.hid (HB_20.out.trans (below_le' bq13 HB_20.out.size))
          have Bxv21 := Lib.hid (Bxv20.out.below' bq13)
          have Bxx21 := Lib.hid (Bxx20.out.below' bq13)
          have Bxa21 := Lib.hid (Bxa20.out.below' bq13)
          have Bxb21 := Lib.hid (Bxb20.out.below' bq13)
          have Bxe21 := Lib.hid (Bxe20.out.below' bq13)
          have Bxs21 := Lib.hid (Bxs20.out.below' bq13)
          have Bxt21 := Lib.hid (Bxt20.out.below' bq13)
          have Rpx21 := Lib.hid (Rpx20.out.keep (w' := q13) (S' := fun b => b < q13.heap.size) (fun b hb' => bq13.block b hb') (fun b hb' => Nat.lt_of_lt_of_le hb' hz21))
          have Rpa21 := Lib.hid (Rpa20.out.keep (w' := q13) (S' := fun b => b < q13.heap.size) (fun b hb' => bq13.block b hb') (fun b hb' => Nat.lt_of_lt_of_le hb' hz21))
          have Rpb21 := Lib.hid (Rpb20.out.keep (w' := q13) (S' := fun b => b < q13.heap.size) (fun b hb' => bq13.block b hb') (fun b hb' => Nat.lt_of_lt_of_le hb' hz21))
          have Rpe21 := Lib.hid (Rpe20.out.keep (w' := q13) (S' := fun b => b < q13.heap.size) (fun b hb' => bq13.block b hb') (fun b hb' => Nat.lt_of_lt_of_le hb' hz21))
          have Rps21 := Lib.hid (Rps20.out.keep (w' := q13) (S' := fun b => b < q13.heap.size) (fun b hb' => bq13.block b hb') (fun b hb' => Nat.lt_of_lt_of_le hb' hz21))
          have Rpt21 := Lib.hid (Rpt20.out.keep (w' := q13) (S' := fun b => b < q13.heap.size) (fun b hb' => bq13.block b hb') (fun b hb' => Nat.lt_of_lt_of_le hb' hz21))
          have Rpr21 := Lib.hid (RR12.out.keep (w' := q13) (S' := fun b => b < q13.heap.size) (fun b hb' => bq13.block b hb') (fun b hb' => Nat.lt_of_lt_of_le hb' hz21))
          clear bq13 hq13 hb12 hcb12 hrb12 CC12
          go_upto_region 17 with fail
          rw [← Hq13.out]
          obtain ⟨p14, hp14⟩ : ∃ p14, p14 = q13.alloc (.cells #[.int .i64 4, .int .i64 0, .string ⟨#[]⟩, .slice sb12 (TV).len cb12] 24) := ⟨_, rfl⟩
          have bp14 : Below q13.heap.size q13 p14 := by rw [hp14]; exact (Below.refl _ _).alloc (Nat.le_refl _) _
          have gp14 : p14.heap[q13.heap.size]? = some (.cells #[.int .i64 4, .int .i64 0, .string ⟨#[]⟩, .slice sb12 (TV).len cb12] 24 (0, 0)) := by rw [hp14]; exact heap_alloc_new q13 _
          have Hp14 := Lib.hid hp14
          have xr0 := Br0.out.c0
          have xr1 := Br0.out.c1
          have xr2 := Br0.out.c2
          have xr3 := Br0.out.c3
          have hz22 := bp14.size
          have HB_22 := Lib.hid (HB_21.out.trans (below_le' bp14 HB_21.out.size))
          have Bxv22 := Lib.hid (Bxv21.out.below' bp14)
          have Bxx22 := Lib.hid (Bxx21.out.below' bp14)
          have Bxa22 := Lib.hid (Bxa21.out.below' bp14)
          have Bxb22 := Lib.hid (Bxb21.out.below' bp14)
          have Bxe22 := Lib.hid (Bxe21.out.below' bp14)
          have Bxs22 := Lib.hid (Bxs21.out.below' bp14)
          have Bxt22 := Lib.hid (Bxt21.out.below' bp14)
          have Bxr22 := Lib.hid (Br0.out.below' bp14)
          have Rpx22 := Lib.hid (Rpx21.out.keep (w' := p14) (S' := fun b => b < p14.heap.size) (fun b hb' => bp14.block b hb') (fun b hb' => Nat.lt_of_lt_of_le hb' hz22))
          have Rpa22 := Lib.hid (Rpa21.out.keep (w' := p14) (S' := fun b => b < p14.heap.size) (fun b hb' => bp14.block b hb') (fun b hb' => Nat.lt_of_lt_of_le hb' hz22))
          have Rpb22 := Lib.hid (Rpb21.out.keep (w' := p14) (S' := fun b => b < p14.heap.size) (fun b hb' => bp14.block b hb') (fun b hb' => Nat.lt_of_lt_of_le hb' hz22))
          have Rpe22 := Lib.hid (Rpe21.out.keep (w' := p14) (S' := fun b => b < p14.heap.size) (fun b hb' => bp14.block b hb') (fun b hb' => Nat.lt_of_lt_of_le hb' hz22))
          have Rps22 := Lib.hid (Rps21.out.keep (w' := p14) (S' := fun b => b < p14.heap.size) (fun b hb' => bp14.block b hb') (fun b hb' => Nat.lt_of_lt_of_le hb' hz22))
          have Rpt22 := Lib.hid (Rpt21.out.keep (w' := p14) (S' := fun b => b < p14.heap.size) (fun b hb' => bp14.block b hb') (fun b hb' => Nat.lt_of_lt_of_le hb' hz22))
          have Rpr22 := Lib.hid (Rpr21.out.keep (w' := p14) (S' := fun b => b < p14.heap.size) (fun b hb' => bp14.block b hb') (fun b hb' => Nat.lt_of_lt_of_le hb' hz22))
          have CC14 := Lib.hid ((show Calls Tryz.prog 14 #[.string ⟨#[114, 101, 118, 101, 114, 115, 101]⟩, .slice (some ⟨q13.heap.size, 0, none⟩) 1 1] p14 (PValC p14 4 0 ⟨#[]⟩ A 0) by have h := callReverse TV sb12 cb12 q13.heap.size ea p14 (HN.out p14 HB_22.out) (HE.out p14 HB_22.out) (by have h1 := HLT.out; have h2 := HLA.out; omega) gp14 HFT.out (by have h1 := HLT.out; have h2 := HLA.out; omega) (by have h1 := HLT.out; have h2 := HLA.out; omega) HC12.out Rpr22.out; rw [← HTT.out] at h; exact h))
          clear hp14 bp14 gp14
          go_wp2_with fail
          rw [← Hp14.out]
          refine CC14.out.mono ?_
          rintro e y14 ⟨sb14, cb14, rfl, hcb14, hrb14, hb14⟩
          clear xr0 xr1 xr2 xr3
          have hz23 := hb14.size
          have HB_23 := Lib.hid (HB_22.out.trans (below_le' hb14 HB_22.out.size))
          have Bxv23 := Lib.hid (Bxv22.out.below' hb14)
          have Bxx23 := Lib.hid (Bxx22.out.below' hb14)
          have Bxa23 := Lib.hid (Bxa22.out.below' hb14)
          have Bxb23 := Lib.hid (Bxb22.out.below' hb14)
          have Bxe23 := Lib.hid (Bxe22.out.below' hb14)
          have Bxs23 := Lib.hid (Bxs22.out.below' hb14)
          have Bxt23 := Lib.hid (Bxt22.out.below' hb14)
          have Bxr23 := Lib.hid (Bxr22.out.below' hb14)
          have Rpx23 := Lib.hid (Rpx22.out.keep (w' := y14) (S' := fun b => b < y14.heap.size) (fun b hb' => hb14.block b hb') (fun b hb' => Nat.lt_of_lt_of_le hb' hz23))
          have Rpa23 := Lib.hid (Rpa22.out.keep (w' := y14) (S' := fun b => b < y14.heap.size) (fun b hb' => hb14.block b hb') (fun b hb' => Nat.lt_of_lt_of_le hb' hz23))
          have Rpb23 := Lib.hid (Rpb22.out.keep (w' := y14) (S' := fun b => b < y14.heap.size) (fun b hb' => hb14.block b hb') (fun b hb' => Nat.lt_of_lt_of_le hb' hz23))
          have Rpe23 := Lib.hid (Rpe22.out.keep (w' := y14) (S' := fun b => b < y14.heap.size) (fun b hb' => hb14.block b hb') (fun b hb' => Nat.lt_of_lt_of_le hb' hz23))
          have Rps23 := Lib.hid (Rps22.out.keep (w' := y14) (S' := fun b => b < y14.heap.size) (fun b hb' => hb14.block b hb') (fun b hb' => Nat.lt_of_lt_of_le hb' hz23))
          have Rpt23 := Lib.hid (Rpt22.out.keep (w' := y14) (S' := fun b => b < y14.heap.size) (fun b hb' => hb14.block b hb') (fun b hb' => Nat.lt_of_lt_of_le hb' hz23))
          have Rpr23 := Lib.hid (Rpr22.out.keep (w' := y14) (S' := fun b => b < y14.heap.size) (fun b hb' => hb14.block b hb') (fun b hb' => Nat.lt_of_lt_of_le hb' hz23))
          have RR14 := Lib.hid (hrb14.wide (S' := fun b => b < y14.heap.size) (fun b hb' => hb'.2))
          have HC14 := Lib.hid hcb14
          obtain ⟨q15, hq15⟩ : ∃ q15, q15 = y14.alloc (.cells #[.int .i64 4, .int .i64 0, .string ⟨#[]⟩, .slice sb14 (A).len cb14] 24) := ⟨_, rfl⟩
          have bq15 : Below y14.heap.size y14 q15 := by rw [hq15]; exact (Below.refl _ _).alloc (Nat.le_refl _) _
          have Brr0 := Lib.hid (show StB q15 y14.heap.size (.int .i64 4) (.int .i64 0) (.string ⟨#[]⟩) (.slice sb14 (A).len cb14) by rw [hq15]; exact StB.new _ _ _ _ _)
          have Hq15 := Lib.hid hq15
          have hz24 := bq15.size
          have HB_24 := Lib.hid (HB_23.out.trans (below_le' bq15 HB_23.out.size))
          have Bxv24 := Lib.hid (Bxv23.out.below' bq15)
          have Bxx24 := Lib.hid (Bxx23.out.below' bq15)
          have Bxa24 := Lib.hid (Bxa23.out.below' bq15)
          have Bxb24 := Lib.hid (Bxb23.out.below' bq15)
          have Bxe24 := Lib.hid (Bxe23.out.below' bq15)
          have Bxs24 := Lib.hid (Bxs23.out.below' bq15)
          have Bxt24 := Lib.hid (Bxt23.out.below' bq15)
          have Bxr24 := Lib.hid (Bxr23.out.below' bq15)
          have Rpx24 := Lib.hid (Rpx23.out.keep (w' := q15) (S' := fun b => b < q15.heap.size) (fun b hb' => bq15.block b hb') (fun b hb' => Nat.lt_of_lt_of_le hb' hz24))
          have Rpa24 := Lib.hid (Rpa23.out.keep (w' := q15) (S' := fun b => b < q15.heap.size) (fun b hb' => bq15.block b hb') (fun b hb' => Nat.lt_of_lt_of_le hb' hz24))
          have Rpb24 := Lib.hid (Rpb23.out.keep (w' := q15) (S' := fun b => b < q15.heap.size) (fun b hb' => bq15.block b hb') (fun b hb' => Nat.lt_of_lt_of_le hb' hz24))
          have Rpe24 := Lib.hid (Rpe23.out.keep (w' := q15) (S' := fun b => b < q15.heap.size) (fun b hb' => bq15.block b hb') (fun b hb' => Nat.lt_of_lt_of_le hb' hz24))
          have Rps24 := Lib.hid (Rps23.out.keep (w' := q15) (S' := fun b => b < q15.heap.size) (fun b hb' => bq15.block b hb') (fun b hb' => Nat.lt_of_lt_of_le hb' hz24))
          have Rpt24 := Lib.hid (Rpt23.out.keep (w' := q15) (S' := fun b => b < q15.heap.size) (fun b hb' => bq15.block b hb') (fun b hb' => Nat.lt_of_lt_of_le hb' hz24))
          have Rpr24 := Lib.hid (Rpr23.out.keep (w' := q15) (S' := fun b => b < q15.heap.size) (fun b hb' => bq15.block b hb') (fun b hb' => Nat.lt_of_lt_of_le hb' hz24))
          have Rprr24 := Lib.hid (RR14.out.keep (w' := q15) (S' := fun b => b < q15.heap.size) (fun b hb' => bq15.block b hb') (fun b hb' => Nat.lt_of_lt_of_le hb' hz24))
          clear bq15 hq15 hb14 hcb14 hrb14 CC14
          go_upto_region 18 with fail
          rw [← Hq15.out]
          have hwr : IntKind.i64.wrap ((l.len : Int) + 1) = (l.len : Int) + 1 := IntWalk.i64_in _ ⟨by omega, by omega⟩
          have hnA : ((A.len : Int) != (l.len : Int) + 1) = false := by have := HLA.out; simp; omega
          have xe := Bxe24.out.c1
          have xs0 := Bxs24.out.c0
          have xs1 := Bxs24.out.c1
          have xs2 := Bxs24.out.c2
          have xs3 := Bxs24.out.c3
          have xt0 := Bxt24.out.c0
          have xt1 := Bxt24.out.c1
          have xt2 := Bxt24.out.c2
          have xt3 := Bxt24.out.c3
          have SC1 := Lib.hid (vsame_c (SV.size + 1) 4 0 ⟨#[]⟩ SV sb8 sb10 cb8 cb10 q15 (by omega) HFS.out.made.1 HC8.out HC10.out Rps24.out Rpt24.out)
          go_wp2_with fail
          refine SC1.out.mono ?_
          rintro e v18 ⟨rfl, hb18⟩
          clear xe SC1 xs0 xs1 xs2 xs3 xt0 xt1 xt2 xt3
          have hz25 := hb18.size
          have HB_25 := Lib.hid (HB_24.out.trans (below_le' hb18 HB_24.out.size))
          have Bxv25 := Lib.hid (Bxv24.out.below' hb18)
          have Bxx25 := Lib.hid (Bxx24.out.below' hb18)
          have Bxa25 := Lib.hid (Bxa24.out.below' hb18)
          have Bxb25 := Lib.hid (Bxb24.out.below' hb18)
          have Bxe25 := Lib.hid (Bxe24.out.below' hb18)
          have Bxs25 := Lib.hid (Bxs24.out.below' hb18)
          have Bxt25 := Lib.hid (Bxt24.out.below' hb18)
          have Bxr25 := Lib.hid (Bxr24.out.below' hb18)
          have Bxrr25 := Lib.hid (Brr0.out.below' hb18)
          have Rpx25 := Lib.hid (Rpx24.out.keep (w' := v18) (S' := fun b => b < v18.heap.size) (fun b hb' => hb18.block b hb') (fun b hb' => Nat.lt_of_lt_of_le hb' hz25))
          have Rpa25 := Lib.hid (Rpa24.out.keep (w' := v18) (S' := fun b => b < v18.heap.size) (fun b hb' => hb18.block b hb') (fun b hb' => Nat.lt_of_lt_of_le hb' hz25))
          have Rpb25 := Lib.hid (Rpb24.out.keep (w' := v18) (S' := fun b => b < v18.heap.size) (fun b hb' => hb18.block b hb') (fun b hb' => Nat.lt_of_lt_of_le hb' hz25))
          have Rpe25 := Lib.hid (Rpe24.out.keep (w' := v18) (S' := fun b => b < v18.heap.size) (fun b hb' => hb18.block b hb') (fun b hb' => Nat.lt_of_lt_of_le hb' hz25))
          have Rps25 := Lib.hid (Rps24.out.keep (w' := v18) (S' := fun b => b < v18.heap.size) (fun b hb' => hb18.block b hb') (fun b hb' => Nat.lt_of_lt_of_le hb' hz25))
          have Rpt25 := Lib.hid (Rpt24.out.keep (w' := v18) (S' := fun b => b < v18.heap.size) (fun b hb' => hb18.block b hb') (fun b hb' => Nat.lt_of_lt_of_le hb' hz25))
          have Rpr25 := Lib.hid (Rpr24.out.keep (w' := v18) (S' := fun b => b < v18.heap.size) (fun b hb' => hb18.block b hb') (fun b hb' => Nat.lt_of_lt_of_le hb' hz25))
          have Rprr25 := Lib.hid (Rprr24.out.keep (w' := v18) (S' := fun b => b < v18.heap.size) (fun b hb' => hb18.block b hb') (fun b hb' => Nat.lt_of_lt_of_le hb' hz25))
          clear hb18
          have xrr0 := Bxrr25.out.c0
          have xrr1 := Bxrr25.out.c1
          have xrr2 := Bxrr25.out.c2
          have xrr3 := Bxrr25.out.c3
          have xa0 := Bxa25.out.c0
          have xa1 := Bxa25.out.c1
          have xa2 := Bxa25.out.c2
          have xa3 := Bxa25.out.c3
          have SC2 := Lib.hid (vsame_c (A.size + 1) 4 0 ⟨#[]⟩ A sb14 sb2 cb14 cb2 v18 (by omega) HF.out.made.1 HC14.out HC2.out Rprr25.out Rpa25.out)
          go_wp2_with fail
          refine SC2.out.mono ?_
          rintro e v19 ⟨rfl, hb19⟩
          clear SC2 xrr0 xrr1 xrr2 xrr3 xa0 xa1 xa2 xa3
          have hz26 := hb19.size
          have HB_26 := Lib.hid (HB_25.out.trans (below_le' hb19 HB_25.out.size))
          have Bxv26 := Lib.hid (Bxv25.out.below' hb19)
          have Bxx26 := Lib.hid (Bxx25.out.below' hb19)
          have Bxa26 := Lib.hid (Bxa25.out.below' hb19)
          have Bxb26 := Lib.hid (Bxb25.out.below' hb19)
          have Bxe26 := Lib.hid (Bxe25.out.below' hb19)
          have Bxs26 := Lib.hid (Bxs25.out.below' hb19)
          have Bxt26 := Lib.hid (Bxt25.out.below' hb19)
          have Bxr26 := Lib.hid (Bxr25.out.below' hb19)
          have Bxrr26 := Lib.hid (Bxrr25.out.below' hb19)
          have Rpx26 := Lib.hid (Rpx25.out.keep (w' := v19) (S' := fun b => b < v19.heap.size) (fun b hb' => hb19.block b hb') (fun b hb' => Nat.lt_of_lt_of_le hb' hz26))
          have Rpa26 := Lib.hid (Rpa25.out.keep (w' := v19) (S' := fun b => b < v19.heap.size) (fun b hb' => hb19.block b hb') (fun b hb' => Nat.lt_of_lt_of_le hb' hz26))
          have Rpb26 := Lib.hid (Rpb25.out.keep (w' := v19) (S' := fun b => b < v19.heap.size) (fun b hb' => hb19.block b hb') (fun b hb' => Nat.lt_of_lt_of_le hb' hz26))
          have Rpe26 := Lib.hid (Rpe25.out.keep (w' := v19) (S' := fun b => b < v19.heap.size) (fun b hb' => hb19.block b hb') (fun b hb' => Nat.lt_of_lt_of_le hb' hz26))
          have Rps26 := Lib.hid (Rps25.out.keep (w' := v19) (S' := fun b => b < v19.heap.size) (fun b hb' => hb19.block b hb') (fun b hb' => Nat.lt_of_lt_of_le hb' hz26))
          have Rpt26 := Lib.hid (Rpt25.out.keep (w' := v19) (S' := fun b => b < v19.heap.size) (fun b hb' => hb19.block b hb') (fun b hb' => Nat.lt_of_lt_of_le hb' hz26))
          have Rpr26 := Lib.hid (Rpr25.out.keep (w' := v19) (S' := fun b => b < v19.heap.size) (fun b hb' => hb19.block b hb') (fun b hb' => Nat.lt_of_lt_of_le hb' hz26))
          have Rprr26 := Lib.hid (Rprr25.out.keep (w' := v19) (S' := fun b => b < v19.heap.size) (fun b hb' => hb19.block b hb') (fun b hb' => Nat.lt_of_lt_of_le hb' hz26))
          clear hb19
          go_upto_region 20 with fail
          by_cases hl0 : l.len = 0
          case pos =>
            have hz0 : ((l.len : Int) == 0) = true := by simp [hl0]
            go_wp2_with fail
            go_ret
            exact ⟨rfl, HW.out _ HB_26.out⟩
          have hz0 : ((l.len : Int) == 0) = false := by simp [hl0]
          have hl1 : 0 < l.len := by omega
          clear hl0
          have NC := Lib.hid (wnumber_c n0 l.len v19 hn0 hn1 hl1 (by omega))
          go_wp2_with fail
          refine NC.out.mono ?_
          rintro e v20 ⟨k, hk, rfl, hv20⟩
          subst hv20
          have hkw : IntKind.i64.wrap ((k : Int) + 1) = (k : Int) + 1 := IntWalk.i64_in _ ⟨by omega, by omega⟩
          clear NC
          go_upto_region 23 with fail
          obtain ⟨PP, hPP⟩ : ∃ PP, PP = (l.take k).app (.cons k' n' s' sub' (l.drop (k + 1))) := ⟨_, rfl⟩
          obtain ⟨QQ, hQQ⟩ : ∃ QQ, QQ = (l.take k).app (l.drop (k + 1)) := ⟨_, rfl⟩
          have hAA := HA.out
          have HFP := Lib.hid (show FitL ((l.take k).app (.cons k' n' s' sub' (l.drop (k + 1)))) from FitL.set (by rw [← hAA]; exact HF.out) k hk)
          have HFQ := Lib.hid (show FitL ((l.take k).app (l.drop (k + 1))) from FitL.del (by rw [← hAA]; exact HF.out) k hk)
          have HPP := Lib.hid hPP
          have HQQ := Lib.hid hQQ
          clear hPP hQQ hAA
          refine law_r23 PP Bxx26.out Bxv26.out (fun P g hB hg => (show Calls Tryz.prog 14 #[.string ⟨#[108, 105, 115, 116, 115, 101, 116]⟩, .slice (some ⟨g, 0, none⟩) 3 3] P (PValC P 4 0 ⟨#[]⟩ PP 0) by rw [HPP.out]; exact callSet l sx cx k' n' s' sub' va vc k g ea P (HN.out P (HB_26.out.trans (below_le' hB HB_26.out.size))) (HE.out P (HB_26.out.trans (below_le' hB HB_26.out.size))) (by omega) hg HFP.out hk hvc ((HRV.out P (HB_26.out.trans (below_le' hB HB_26.out.size))).wide (fun b hb => Nat.lt_of_lt_of_le hb (HB_26.out.trans (below_le' hB HB_26.out.size)).size)) HCX.out (Rpx26.out.keep (w' := P) (S' := fun b => b < P.heap.size) (fun b hb => hB.block b hb) (fun b hb => Nat.lt_of_lt_of_le hb hB.size)))) ?_
          intro t194 t195 t196 t197 t198 t199 t200 t201 t202 gs sbs cbs wzs hSs hcs hrs hbzs
          have HSs := Lib.hid hSs
          have HRs := Lib.hid hrs
          have HCs := Lib.hid hcs
          clear hSs hrs hcs
          have hz27 := hbzs.size
          have HB_27 := Lib.hid (HB_26.out.trans (below_le' hbzs HB_26.out.size))
          have Bxv27 := Lib.hid (Bxv26.out.below' hbzs)
          have Bxx27 := Lib.hid (Bxx26.out.below' hbzs)
          have Bxa27 := Lib.hid (Bxa26.out.below' hbzs)
          have Bxb27 := Lib.hid (Bxb26.out.below' hbzs)
          have Bxe27 := Lib.hid (Bxe26.out.below' hbzs)
          have Bxs27 := Lib.hid (Bxs26.out.below' hbzs)
          have Bxt27 := Lib.hid (Bxt26.out.below' hbzs)
          have Bxr27 := Lib.hid (Bxr26.out.below' hbzs)
          have Bxrr27 := Lib.hid (Bxrr26.out.below' hbzs)
          have Rpx27 := Lib.hid (Rpx26.out.keep (w' := wzs) (S' := fun b => b < wzs.heap.size) (fun b hb' => hbzs.block b hb') (fun b hb' => Nat.lt_of_lt_of_le hb' hz27))
          have Rpa27 := Lib.hid (Rpa26.out.keep (w' := wzs) (S' := fun b => b < wzs.heap.size) (fun b hb' => hbzs.block b hb') (fun b hb' => Nat.lt_of_lt_of_le hb' hz27))
          have Rpb27 := Lib.hid (Rpb26.out.keep (w' := wzs) (S' := fun b => b < wzs.heap.size) (fun b hb' => hbzs.block b hb') (fun b hb' => Nat.lt_of_lt_of_le hb' hz27))
          have Rpe27 := Lib.hid (Rpe26.out.keep (w' := wzs) (S' := fun b => b < wzs.heap.size) (fun b hb' => hbzs.block b hb') (fun b hb' => Nat.lt_of_lt_of_le hb' hz27))
          have Rps27 := Lib.hid (Rps26.out.keep (w' := wzs) (S' := fun b => b < wzs.heap.size) (fun b hb' => hbzs.block b hb') (fun b hb' => Nat.lt_of_lt_of_le hb' hz27))
          have Rpt27 := Lib.hid (Rpt26.out.keep (w' := wzs) (S' := fun b => b < wzs.heap.size) (fun b hb' => hbzs.block b hb') (fun b hb' => Nat.lt_of_lt_of_le hb' hz27))
          have Rpr27 := Lib.hid (Rpr26.out.keep (w' := wzs) (S' := fun b => b < wzs.heap.size) (fun b hb' => hbzs.block b hb') (fun b hb' => Nat.lt_of_lt_of_le hb' hz27))
          have Rprr27 := Lib.hid (Rprr26.out.keep (w' := wzs) (S' := fun b => b < wzs.heap.size) (fun b hb' => hbzs.block b hb') (fun b hb' => Nat.lt_of_lt_of_le hb' hz27))
          clear hbzs
          go_upto_region 24 with fail
          refine law_r24 QQ Bxx27.out (fun P g hB hg => (show Calls Tryz.prog 14 #[.string ⟨#[108, 105, 115, 116, 100, 101, 108, 101, 116, 101]⟩, .slice (some ⟨g, 0, none⟩) 2 2] P (PValC P 4 0 ⟨#[]⟩ QQ 0) by rw [HQQ.out]; exact callDelete l sx cx k g ea P (HN.out P (HB_27.out.trans (below_le' hB HB_27.out.size))) (HE.out P (HB_27.out.trans (below_le' hB HB_27.out.size))) (by omega) hg HFQ.out hk HCX.out (Rpx27.out.keep (w' := P) (S' := fun b => b < P.heap.size) (fun b hb => hB.block b hb) (fun b hb => Nat.lt_of_lt_of_le hb hB.size)))) ?_
          intro t203 t204 t205 t206 t207 t208 t209 t210 gd sbd cbd wzd hSd hcd hrd hbzd
          have HSd := Lib.hid hSd
          have HRd := Lib.hid hrd
          have HCd := Lib.hid hcd
          clear hSd hrd hcd
          have hz28 := hbzd.size
          have HB_28 := Lib.hid (HB_27.out.trans (below_le' hbzd HB_27.out.size))
          have Bxv28 := Lib.hid (Bxv27.out.below' hbzd)
          have Bxx28 := Lib.hid (Bxx27.out.below' hbzd)
          have Bxa28 := Lib.hid (Bxa27.out.below' hbzd)
          have Bxb28 := Lib.hid (Bxb27.out.below' hbzd)
          have Bxe28 := Lib.hid (Bxe27.out.below' hbzd)
          have Bxs28 := Lib.hid (Bxs27.out.below' hbzd)
          have Bxt28 := Lib.hid (Bxt27.out.below' hbzd)
          have Bxr28 := Lib.hid (Bxr27.out.below' hbzd)
          have Bxrr28 := Lib.hid (Bxrr27.out.below' hbzd)
          have Bxp28 := Lib.hid (HSs.out.below' hbzd)
          have Rpx28 := Lib.hid (Rpx27.out.keep (w' := wzd) (S' := fun b => b < wzd.heap.size) (fun b hb' => hbzd.block b hb') (fun b hb' => Nat.lt_of_lt_of_le hb' hz28))
          have Rpa28 := Lib.hid (Rpa27.out.keep (w' := wzd) (S' := fun b => b < wzd.heap.size) (fun b hb' => hbzd.block b hb') (fun b hb' => Nat.lt_of_lt_of_le hb' hz28))
          have Rpb28 := Lib.hid (Rpb27.out.keep (w' := wzd) (S' := fun b => b < wzd.heap.size) (fun b hb' => hbzd.block b hb') (fun b hb' => Nat.lt_of_lt_of_le hb' hz28))
          have Rpe28 := Lib.hid (Rpe27.out.keep (w' := wzd) (S' := fun b => b < wzd.heap.size) (fun b hb' => hbzd.block b hb') (fun b hb' => Nat.lt_of_lt_of_le hb' hz28))
          have Rps28 := Lib.hid (Rps27.out.keep (w' := wzd) (S' := fun b => b < wzd.heap.size) (fun b hb' => hbzd.block b hb') (fun b hb' => Nat.lt_of_lt_of_le hb' hz28))
          have Rpt28 := Lib.hid (Rpt27.out.keep (w' := wzd) (S' := fun b => b < wzd.heap.size) (fun b hb' => hbzd.block b hb') (fun b hb' => Nat.lt_of_lt_of_le hb' hz28))
          have Rpr28 := Lib.hid (Rpr27.out.keep (w' := wzd) (S' := fun b => b < wzd.heap.size) (fun b hb' => hbzd.block b hb') (fun b hb' => Nat.lt_of_lt_of_le hb' hz28))
          have Rprr28 := Lib.hid (Rprr27.out.keep (w' := wzd) (S' := fun b => b < wzd.heap.size) (fun b hb' => hbzd.block b hb') (fun b hb' => Nat.lt_of_lt_of_le hb' hz28))
          have Rpp28 := Lib.hid (HRs.out.keep (w' := wzd) (S' := fun b => b < wzd.heap.size) (fun b hb' => hbzd.block b hb') (fun b hb' => Nat.lt_of_lt_of_le hb' hz28))
          clear hbzd
          go_upto_region 25 with fail
          obtain ⟨gp, op, pp, qp, hsp, hgp, p0, p1, p2, p3, hqp, hrp⟩ := item_mid HPP.out (by omega) Rpp28.out
          have hlP : PP.len = l.len := by rw [HPP.out, VL.len_app, take_vlen k l (by omega)]; show k + ((l.drop (k + 1)).len + 1) = l.len; rw [VL.len_drop]; omega
          have hlQ : QQ.len + 1 = l.len := by rw [HQQ.out, VL.len_app, take_vlen k l (by omega), VL.len_drop]; omega
          refine law_r25 Bxv28.out (rp := gp) (op := op) (by rw [← hsp]; exact Bxp28.out.c3) HSd.out.c3 (by omega) hk hlP hlQ p0 p1 p2 p3 (fun W hW => vsame_c (sub'.size + 1) k' n' s' sub' pp va qp vc W (by omega) HCS.out hqp hvc (hrp.keep (w' := W) (S' := fun b => b < W.heap.size) (fun b hb => hW.block b hb) (fun b hb => Nat.lt_of_lt_of_le hb hW.size)) ((HRV.out W (HB_28.out.trans (below_le' hW HB_28.out.size))).wide (fun b hb => Nat.lt_of_lt_of_le hb (HB_28.out.trans (below_le' hW HB_28.out.size)).size))) ?_
          intro t211 t212 t213 t214 t215 t216 t217 t218 t219 t220 t221 t222 t223 t224 t225 t226 t227 t228 t229 t230 t231 t232 t233 t234 t235 we hbe
          have HBE := Lib.hid (HB_28.out.trans (below_le' hbe HB_28.out.size))
          clear hsp hgp p0 p1 p2 p3 hqp hrp hlP hlQ hbe
          go_wp2_with fail
          go_ret
          exact ⟨rfl, HW.out _ HBE.out⟩
end Go.Proofs.YtbalpfpcbckghaaGreatDoor
