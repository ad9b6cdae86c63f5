/- Contracts of the functions that the statement reaches, and the plain mathematics beneath: several texts joined. -/
import Derived.Test.YtggngahmafbihaaGreatDoorPbiAL
namespace Go.Proofs.YtggngahmafbihaaGreatDoor
open Go.RowKit Go.Lib
set_option linter.unusedVariables false

set_option maxRecDepth 100000 in
set_option maxHeartbeats 8000000 in
theorem cond_step (X : PCtx) (F : Nat) (hF : F ≤ 1000000000) (ih : EC X F) : NodeC X 56 #[] .cond (F + 1) := by
  intro w p r hst h0 h1 hr
  rw [prsR] at hr
  have hPl := hst.lt
  obtain ⟨i0, hi0, hz0, hz1, hz2⟩ := info_parts pnode_info
  cases hq1 : prsR X.l F (.two 0) p with
  | none => rw [hq1] at hr; cases hr
  | some q1 =>
  obtain ⟨n1, p1⟩ := q1
  rw [hq1] at hr
  replace hr : (if !isS X.l p1 [63] then some (n1, p1) else if (downS (nextS p1)).err.isNone then (prsR X.l F .expr (downS (nextS p1))).bind fun (x, p) => (prsR X.l F .cond (mustS X.l p [124])).bind fun (y, p) => some (ndL 19 n1.line ((n1.app x).app y), upS p) else some (ndL 19 n1.line n1, upS (downS (nextS p1)))) = some r := hr
  have HQ1 := Lib.hid hq1
  have IH := Lib.hid ih
  clear hq1 ih
  cases hb : isS X.l p1 [63] with
  | false =>
    have HRR := Lib.hid (show r = (n1, p1) by rw [hb] at hr; exact (Option.some.inj hr).symm)
    have HB := Lib.hid hb
    clear hr hb
    obtain ⟨wa, hwa⟩ : ∃ wa, wa = (w).alloc (.cells #[.int .i64 0, .int .i64 0, .string ⟨#[]⟩, .int .i64 0, .int .i64 0, .string ⟨#[]⟩, .slice none 0 0, .slice none 0 0] 31) := ⟨_, rfl⟩
    have HMa := Lib.hid (show Mvd w wa X p by rw [hwa]; exact ((Mvd.of hst).alloc _))
    have hsa : wa.heap.size = w.heap.size + 1 := by rw [hwa]; simp
    have HZr := Lib.hid (show zN wa w.heap.size by rw [hwa]; exact (zN.new w))
    have HWA := Lib.hid hwa
    clear hwa
    go_enter Tryz.func56, Tryz.ntmps56
    go_wp2_with fail
    rw [← HWA.out]
    refine (IH.out.two F (Nat.le_refl _) 0 (by omega) wa _ _ HMa.out.st h0 h1 HQ1.out).mono ?_
    rintro e1 w1 ⟨op1, ln1, t1, k1, m1, u1, va1, vc1, V1, sub1, hn1, rfl, hm1, ho1, hk1, hl1, hd1⟩
    obtain ⟨A1, cc1, rfl⟩ := ho1.form
    have hn1 : n1 = nd op1 ln1 t1 k1 m1 u1 sub1 := hn1
    subst hn1
    have hk1 := Lib.hid hk1
    have hd1 : p1.deep = p.deep + 0 := by have h : p1.deep = p.deep := hd1; (try simp at h); omega
    have HM1 := Lib.hid (HMa.out.trans hm1)
    have hs1 := hm1.grown.size
    have HBr1 := Lib.hid (NdB.grown HZr.out hm1.grown (show X.P < w.heap.size by omega))
    have HO1 := Lib.hid (ho1.wide (D' := DG wa.heap.size 0) (fun k hk hk2 => ⟨hk, by omega⟩))
    clear hm1 ho1
    unfold nd8
    obtain ⟨w2, hw2⟩ : ∃ w2, w2 = w1.alloc (.cells #[.int .i64 op1, .int .i64 ln1, .string t1, .int .i64 k1, .int .i64 m1, .string u1, .slice va1 0 vc1, .slice A1 sub1.len cc1] 31) := ⟨_, rfl⟩
    have hb2 : Below w1.heap.size w1 w2 := by rw [hw2]; exact (Below.refl _ _).alloc (Nat.le_refl _) _
    have HBn2 := Lib.hid (show NdB w2 w1.heap.size (.int .i64 op1) (.int .i64 ln1) (.string t1) (.int .i64 k1) (.int .i64 m1) (.string u1) (.slice va1 0 vc1) (.slice A1 sub1.len cc1) by rw [hw2]; exact NdB.new _ _ _ _ _ _ _ _ _)
    have hs2 : w2.heap.size = w1.heap.size + 1 := by rw [hw2]; simp
    have HM2 := Lib.hid (HM1.out.below hb2)
    have HBr2 := Lib.hid (HBr1.out.below' hb2)
    have HOx12 := Lib.hid ((HO1.out.wide (D' := DG wa.heap.size w1.heap.size) (fun k hk hk2 => ⟨hk.1, by omega⟩)).below hb2)
    have HW2 := Lib.hid hw2
    clear hw2 hb2
    go_wp2_with fail
    rw [← HW2.out]
    refine (may_f HM2.out.st (s := ⟨#[63]⟩) (L := [63]) rfl HB.out).mono ?_
    rintro e3 w3 ⟨rfl, hm3⟩
    have HM3 := Lib.hid (HM2.out.trans hm3)
    have hs3 := hm3.grown.size
    have HBr3 := Lib.hid (NdB.grown HBr2.out hm3.grown (show X.P < w.heap.size by omega))
    have HBn3 := Lib.hid (NdB.grown HBn2.out hm3.grown (show X.P < w1.heap.size by omega))
    have HOx13 := Lib.hid (OwnN.grown HOx12.out hm3.grown (DG.not (by omega)))
    clear hm3
    have c1_0 := HBn3.out.c0
    have c1_1 := HBn3.out.c1
    have c1_2 := HBn3.out.c2
    have c1_3 := HBn3.out.c3
    have c1_4 := HBn3.out.c4
    have c1_5 := HBn3.out.c5
    have c1_6 := HBn3.out.c6
    have c1_7 := HBn3.out.c7
    have c2_0 := HBr3.out.c0
    have f2_0 := HBr3.out.fr 0
    have c2_1 := HBr3.out.c1
    have f2_1 := HBr3.out.fr 1
    have c2_2 := HBr3.out.c2
    have f2_2 := HBr3.out.fr 2
    have c2_3 := HBr3.out.c3
    have f2_3 := HBr3.out.fr 3
    have c2_4 := HBr3.out.c4
    have f2_4 := HBr3.out.fr 4
    have c2_5 := HBr3.out.c5
    have f2_5 := HBr3.out.fr 5
    have c2_6 := HBr3.out.c6
    have f2_6 := HBr3.out.fr 6
    have c2_7 := HBr3.out.c7
    have f2_7 := HBr3.out.fr 7
    go_wp2_with fail
    refine ret_cell8 Tryz.results56 w.heap.size rfl rfl (HBr3.out.set8 _ _ _ _ _ _ _ _) ?_
    exact PNd.mk op1 ln1 t1 k1 m1 u1 va1 vc1 _ sub1 _ HRR.out (HM3.out.node HBr3.out (by omega) (by omega) (only_set8 _ _ _ _ _ _ _ _ _ _)) (own_end HOx13.out (by omega) (only_set8 _ _ _ _ _ _ _ _ _ _) (by omega)) hk1.out (by omega) (by first | omega | (simp <;> omega))
  | true =>
    rw [hb] at hr
    have HB := Lib.hid hb
    clear hb
    cases hd : (downS (nextS p1)).err.isNone with
    | false =>
      have HRR := Lib.hid (show r = (ndL 19 n1.line n1, upS (downS (nextS p1))) by rw [if_neg (by decide), if_neg (by rw [hd]; decide)] at hr; exact (Option.some.inj hr).symm)
      have HD := Lib.hid hd
      clear hr hd
      obtain ⟨wa, hwa⟩ : ∃ wa, wa = (w).alloc (.cells #[.int .i64 0, .int .i64 0, .string ⟨#[]⟩, .int .i64 0, .int .i64 0, .string ⟨#[]⟩, .slice none 0 0, .slice none 0 0] 31) := ⟨_, rfl⟩
      have HMa := Lib.hid (show Mvd w wa X p by rw [hwa]; exact ((Mvd.of hst).alloc _))
      have hsa : wa.heap.size = w.heap.size + 1 := by rw [hwa]; simp
      have HZr := Lib.hid (show zN wa w.heap.size by rw [hwa]; exact (zN.new w))
      have HWA := Lib.hid hwa
      clear hwa
      go_enter Tryz.func56, Tryz.ntmps56
      go_wp2_with fail
      rw [← HWA.out]
      refine (IH.out.two F (Nat.le_refl _) 0 (by omega) wa _ _ HMa.out.st h0 h1 HQ1.out).mono ?_
      rintro e1 w1 ⟨op1, ln1, t1, k1, m1, u1, va1, vc1, V1, sub1, hn1, rfl, hm1, ho1, hk1, hl1, hd1⟩
      obtain ⟨A1, cc1, rfl⟩ := ho1.form
      have hn1 : n1 = nd op1 ln1 t1 k1 m1 u1 sub1 := hn1
      subst hn1
      have hk1 := Lib.hid hk1
      have hd1 : p1.deep = p.deep + 0 := by have h : p1.deep = p.deep := hd1; (try simp at h); omega
      have HM1 := Lib.hid (HMa.out.trans hm1)
      have hs1 := hm1.grown.size
      have HBr1 := Lib.hid (NdB.grown HZr.out hm1.grown (show X.P < w.heap.size by omega))
      have HO1 := Lib.hid (ho1.wide (D' := DG wa.heap.size 0) (fun k hk hk2 => ⟨hk, by omega⟩))
      clear hm1 ho1
      unfold nd8
      obtain ⟨w2, hw2⟩ : ∃ w2, w2 = w1.alloc (.cells #[.int .i64 op1, .int .i64 ln1, .string t1, .int .i64 k1, .int .i64 m1, .string u1, .slice va1 0 vc1, .slice A1 sub1.len cc1] 31) := ⟨_, rfl⟩
      have hb2 : Below w1.heap.size w1 w2 := by rw [hw2]; exact (Below.refl _ _).alloc (Nat.le_refl _) _
      have HBn2 := Lib.hid (show NdB w2 w1.heap.size (.int .i64 op1) (.int .i64 ln1) (.string t1) (.int .i64 k1) (.int .i64 m1) (.string u1) (.slice va1 0 vc1) (.slice A1 sub1.len cc1) by rw [hw2]; exact NdB.new _ _ _ _ _ _ _ _ _)
      have hs2 : w2.heap.size = w1.heap.size + 1 := by rw [hw2]; simp
      have HM2 := Lib.hid (HM1.out.below hb2)
      have HBr2 := Lib.hid (HBr1.out.below' hb2)
      have HOx12 := Lib.hid ((HO1.out.wide (D' := DG wa.heap.size w1.heap.size) (fun k hk hk2 => ⟨hk.1, by omega⟩)).below hb2)
      have HW2 := Lib.hid hw2
      clear hw2 hb2
      go_wp2_with fail
      rw [← HW2.out]
      refine (may_t HM2.out.st (s := ⟨#[63]⟩) (L := [63]) rfl HB.out).mono ?_
      rintro e3 w3 ⟨rfl, hm3⟩
      have HM3 := Lib.hid (HM2.out.trans hm3)
      have hs3 := hm3.grown.size
      have HBr3 := Lib.hid (NdB.grown HBr2.out hm3.grown (show X.P < w.heap.size by omega))
      have HBn3 := Lib.hid (NdB.grown HBn2.out hm3.grown (show X.P < w1.heap.size by omega))
      have HOx13 := Lib.hid (OwnN.grown HOx12.out hm3.grown (DG.not (by omega)))
      clear hm3
      have c1_0 := HBn3.out.c0
      have c1_1 := HBn3.out.c1
      have c1_2 := HBn3.out.c2
      have c1_3 := HBn3.out.c3
      have c1_4 := HBn3.out.c4
      have c1_5 := HBn3.out.c5
      have c1_6 := HBn3.out.c6
      have c1_7 := HBn3.out.c7
      obtain ⟨w4, hw4⟩ : ∃ W, W = (w3.alloc (.cells #[.int .i64 op1, .int .i64 ln1, .string t1, .int .i64 k1, .int .i64 m1, .string u1, .slice va1 0 vc1, .slice A1 sub1.len cc1] 31)).alloc (.cells #[.int .i64 19, .int .i64 ln1, .string ⟨#[]⟩, .int .i64 0, .int .i64 0, .string ⟨#[]⟩, .slice none 0 0, .slice (some ⟨w3.heap.size, 0, none⟩) 1 1] 31) := ⟨_, rfl⟩
      have LA4 := lay_one HM3.out ((HOx13.out.wide (D' := DG wa.heap.size (w3.heap.size + 1)) (fun k hk hk2 => ⟨by have := hk.1; omega, by omega⟩))) op1 ln1 t1 k1 m1 u1 va1 vc1 19 ln1 (by exact ⟨by omega, by omega⟩) hw4
      have HM4 := Lib.hid LA4.1
      have HBo4 := Lib.hid LA4.2.1
      have HOo4 := Lib.hid LA4.2.2.1
      have hs4 := LA4.2.2.2.1
      have HBr4 := Lib.hid (HBr3.out.below' LA4.2.2.2.2)
      have HW4 := Lib.hid hw4
      clear hw4 LA4
      go_wp2_with fail
      rw [← HW4.out]
      refine (down_f HM4.out.st (by first | omega | (simp <;> omega)) (by first | omega | (simp <;> omega)) HD.out).mono ?_
      rintro e5 w5 ⟨rfl, hm5⟩
      have HM5 := Lib.hid (HM4.out.trans hm5)
      have hs5 := hm5.grown.size
      have HBr5 := Lib.hid (NdB.grown HBr4.out hm5.grown (show X.P < w.heap.size by omega))
      have HBo5 := Lib.hid (NdB.grown HBo4.out hm5.grown (show X.P < (w3.heap.size + 1) by omega))
      have HOo5 := Lib.hid (OwnN.grown HOo4.out hm5.grown (DG.not (by omega)))
      clear hm5
      go_wp2_with fail
      refine (up_c X _ _ HM5.out.st (by first | omega | (simp <;> omega)) (by first | omega | (simp <;> omega))).mono ?_
      rintro e6 w6 ⟨rfl, hm6⟩
      have HM6 := Lib.hid (HM5.out.trans hm6)
      have hs6 := hm6.grown.size
      have HBr6 := Lib.hid (NdB.grown HBr5.out hm6.grown (show X.P < w.heap.size by omega))
      have HBo6 := Lib.hid (NdB.grown HBo5.out hm6.grown (show X.P < (w3.heap.size + 1) by omega))
      have HOo6 := Lib.hid (OwnN.grown HOo5.out hm6.grown (DG.not (by omega)))
      clear hm6
      have c2_0 := HBo6.out.c0
      have c2_1 := HBo6.out.c1
      have c2_2 := HBo6.out.c2
      have c2_3 := HBo6.out.c3
      have c2_4 := HBo6.out.c4
      have c2_5 := HBo6.out.c5
      have c2_6 := HBo6.out.c6
      have c2_7 := HBo6.out.c7
      have c3_0 := HBr6.out.c0
      have f3_0 := HBr6.out.fr 0
      have c3_1 := HBr6.out.c1
      have f3_1 := HBr6.out.fr 1
      have c3_2 := HBr6.out.c2
      have f3_2 := HBr6.out.fr 2
      have c3_3 := HBr6.out.c3
      have f3_3 := HBr6.out.fr 3
      have c3_4 := HBr6.out.c4
      have f3_4 := HBr6.out.fr 4
      have c3_5 := HBr6.out.c5
      have f3_5 := HBr6.out.fr 5
      have c3_6 := HBr6.out.c6
      have f3_6 := HBr6.out.fr 6
      have c3_7 := HBr6.out.c7
      have f3_7 := HBr6.out.fr 7
      go_wp2_with fail
      refine ret_cell8 Tryz.results56 w.heap.size rfl rfl (HBr6.out.set8 _ _ _ _ _ _ _ _) ?_
      exact PNd.mk 19 ln1 ⟨#[]⟩ 0 0 ⟨#[]⟩ none 0 _ (nd op1 ln1 t1 k1 m1 u1 sub1) _ HRR.out (HM6.out.node HBr6.out (by omega) (by omega) (only_set8 _ _ _ _ _ _ _ _ _ _)) (own_end HOo6.out (by omega) (only_set8 _ _ _ _ _ _ _ _ _ _) (by omega)) (okN_nd hk1.out (fun h => by rcases h with h | h <;> cases h)) (by rw [len_nd]; omega) (by first | omega | (simp <;> omega))
    | true =>
      rw [if_neg (by decide), if_pos hd] at hr
      have hle := downS_le hd
      simp only [nextS_deep] at hle
      have HD := Lib.hid hd
      clear hd
      cases hq2 : prsR X.l F .expr (downS (nextS p1)) with
      | none => rw [hq2] at hr; cases hr
      | some q2 =>
      obtain ⟨n2, p2⟩ := q2
      rw [hq2] at hr
      replace hr : ((prsR X.l F .cond (mustS X.l p2 [124])).bind fun (y, p) => some (ndL 19 n1.line ((n1.app n2).app y), upS p)) = some r := hr
      have HQ2 := Lib.hid hq2
      clear hq2
      cases hq3 : prsR X.l F .cond (mustS X.l p2 [124]) with
      | none => rw [hq3] at hr; cases hr
      | some q3 =>
      obtain ⟨n3, p3⟩ := q3
      rw [hq3] at hr
      have HRR := Lib.hid (show r = (ndL 19 n1.line ((n1.app n2).app n3), upS p3) from (Option.some.inj hr).symm)
      have HQ3 := Lib.hid hq3
      clear hq3 hr
      obtain ⟨wa, hwa⟩ : ∃ wa, wa = (w).alloc (.cells #[.int .i64 0, .int .i64 0, .string ⟨#[]⟩, .int .i64 0, .int .i64 0, .string ⟨#[]⟩, .slice none 0 0, .slice none 0 0] 31) := ⟨_, rfl⟩
      have HMa := Lib.hid (show Mvd w wa X p by rw [hwa]; exact ((Mvd.of hst).alloc _))
      have hsa : wa.heap.size = w.heap.size + 1 := by rw [hwa]; simp
      have HZr := Lib.hid (show zN wa w.heap.size by rw [hwa]; exact (zN.new w))
      have HWA := Lib.hid hwa
      clear hwa
      go_enter Tryz.func56, Tryz.ntmps56
      go_wp2_with fail
      rw [← HWA.out]
      refine (IH.out.two F (Nat.le_refl _) 0 (by omega) wa _ _ HMa.out.st h0 h1 HQ1.out).mono ?_
      rintro e1 w1 ⟨op1, ln1, t1, k1, m1, u1, va1, vc1, V1, sub1, hn1, rfl, hm1, ho1, hk1, hl1, hd1⟩
      obtain ⟨A1, cc1, rfl⟩ := ho1.form
      have hn1 : n1 = nd op1 ln1 t1 k1 m1 u1 sub1 := hn1
      subst hn1
      have hk1 := Lib.hid hk1
      have hd1 : p1.deep = p.deep + 0 := by have h : p1.deep = p.deep := hd1; (try simp at h); omega
      have HM1 := Lib.hid (HMa.out.trans hm1)
      have hs1 := hm1.grown.size
      have HBr1 := Lib.hid (NdB.grown HZr.out hm1.grown (show X.P < w.heap.size by omega))
      have HO1 := Lib.hid (ho1.wide (D' := DG wa.heap.size 0) (fun k hk hk2 => ⟨hk, by omega⟩))
      clear hm1 ho1
      unfold nd8
      obtain ⟨w2, hw2⟩ : ∃ w2, w2 = w1.alloc (.cells #[.int .i64 op1, .int .i64 ln1, .string t1, .int .i64 k1, .int .i64 m1, .string u1, .slice va1 0 vc1, .slice A1 sub1.len cc1] 31) := ⟨_, rfl⟩
      have hb2 : Below w1.heap.size w1 w2 := by rw [hw2]; exact (Below.refl _ _).alloc (Nat.le_refl _) _
      have HBn2 := Lib.hid (show NdB w2 w1.heap.size (.int .i64 op1) (.int .i64 ln1) (.string t1) (.int .i64 k1) (.int .i64 m1) (.string u1) (.slice va1 0 vc1) (.slice A1 sub1.len cc1) by rw [hw2]; exact NdB.new _ _ _ _ _ _ _ _ _)
      have hs2 : w2.heap.size = w1.heap.size + 1 := by rw [hw2]; simp
      have HM2 := Lib.hid (HM1.out.below hb2)
      have HBr2 := Lib.hid (HBr1.out.below' hb2)
      have HOx12 := Lib.hid ((HO1.out.wide (D' := DG wa.heap.size w1.heap.size) (fun k hk hk2 => ⟨hk.1, by omega⟩)).below hb2)
      have HW2 := Lib.hid hw2
      clear hw2 hb2
      go_wp2_with fail
      rw [← HW2.out]
      refine (may_t HM2.out.st (s := ⟨#[63]⟩) (L := [63]) rfl HB.out).mono ?_
      rintro e3 w3 ⟨rfl, hm3⟩
      have HM3 := Lib.hid (HM2.out.trans hm3)
      have hs3 := hm3.grown.size
      have HBr3 := Lib.hid (NdB.grown HBr2.out hm3.grown (show X.P < w.heap.size by omega))
      have HBn3 := Lib.hid (NdB.grown HBn2.out hm3.grown (show X.P < w1.heap.size by omega))
      have HOx13 := Lib.hid (OwnN.grown HOx12.out hm3.grown (DG.not (by omega)))
      clear hm3
      have c1_0 := HBn3.out.c0
      have c1_1 := HBn3.out.c1
      have c1_2 := HBn3.out.c2
      have c1_3 := HBn3.out.c3
      have c1_4 := HBn3.out.c4
      have c1_5 := HBn3.out.c5
      have c1_6 := HBn3.out.c6
      have c1_7 := HBn3.out.c7
      obtain ⟨w4, hw4⟩ : ∃ W, W = (w3.alloc (.cells #[.int .i64 op1, .int .i64 ln1, .string t1, .int .i64 k1, .int .i64 m1, .string u1, .slice va1 0 vc1, .slice A1 sub1.len cc1] 31)).alloc (.cells #[.int .i64 19, .int .i64 ln1, .string ⟨#[]⟩, .int .i64 0, .int .i64 0, .string ⟨#[]⟩, .slice none 0 0, .slice (some ⟨w3.heap.size, 0, none⟩) 1 1] 31) := ⟨_, rfl⟩
      have LA4 := lay_one HM3.out ((HOx13.out.wide (D' := DG wa.heap.size (w3.heap.size + 1)) (fun k hk hk2 => ⟨by have := hk.1; omega, by omega⟩))) op1 ln1 t1 k1 m1 u1 va1 vc1 19 ln1 (by exact ⟨by omega, by omega⟩) hw4
      have HM4 := Lib.hid LA4.1
      have HBo4 := Lib.hid LA4.2.1
      have HOo4 := Lib.hid LA4.2.2.1
      have hs4 := LA4.2.2.2.1
      have HBr4 := Lib.hid (HBr3.out.below' LA4.2.2.2.2)
      have HW4 := Lib.hid hw4
      clear hw4 LA4
      go_wp2_with fail
      rw [← HW4.out]
      refine (down_t HM4.out.st (by first | omega | (simp <;> omega)) (by first | omega | (simp <;> omega)) HD.out).mono ?_
      rintro e5 w5 ⟨rfl, hm5⟩
      have HM5 := Lib.hid (HM4.out.trans hm5)
      have hs5 := hm5.grown.size
      have HBr5 := Lib.hid (NdB.grown HBr4.out hm5.grown (show X.P < w.heap.size by omega))
      have HBo5 := Lib.hid (NdB.grown HBo4.out hm5.grown (show X.P < (w3.heap.size + 1) by omega))
      have HOo5 := Lib.hid (OwnN.grown HOo4.out hm5.grown (DG.not (by omega)))
      clear hm5
      go_upto_region 6 with fail
      go_cut [] (fun wx6 => AppR X w w5 p2 wa.heap.size (w3.heap.size + 1) (.int .i64 19) (.int .i64 ln1) (.string ⟨#[]⟩) (.int .i64 0) (.int .i64 0) (.string ⟨#[]⟩) (.slice none 0 0) (nd op1 ln1 t1 k1 m1 u1 sub1) n2 1 (p.deep + 1) wx6)
      case first =>
        have c7 := HBo5.out.c7
        have vlt := Lib.hid (fun g (hg : (.slice (some ⟨w3.heap.size, 0, none⟩) 1 1 : Value).ownBlock = some g) => (HOo5.out.ge g hg).2)
        have EXC := Lib.hid (fun W (hW : PSt W X (downS (nextS p1))) => IH.out.expr F (Nat.le_refl _) W _ _ hW (by first | omega | (simp <;> omega)) (by first | omega | (simp <;> omega)) HQ2.out)
        have HSD := Lib.hid (show PSt w5.drew X (downS (nextS p1)) from HM5.out.st.below (Below.drew (Below.refl _ _)))
        have HMD := Lib.hid (show Mvd w w5.drew X (downS (nextS p1)) from HM5.out.drew)
        go_region_law
          (first
            | (refine step_app_nodes (by rfl) (.tmp 19) (.tmp 22) 29 (by rfl) Tryz.underlying29 hi0 hz0 hz1 hz2 (by rfl) (by rfl) APP.out.1 (by rfl) (by rfl) APP.out.2 (fun e => by cases e) (by first | (simp only [len_nd]; omega) | (simp only [NL.len_app, len_nd]; omega) | (simp only [len_nd, NL.len]; omega) | (simp only [NL.len_app, len_nd, NL.len]; omega)) (by refine ⟨?_, ?_⟩ <;> (rw [World.size_alloc]; omega)) ?_
               intro A9 c9 w9 hown9 hg9 hob9
               have k7 : w9.cell? ⟨(w3.heap.size + 1), 7, none⟩ = some (.slice (some ⟨w3.heap.size, 0, none⟩) 1 1) := ((HN.out.alloc _).app hg9 (fun e => (HO.out.ge _ e).1.2 rfl)).c7
               have j7 : w9.frozen? ⟨(w3.heap.size + 1), 7, none⟩ = false := ((HN.out.alloc _).app hg9 (fun e => (HO.out.ge _ e).1.2 rfl)).fr 7)
            | (go_simp; go_at_call 26; refine (EXC.out _ HSD.out).mono ?_
               rintro e9 w8 ⟨op, ln, t, k, m, u, va, vc, V, sub, hn, rfl, hm, ho, hk, hl, hd⟩
               obtain ⟨A8, c8, rfl⟩ := ho.form
               have hn' : n2 = nd op ln t k m u sub := hn
               have HK := Lib.hid (show okN n2 ∧ (n2).len ≤ 1 from ⟨hk, by rw [hn', len_nd]; exact Nat.le_refl _⟩)
               have HNN := Lib.hid hn'
               have HDD := Lib.hid (show p2.deep = p.deep + 1 by have h : p2.deep = (downS (nextS p1)).deep := hd; (try simp at h); omega)
               have HG := Lib.hid (show w5.grownBy w8 (some X.P) from ⟨hm.grown.os, hm.grown.tape, hm.grown.output, hm.grown.size, hm.grown.block⟩)
               have HM := Lib.hid (HMD.out.trans hm)
               have hs8 : w5.heap.size ≤ w8.heap.size := hm.grown.size
               have HN := Lib.hid (NdB.grown (w := w5) HBo5.out HG.out (show X.P < (w3.heap.size + 1) by omega))
               have HO := Lib.hid (OwnN.grown (w := w5) HOo5.out HG.out (DG.not (by omega)))
               have APP := Lib.hid (app_at HO.out ho op ln t k m u va vc (by show _ ≤ w5.heap.size; omega) (by show _ < w5.heap.size; omega) (by show w5.heap.size ≤ _; omega) vlt.out)
               have c7_8 := HN.out.c7
               have c7_9 := fun o => cellA c7_8 o
               clear hn hn' hm ho hk hl hd
               unfold nd8))
        all_goals
          go_wp2_with fail
          go_meet
          exact app_rel HG.out HM.out HN.out HO.out (by omega) (by omega) (by omega) (by omega) (by rw [HNN.out]; exact hown9) hg9 HK.out.2 HK.out.1 HDD.out
      case rest =>
        obtain ⟨V6, hm6, hd6, hn6, ho6, hx6, hk6, hs6, hf6⟩ := hcut
        obtain ⟨A6, c6, rfl⟩ := ho6.form
        have HM6 := Lib.hid hm6
        have HBo6 := Lib.hid hn6
        have HOo6 := Lib.hid ho6
        have HX6 := Lib.hid hk6
        have HBr6 := Lib.hid (hf6 _ _ _ _ _ _ _ _ _ (by omega) (by omega) (by omega) HBr5.out)
        clear hm6 hn6 ho6 hk6 hf6
        go_wp2_with fail
        refine (must_t HM6.out.st (s := ⟨#[124]⟩) (L := [124]) rfl).mono ?_
        rintro e7 w7 ⟨rfl, hm7⟩
        have HM7 := Lib.hid (HM6.out.trans hm7)
        have hs7 := hm7.grown.size
        have HBr7 := Lib.hid (NdB.grown HBr6.out hm7.grown (show X.P < w.heap.size by omega))
        have HBo7 := Lib.hid (NdB.grown HBo6.out hm7.grown (show X.P < (w3.heap.size + 1) by omega))
        have HOo7 := Lib.hid (OwnN.grown HOo6.out hm7.grown (DG.not (by omega)))
        clear hm7
        go_upto_region 8 with fail
        go_cut [] (fun wx8 => AppR X w w7 p3 wa.heap.size (w3.heap.size + 1) (.int .i64 19) (.int .i64 ln1) (.string ⟨#[]⟩) (.int .i64 0) (.int .i64 0) (.string ⟨#[]⟩) (.slice none 0 0) ((nd op1 ln1 t1 k1 m1 u1 sub1).app n2) n3 1 (p.deep + 1) wx8)
        case first =>
          have c7 := HBo7.out.c7
          have vlt := Lib.hid (fun g (hg : (.slice A6 ((nd op1 ln1 t1 k1 m1 u1 sub1).app n2).len c6 : Value).ownBlock = some g) => (HOo7.out.ge g hg).2)
          have EXC := Lib.hid (fun W (hW : PSt W X (mustS X.l p2 [124])) => IH.out.cond F (Nat.le_refl _) W _ _ hW (by first | omega | (simp <;> omega)) (by first | omega | (simp <;> omega)) HQ3.out)
          have HSD := Lib.hid (show PSt w7.drew X (mustS X.l p2 [124]) from HM7.out.st.below (Below.drew (Below.refl _ _)))
          have HMD := Lib.hid (show Mvd w w7.drew X (mustS X.l p2 [124]) from HM7.out.drew)
          go_region_law
            (first
              | (refine step_app_nodes (by rfl) (.tmp 28) (.tmp 31) 29 (by rfl) Tryz.underlying29 hi0 hz0 hz1 hz2 (by rfl) (by rfl) APP.out.1 (by rfl) (by rfl) APP.out.2 (fun e => by cases e) (by first | (simp only [len_nd]; omega) | (simp only [NL.len_app, len_nd]; omega) | (simp only [len_nd, NL.len]; omega) | (simp only [NL.len_app, len_nd, NL.len]; omega)) (by refine ⟨?_, ?_⟩ <;> (rw [World.size_alloc]; omega)) ?_
                 intro A9 c9 w9 hown9 hg9 hob9
                 have k7 : w9.cell? ⟨(w3.heap.size + 1), 7, none⟩ = some (.slice A6 ((nd op1 ln1 t1 k1 m1 u1 sub1).app n2).len c6) := ((HN.out.alloc _).app hg9 (fun e => (HO.out.ge _ e).1.2 rfl)).c7
                 have j7 : w9.frozen? ⟨(w3.heap.size + 1), 7, none⟩ = false := ((HN.out.alloc _).app hg9 (fun e => (HO.out.ge _ e).1.2 rfl)).fr 7)
              | (go_simp; go_at_call 56; refine (EXC.out _ HSD.out).mono ?_
                 rintro e9 w8 ⟨op, ln, t, k, m, u, va, vc, V, sub, hn, rfl, hm, ho, hk, hl, hd⟩
                 obtain ⟨A8, c8, rfl⟩ := ho.form
                 have hn' : n3 = nd op ln t k m u sub := hn
                 have HK := Lib.hid (show okN n3 ∧ (n3).len ≤ 1 from ⟨hk, by rw [hn', len_nd]; exact Nat.le_refl _⟩)
                 have HNN := Lib.hid hn'
                 have HDD := Lib.hid (show p3.deep = p.deep + 1 by have h : p3.deep = (mustS X.l p2 [124]).deep := hd; (try simp at h); omega)
                 have HG := Lib.hid (show w7.grownBy w8 (some X.P) from ⟨hm.grown.os, hm.grown.tape, hm.grown.output, hm.grown.size, hm.grown.block⟩)
                 have HM := Lib.hid (HMD.out.trans hm)
                 have hs8 : w7.heap.size ≤ w8.heap.size := hm.grown.size
                 have HN := Lib.hid (NdB.grown (w := w7) HBo7.out HG.out (show X.P < (w3.heap.size + 1) by omega))
                 have HO := Lib.hid (OwnN.grown (w := w7) HOo7.out HG.out (DG.not (by omega)))
                 have APP := Lib.hid (app_at HO.out ho op ln t k m u va vc (by show _ ≤ w7.heap.size; omega) (by show _ < w7.heap.size; omega) (by show w7.heap.size ≤ _; omega) vlt.out)
                 have c7_8 := HN.out.c7
                 have c7_9 := fun o => cellA c7_8 o
                 clear hn hn' hm ho hk hl hd
                 unfold nd8))
          all_goals
            go_wp2_with fail
            go_meet
            exact app_rel HG.out HM.out HN.out HO.out (by omega) (by omega) (by omega) (by omega) (by rw [HNN.out]; exact hown9) hg9 HK.out.2 HK.out.1 HDD.out
        case rest =>
          obtain ⟨V8, hm8, hd8, hn8, ho8, hx8, hk8, hs8, hf8⟩ := hcut
          obtain ⟨A8, c8, rfl⟩ := ho8.form
          have HM8 := Lib.hid hm8
          have HBo8 := Lib.hid hn8
          have HOo8 := Lib.hid ho8
          have HX8 := Lib.hid hk8
          have HBr8 := Lib.hid (hf8 _ _ _ _ _ _ _ _ _ (by omega) (by omega) (by omega) HBr7.out)
          clear hm8 hn8 ho8 hk8 hf8
          go_wp2_with fail
          refine (up_c X _ _ HM8.out.st (by first | omega | (simp <;> omega)) (by first | omega | (simp <;> omega))).mono ?_
          rintro e9 w9 ⟨rfl, hm9⟩
          have HM9 := Lib.hid (HM8.out.trans hm9)
          have hs9 := hm9.grown.size
          have HBr9 := Lib.hid (NdB.grown HBr8.out hm9.grown (show X.P < w.heap.size by omega))
          have HBo9 := Lib.hid (NdB.grown HBo8.out hm9.grown (show X.P < (w3.heap.size + 1) by omega))
          have HOo9 := Lib.hid (OwnN.grown HOo8.out hm9.grown (DG.not (by omega)))
          clear hm9
          have c2_0 := HBo9.out.c0
          have c2_1 := HBo9.out.c1
          have c2_2 := HBo9.out.c2
          have c2_3 := HBo9.out.c3
          have c2_4 := HBo9.out.c4
          have c2_5 := HBo9.out.c5
          have c2_6 := HBo9.out.c6
          have c2_7 := HBo9.out.c7
          have c3_0 := HBr9.out.c0
          have f3_0 := HBr9.out.fr 0
          have c3_1 := HBr9.out.c1
          have f3_1 := HBr9.out.fr 1
          have c3_2 := HBr9.out.c2
          have f3_2 := HBr9.out.fr 2
          have c3_3 := HBr9.out.c3
          have f3_3 := HBr9.out.fr 3
          have c3_4 := HBr9.out.c4
          have f3_4 := HBr9.out.fr 4
          have c3_5 := HBr9.out.c5
          have f3_5 := HBr9.out.fr 5
          have c3_6 := HBr9.out.c6
          have f3_6 := HBr9.out.fr 6
          have c3_7 := HBr9.out.c7
          have f3_7 := HBr9.out.fr 7
          go_wp2_with fail
          refine ret_cell8 Tryz.results56 w.heap.size rfl rfl (HBr9.out.set8 _ _ _ _ _ _ _ _) ?_
          exact PNd.mk 19 ln1 ⟨#[]⟩ 0 0 ⟨#[]⟩ none 0 _ _ _ HRR.out (HM9.out.node HBr9.out (by omega) (by omega) (only_set8 _ _ _ _ _ _ _ _ _ _)) (own_end HOo9.out (by omega) (only_set8 _ _ _ _ _ _ _ _ _ _) (by omega)) (okN_nd (okN_app _ _ (okN_app _ _ hk1.out HX6.out) HX8.out) (fun h => by rcases h with h | h <;> cases h)) (by rw [NL.len_app, NL.len_app, len_nd]; omega) (by first | omega | (simp <;> omega))
end Go.Proofs.YtggngahmafbihaaGreatDoor
