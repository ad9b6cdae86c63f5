/- Contracts of the functions that the statement reaches, and the plain mathematics beneath: several texts joined. -/
import Derived.Test.YtggngahmafbihaaGreatDoorPbiAL
namespace Go.Proofs.YtggngahmafbihaaGreatDoor
open Go.RowKit Go.Lib
set_option linter.unusedVariables false

set_option maxRecDepth 100000 in
set_option maxHeartbeats 8000000 in
theorem within_step (X : PCtx) (F : Nat) (hF : F ≤ 1000000000) (ih : EC X F) (e : ByteArray) : NodeC X 109 #[.string e] (.within e.data.toList) (F + 1) := by
  intro w p r hst h0 h1 hr
  rw [prsR] at hr
  have hPl := hst.lt
  have hlen := hst.len
  obtain ⟨i0, hi0, hz0, hz1, hz2⟩ := info_parts pnode_info
  have IH := Lib.hid ih
  clear ih
  cases hd : (downS p).err.isNone with
  | false =>
    rw [hd] at hr
    replace hr : some (nd0, mustS X.l (upS (downS p)) e.data.toList) = some r := hr
    have HD := Lib.hid hd
    clear hd
    have HRR := Lib.hid (show r = (nd0, mustS X.l (upS (downS p)) e.data.toList) from (Option.some.inj hr).symm)
    clear hr
    obtain ⟨wa, hwa⟩ : ∃ wa, wa = ((w).alloc (.cells #[.int .i64 0, .int .i64 0, .string ⟨#[]⟩, .int .i64 0, .int .i64 0, .string ⟨#[]⟩, .slice none 0 0, .slice none 0 0] 31)).alloc (.cells #[.int .i64 0, .int .i64 0, .string ⟨#[]⟩, .int .i64 0, .int .i64 0, .string ⟨#[]⟩, .slice none 0 0, .slice none 0 0] 31) := ⟨_, rfl⟩
    have HMa := Lib.hid (show Mvd w wa X p by rw [hwa]; exact ((Mvd.of hst).alloc _).alloc _)
    have hsa : wa.heap.size = w.heap.size + 2 := by rw [hwa]; simp
    have HZr := Lib.hid (show zN wa w.heap.size by rw [hwa]; exact (zN.new w).alloc _)
    have HZn := Lib.hid (show zN wa (w.heap.size + 1) by rw [hwa]; exact zN.new1 w _)
    have HWA := Lib.hid hwa
    clear hwa
    go_enter Tryz.func109, Tryz.ntmps109
    go_wp2_with fail
    rw [← HWA.out]
    refine (down_f HMa.out.st (by first | omega | (simp <;> omega)) (by first | omega | (simp <;> omega)) HD.out).mono ?_
    rintro e1 w1 ⟨rfl, hm1⟩
    have HM1 := Lib.hid (HMa.out.trans hm1)
    have hs1 := hm1.grown.size
    have HBr1 := Lib.hid (NdB.grown HZr.out hm1.grown (show X.P < w.heap.size by omega))
    have HBn1 := Lib.hid (NdB.grown HZn.out hm1.grown (show X.P < (w.heap.size + 1) by omega))
    clear hm1
    go_wp2_with fail
    refine (up_c X _ _ HM1.out.st (by first | omega | (simp <;> omega)) (by first | omega | (simp <;> omega))).mono ?_
    rintro e2 w2 ⟨rfl, hm2⟩
    have HM2 := Lib.hid (HM1.out.trans hm2)
    have hs2 := hm2.grown.size
    have HBr2 := Lib.hid (NdB.grown HBr1.out hm2.grown (show X.P < w.heap.size by omega))
    have HBn2 := Lib.hid (NdB.grown HBn1.out hm2.grown (show X.P < (w.heap.size + 1) by omega))
    clear hm2
    go_wp2_with fail
    refine (must_t HM2.out.st (s := e) (L := e.data.toList) rfl).mono ?_
    rintro e3 w3 ⟨rfl, hm3⟩
    have HM3 := Lib.hid (HM2.out.trans hm3)
    have hs3 := hm3.grown.size
    have HBr3 := Lib.hid (NdB.grown HBr2.out hm3.grown (show X.P < w.heap.size by omega))
    have HBn3 := Lib.hid (NdB.grown HBn2.out hm3.grown (show X.P < (w.heap.size + 1) by omega))
    clear hm3
    have c1_0 := HBn3.out.c0
    have c1_1 := HBn3.out.c1
    have c1_2 := HBn3.out.c2
    have c1_3 := HBn3.out.c3
    have c1_4 := HBn3.out.c4
    have c1_5 := HBn3.out.c5
    have c1_6 := HBn3.out.c6
    have c1_7 := HBn3.out.c7
    have c2_0 := HBr3.out.c0
    have f2_0 := HBr3.out.fr 0
    have c2_1 := HBr3.out.c1
    have f2_1 := HBr3.out.fr 1
    have c2_2 := HBr3.out.c2
    have f2_2 := HBr3.out.fr 2
    have c2_3 := HBr3.out.c3
    have f2_3 := HBr3.out.fr 3
    have c2_4 := HBr3.out.c4
    have f2_4 := HBr3.out.fr 4
    have c2_5 := HBr3.out.c5
    have f2_5 := HBr3.out.fr 5
    have c2_6 := HBr3.out.c6
    have f2_6 := HBr3.out.fr 6
    have c2_7 := HBr3.out.c7
    have f2_7 := HBr3.out.fr 7
    go_wp2_with fail
    refine ret_cell8 Tryz.results109 w.heap.size rfl rfl (HBr3.out.set8 _ _ _ _ _ _ _ _) ?_
    exact PNd.mk 0 0 ⟨#[]⟩ 0 0 ⟨#[]⟩ none 0 (.slice none 0 0) .nil _ HRR.out (HM3.out.node HBr3.out (by omega) (by omega) (only_set8 _ _ _ _ _ _ _ _ _ _)) (OwnN.nil _ _) (okN_leaf (by decide) (by decide)) (Nat.zero_le _) (by first | omega | (simp <;> omega))
  | true =>
    rw [hd] at hr
    have hle := downS_le hd
    have HD := Lib.hid hd
    clear hd
    replace hr : ((prsR X.l F .expr (downS p)).bind fun (x, p) => some (x, mustS X.l (upS p) e.data.toList)) = some r := hr
    cases hq1 : prsR X.l F .expr (downS p) with
    | none => rw [hq1] at hr; cases hr
    | some q1 =>
    obtain ⟨n1, p1⟩ := q1
    rw [hq1] at hr
    replace hr : some (n1, mustS X.l (upS p1) e.data.toList) = some r := hr
    have HQ1 := Lib.hid hq1
    clear hq1
    have HRR := Lib.hid (show r = (n1, mustS X.l (upS p1) e.data.toList) from (Option.some.inj hr).symm)
    clear hr
    obtain ⟨wa, hwa⟩ : ∃ wa, wa = ((w).alloc (.cells #[.int .i64 0, .int .i64 0, .string ⟨#[]⟩, .int .i64 0, .int .i64 0, .string ⟨#[]⟩, .slice none 0 0, .slice none 0 0] 31)).alloc (.cells #[.int .i64 0, .int .i64 0, .string ⟨#[]⟩, .int .i64 0, .int .i64 0, .string ⟨#[]⟩, .slice none 0 0, .slice none 0 0] 31) := ⟨_, rfl⟩
    have HMa := Lib.hid (show Mvd w wa X p by rw [hwa]; exact ((Mvd.of hst).alloc _).alloc _)
    have hsa : wa.heap.size = w.heap.size + 2 := by rw [hwa]; simp
    have HZr := Lib.hid (show zN wa w.heap.size by rw [hwa]; exact (zN.new w).alloc _)
    have HZn := Lib.hid (show zN wa (w.heap.size + 1) by rw [hwa]; exact zN.new1 w _)
    have HWA := Lib.hid hwa
    clear hwa
    go_enter Tryz.func109, Tryz.ntmps109
    go_wp2_with fail
    rw [← HWA.out]
    refine (down_t HMa.out.st (by first | omega | (simp <;> omega)) (by first | omega | (simp <;> omega)) HD.out).mono ?_
    rintro e1 w1 ⟨rfl, hm1⟩
    have HM1 := Lib.hid (HMa.out.trans hm1)
    have hs1 := hm1.grown.size
    have HBr1 := Lib.hid (NdB.grown HZr.out hm1.grown (show X.P < w.heap.size by omega))
    have HBn1 := Lib.hid (NdB.grown HZn.out hm1.grown (show X.P < (w.heap.size + 1) by omega))
    clear hm1
    go_wp2_with fail
    refine (IH.out.expr F (Nat.le_refl _) w1 _ _ HM1.out.st (by first | omega | (simp <;> omega)) (by first | omega | (simp <;> omega)) HQ1.out).mono ?_
    rintro e2 w2 ⟨op2, ln2, t2, k2, m2, u2, va2, vc2, V2, sub2, hn2, rfl, hm2, ho2, hk2, hl2, hd2⟩
    obtain ⟨A2, cc2, rfl⟩ := ho2.form
    have hn2 : n1 = nd op2 ln2 t2 k2 m2 u2 sub2 := hn2
    subst hn2
    have hk2 := Lib.hid hk2
    have hd2 : p1.deep = p.deep + 1 := by have h : p1.deep = (downS p).deep := hd2; (try simp at h); omega
    have HM2 := Lib.hid (HM1.out.trans hm2)
    have hs2 := hm2.grown.size
    have HBr2 := Lib.hid (NdB.grown HBr1.out hm2.grown (show X.P < w.heap.size by omega))
    have HBn2 := Lib.hid (NdB.grown HBn1.out hm2.grown (show X.P < (w.heap.size + 1) by omega))
    have HO2 := Lib.hid (ho2.wide (D' := DG w1.heap.size 0) (fun k hk hk2 => ⟨hk, by omega⟩))
    clear hm2 ho2
    unfold nd8
    have c1_0 := HBn2.out.c0
    have f1_0 := HBn2.out.fr 0
    have c1_1 := HBn2.out.c1
    have f1_1 := HBn2.out.fr 1
    have c1_2 := HBn2.out.c2
    have f1_2 := HBn2.out.fr 2
    have c1_3 := HBn2.out.c3
    have f1_3 := HBn2.out.fr 3
    have c1_4 := HBn2.out.c4
    have f1_4 := HBn2.out.fr 4
    have c1_5 := HBn2.out.c5
    have f1_5 := HBn2.out.fr 5
    have c1_6 := HBn2.out.c6
    have f1_6 := HBn2.out.fr 6
    have c1_7 := HBn2.out.c7
    have f1_7 := HBn2.out.fr 7
    obtain ⟨w3, hw3⟩ : ∃ W, W = ((((((((w2.setCell ⟨(w.heap.size + 1), 0, none⟩ (.int .i64 op2)).setCell ⟨(w.heap.size + 1), 1, none⟩ (.int .i64 ln2)).setCell ⟨(w.heap.size + 1), 2, none⟩ (.string t2)).setCell ⟨(w.heap.size + 1), 3, none⟩ (.int .i64 k2)).setCell ⟨(w.heap.size + 1), 4, none⟩ (.int .i64 m2)).setCell ⟨(w.heap.size + 1), 5, none⟩ (.string u2)).setCell ⟨(w.heap.size + 1), 6, none⟩ (.slice va2 0 vc2)).setCell ⟨(w.heap.size + 1), 7, none⟩ (.slice A2 sub2.len cc2)) := ⟨_, rfl⟩
    have hg3 : w2.grownBy w3 (some (w.heap.size + 1)) := by rw [hw3]; exact only_set8 _ _ _ _ _ _ _ _ _ _
    have hs3 := hg3.size
    have HM3 := Lib.hid (HM2.out.node HBn2.out (by omega) (by omega) hg3)
    have HBr3 := Lib.hid (HBr2.out.apart hg3 (by omega))
    have HBn3 := Lib.hid (show NdB w3 (w.heap.size + 1) (.int .i64 op2) (.int .i64 ln2) (.string t2) (.int .i64 k2) (.int .i64 m2) (.string u2) (.slice va2 0 vc2) (.slice A2 sub2.len cc2) by rw [hw3]; exact HBn2.out.set8 _ _ _ _ _ _ _ _)
    have HOx23 := Lib.hid (HO2.out.apart hg3 (by omega))
    have HW3 := Lib.hid hw3
    clear hw3 hg3
    go_wp2_with fail
    rw [← HW3.out]
    clear c1_0 f1_0 c1_1 f1_1 c1_2 f1_2 c1_3 f1_3 c1_4 f1_4 c1_5 f1_5 c1_6 f1_6 c1_7 f1_7
    refine (up_c X _ _ HM3.out.st (by first | omega | (simp <;> omega)) (by first | omega | (simp <;> omega))).mono ?_
    rintro e4 w4 ⟨rfl, hm4⟩
    have HM4 := Lib.hid (HM3.out.trans hm4)
    have hs4 := hm4.grown.size
    have HBr4 := Lib.hid (NdB.grown HBr3.out hm4.grown (show X.P < w.heap.size by omega))
    have HBn4 := Lib.hid (NdB.grown HBn3.out hm4.grown (show X.P < (w.heap.size + 1) by omega))
    have HOx24 := Lib.hid (OwnN.grown HOx23.out hm4.grown (DG.not (by omega)))
    clear hm4
    go_wp2_with fail
    refine (must_t HM4.out.st (s := e) (L := e.data.toList) rfl).mono ?_
    rintro e5 w5 ⟨rfl, hm5⟩
    have HM5 := Lib.hid (HM4.out.trans hm5)
    have hs5 := hm5.grown.size
    have HBr5 := Lib.hid (NdB.grown HBr4.out hm5.grown (show X.P < w.heap.size by omega))
    have HBn5 := Lib.hid (NdB.grown HBn4.out hm5.grown (show X.P < (w.heap.size + 1) by omega))
    have HOx25 := Lib.hid (OwnN.grown HOx24.out hm5.grown (DG.not (by omega)))
    clear hm5
    have c2_0 := HBn5.out.c0
    have c2_1 := HBn5.out.c1
    have c2_2 := HBn5.out.c2
    have c2_3 := HBn5.out.c3
    have c2_4 := HBn5.out.c4
    have c2_5 := HBn5.out.c5
    have c2_6 := HBn5.out.c6
    have c2_7 := HBn5.out.c7
    have c3_0 := HBr5.out.c0
    have f3_0 := HBr5.out.fr 0
    have c3_1 := HBr5.out.c1
    have f3_1 := HBr5.out.fr 1
    have c3_2 := HBr5.out.c2
    have f3_2 := HBr5.out.fr 2
    have c3_3 := HBr5.out.c3
    have f3_3 := HBr5.out.fr 3
    have c3_4 := HBr5.out.c4
    have f3_4 := HBr5.out.fr 4
    have c3_5 := HBr5.out.c5
    have f3_5 := HBr5.out.fr 5
    have c3_6 := HBr5.out.c6
    have f3_6 := HBr5.out.fr 6
    have c3_7 := HBr5.out.c7
    have f3_7 := HBr5.out.fr 7
    go_wp2_with fail
    refine ret_cell8 Tryz.results109 w.heap.size rfl rfl (HBr5.out.set8 _ _ _ _ _ _ _ _) ?_
    exact PNd.mk op2 ln2 t2 k2 m2 u2 va2 vc2 _ sub2 _ HRR.out (HM5.out.node HBr5.out (by omega) (by omega) (only_set8 _ _ _ _ _ _ _ _ _ _)) (own_end HOx25.out (by omega) (only_set8 _ _ _ _ _ _ _ _ _ _) (by omega)) hk2.out (by omega) (by first | omega | (simp <;> omega))

set_option maxRecDepth 100000 in
set_option maxHeartbeats 8000000 in
theorem part_step (X : PCtx) (F : Nat) (hF : F ≤ 1000000000) (ih : EC X F) : NodeC X 203 #[] .part (F + 1) := by
  intro w p r hst h0 h1 hr
  rw [prsR] at hr
  have hPl := hst.lt
  have hlen := hst.len
  obtain ⟨i0, hi0, hz0, hz1, hz2⟩ := info_parts pnode_info
  have IH := Lib.hid ih
  clear ih
  cases hb : isS X.l p [40] with
  | true =>
    rw [hb] at hr
    have HB := Lib.hid hb
    clear hb
    have HQ1 := Lib.hid (show prsR X.l F (.within [41]) (nextS p) = some r from hr)
    clear hr
    obtain ⟨wa, hwa⟩ : ∃ wa, wa = (w).alloc (.cells #[.int .i64 0, .int .i64 0, .string ⟨#[]⟩, .int .i64 0, .int .i64 0, .string ⟨#[]⟩, .slice none 0 0, .slice none 0 0] 31) := ⟨_, rfl⟩
    have HMa := Lib.hid (show Mvd w wa X p by rw [hwa]; exact ((Mvd.of hst).alloc _))
    have hsa : wa.heap.size = w.heap.size + 1 := by rw [hwa]; simp
    have HZr := Lib.hid (show zN wa w.heap.size by rw [hwa]; exact (zN.new w))
    have HWA := Lib.hid hwa
    clear hwa
    go_enter Tryz.func203, Tryz.ntmps203
    go_wp2_with fail
    rw [← HWA.out]
    refine (may_t HMa.out.st (s := ⟨#[40]⟩) (L := [40]) rfl HB.out).mono ?_
    rintro e1 w1 ⟨rfl, hm1⟩
    have HM1 := Lib.hid (HMa.out.trans hm1)
    have hs1 := hm1.grown.size
    have HBr1 := Lib.hid (NdB.grown HZr.out hm1.grown (show X.P < w.heap.size by omega))
    clear hm1
    obtain ⟨n1, p1⟩ := r
    go_wp2_with fail
    refine (IH.out.within F (Nat.le_refl _) ⟨#[41]⟩ w1 _ _ HM1.out.st (by first | omega | (simp <;> omega)) (by first | omega | (simp <;> omega)) HQ1.out).mono ?_
    rintro e2 w2 ⟨op2, ln2, t2, k2, m2, u2, va2, vc2, V2, sub2, hn2, rfl, hm2, ho2, hk2, hl2, hd2⟩
    obtain ⟨A2, cc2, rfl⟩ := ho2.form
    have hn2 : n1 = nd op2 ln2 t2 k2 m2 u2 sub2 := hn2
    subst hn2
    have hk2 := Lib.hid hk2
    have hd2 : p1.deep = p.deep + 0 := by have h : p1.deep = (nextS p).deep := hd2; (try simp at h); omega
    have HM2 := Lib.hid (HM1.out.trans hm2)
    have hs2 := hm2.grown.size
    have HBr2 := Lib.hid (NdB.grown HBr1.out hm2.grown (show X.P < w.heap.size by omega))
    have HO2 := Lib.hid (ho2.wide (D' := DG w1.heap.size 0) (fun k hk hk2 => ⟨hk, by omega⟩))
    clear hm2 ho2
    unfold nd8
    have c1_0 := HBr2.out.c0
    have f1_0 := HBr2.out.fr 0
    have c1_1 := HBr2.out.c1
    have f1_1 := HBr2.out.fr 1
    have c1_2 := HBr2.out.c2
    have f1_2 := HBr2.out.fr 2
    have c1_3 := HBr2.out.c3
    have f1_3 := HBr2.out.fr 3
    have c1_4 := HBr2.out.c4
    have f1_4 := HBr2.out.fr 4
    have c1_5 := HBr2.out.c5
    have f1_5 := HBr2.out.fr 5
    have c1_6 := HBr2.out.c6
    have f1_6 := HBr2.out.fr 6
    have c1_7 := HBr2.out.c7
    have f1_7 := HBr2.out.fr 7
    go_wp2_with fail
    have HRR := Lib.hid (rfl : (nd op2 ln2 t2 k2 m2 u2 sub2, p1) = (nd op2 ln2 t2 k2 m2 u2 sub2, p1))
    refine ret_cell8 Tryz.results203 w.heap.size rfl rfl (HBr2.out.set8 _ _ _ _ _ _ _ _) ?_
    exact PNd.mk op2 ln2 t2 k2 m2 u2 va2 vc2 _ sub2 _ HRR.out (HM2.out.node HBr2.out (by omega) (by omega) (only_set8 _ _ _ _ _ _ _ _ _ _)) (own_end HO2.out (by omega) (only_set8 _ _ _ _ _ _ _ _ _ _) (by omega)) hk2.out (by omega) (by first | omega | (simp <;> omega))
  | false =>
    rw [hb] at hr
    have HB := Lib.hid hb
    clear hb
    replace hr : some (nd 1 (lineS X.l p) ⟨#[]⟩ 2 0 (nameS X.l p).1 .nil, (nameS X.l p).2) = some r := hr
    have HRR := Lib.hid (show r = (nd 1 (lineS X.l p) ⟨#[]⟩ 2 0 (nameS X.l p).1 .nil, (nameS X.l p).2) from (Option.some.inj hr).symm)
    clear hr
    obtain ⟨wa, hwa⟩ : ∃ wa, wa = (w).alloc (.cells #[.int .i64 0, .int .i64 0, .string ⟨#[]⟩, .int .i64 0, .int .i64 0, .string ⟨#[]⟩, .slice none 0 0, .slice none 0 0] 31) := ⟨_, rfl⟩
    have HMa := Lib.hid (show Mvd w wa X p by rw [hwa]; exact ((Mvd.of hst).alloc _))
    have hsa : wa.heap.size = w.heap.size + 1 := by rw [hwa]; simp
    have HZr := Lib.hid (show zN wa w.heap.size by rw [hwa]; exact (zN.new w))
    have HWA := Lib.hid hwa
    clear hwa
    go_enter Tryz.func203, Tryz.ntmps203
    go_wp2_with fail
    rw [← HWA.out]
    refine (may_f HMa.out.st (s := ⟨#[40]⟩) (L := [40]) rfl HB.out).mono ?_
    rintro e1 w1 ⟨rfl, hm1⟩
    have HM1 := Lib.hid (HMa.out.trans hm1)
    have hs1 := hm1.grown.size
    have HBr1 := Lib.hid (NdB.grown HZr.out hm1.grown (show X.P < w.heap.size by omega))
    clear hm1
    go_wp2_with fail
    refine (line_t HM1.out.st).mono ?_
    rintro e2 w2 ⟨rfl, hm2⟩
    have HM2 := Lib.hid (HM1.out.trans hm2)
    have hs2 := hm2.grown.size
    have HBr2 := Lib.hid (NdB.grown HBr1.out hm2.grown (show X.P < w.heap.size by omega))
    clear hm2
    go_wp2_with fail
    refine (name_pc X _ _ HM2.out.st).mono ?_
    rintro e3 w3 ⟨rfl, hm3⟩
    have HM3 := Lib.hid (HM2.out.trans hm3)
    have hs3 := hm3.grown.size
    have HBr3 := Lib.hid (NdB.grown HBr2.out hm3.grown (show X.P < w.heap.size by omega))
    clear hm3
    have c1_0 := HBr3.out.c0
    have f1_0 := HBr3.out.fr 0
    have c1_1 := HBr3.out.c1
    have f1_1 := HBr3.out.fr 1
    have c1_2 := HBr3.out.c2
    have f1_2 := HBr3.out.fr 2
    have c1_3 := HBr3.out.c3
    have f1_3 := HBr3.out.fr 3
    have c1_4 := HBr3.out.c4
    have f1_4 := HBr3.out.fr 4
    have c1_5 := HBr3.out.c5
    have f1_5 := HBr3.out.fr 5
    have c1_6 := HBr3.out.c6
    have f1_6 := HBr3.out.fr 6
    have c1_7 := HBr3.out.c7
    have f1_7 := HBr3.out.fr 7
    go_wp2_with fail
    refine ret_cell8 Tryz.results203 w.heap.size rfl rfl (HBr3.out.set8 _ _ _ _ _ _ _ _) ?_
    exact PNd.mk 1 (lineS X.l p) ⟨#[]⟩ 2 0 (nameS X.l p).1 none 0 (.slice none 0 0) .nil _ HRR.out (HM3.out.node HBr3.out (by omega) (by omega) (only_set8 _ _ _ _ _ _ _ _ _ _)) (OwnN.nil _ _) (okN_leaf (by decide) (by decide)) (Nat.zero_le _) (by first | omega | (simp <;> omega))

set_option maxRecDepth 100000 in
set_option maxHeartbeats 8000000 in
theorem items_step (X : PCtx) (F : Nat) (hF : F ≤ 1000000000) (ih : EC X F) (e : ByteArray) : ListC X 204 #[.string e] (.items e.data.toList) (F + 1) := by
  intro w p r hst h0 h1 hr
  rw [prsR] at hr
  have hPl := hst.lt
  have hlen := hst.len
  obtain ⟨i0, hi0, hz0, hz1, hz2⟩ := info_parts pnode_info
  have IH := Lib.hid ih
  clear ih
  cases hd : (downS p).err.isNone with
  | false =>
    rw [hd] at hr
    have HD := Lib.hid hd
    clear hd
    replace hr : some (.nil, mustS X.l (upS (downS p)) e.data.toList) = some r := hr
    have HRR := Lib.hid (show r = (.nil, mustS X.l (upS (downS p)) e.data.toList) from (Option.some.inj hr).symm)
    clear hr
    have HMw := Lib.hid (Mvd.of hst)
    go_enter Tryz.func204, Tryz.ntmps204
    go_wp2_with fail
    refine (down_f HMw.out.st (by first | omega | (simp <;> omega)) (by first | omega | (simp <;> omega)) HD.out).mono ?_
    rintro e1 w1 ⟨rfl, hm1⟩
    have HM1 := Lib.hid (HMw.out.trans hm1)
    have hs1 := hm1.grown.size
    clear hm1
    go_wp2_with fail
    refine (up_c X _ _ HM1.out.st (by first | omega | (simp <;> omega)) (by first | omega | (simp <;> omega))).mono ?_
    rintro e2 w2 ⟨rfl, hm2⟩
    have HM2 := Lib.hid (HM1.out.trans hm2)
    have hs2 := hm2.grown.size
    clear hm2
    go_wp2_with fail
    refine (must_t HM2.out.st (s := e) (L := e.data.toList) rfl).mono ?_
    rintro e3 w3 ⟨rfl, hm3⟩
    have HM3 := Lib.hid (HM2.out.trans hm3)
    have hs3 := hm3.grown.size
    clear hm3
    go_wp2_with fail
    go_ret
    exact PNl.mk (.slice none 0 0) .nil _ HRR.out HM3.out (OwnN.nil _ _) trivial (Nat.zero_le _) (by first | omega | (simp <;> omega))
  | true =>
    rw [hd] at hr
    have HD := Lib.hid hd
    have hle := downS_le hd
    clear hd
    cases hb : isS X.l (downS p) e.data.toList with
    | true =>
      rw [hb] at hr
      have HB := Lib.hid hb
      clear hb
      replace hr : some (.nil, mustS X.l (upS (downS p)) e.data.toList) = some r := hr
      have HRR := Lib.hid (show r = (.nil, mustS X.l (upS (downS p)) e.data.toList) from (Option.some.inj hr).symm)
      clear hr
      have HMw := Lib.hid (Mvd.of hst)
      go_enter Tryz.func204, Tryz.ntmps204
      go_wp2_with fail
      refine (down_t HMw.out.st (by first | omega | (simp <;> omega)) (by first | omega | (simp <;> omega)) HD.out).mono ?_
      rintro e1 w1 ⟨rfl, hm1⟩
      have HM1 := Lib.hid (HMw.out.trans hm1)
      have hs1 := hm1.grown.size
      clear hm1
      go_wp2_with fail
      refine (is_t HM1.out.st (s := e) (L := e.data.toList) rfl HB.out).mono ?_
      rintro e2 w2 ⟨rfl, hm2⟩
      have HM2 := Lib.hid (HM1.out.trans hm2)
      have hs2 := hm2.grown.size
      clear hm2
      go_wp2_with fail
      refine (up_c X _ _ HM2.out.st (by first | omega | (simp <;> omega)) (by first | omega | (simp <;> omega))).mono ?_
      rintro e3 w3 ⟨rfl, hm3⟩
      have HM3 := Lib.hid (HM2.out.trans hm3)
      have hs3 := hm3.grown.size
      clear hm3
      go_wp2_with fail
      refine (must_t HM3.out.st (s := e) (L := e.data.toList) rfl).mono ?_
      rintro e4 w4 ⟨rfl, hm4⟩
      have HM4 := Lib.hid (HM3.out.trans hm4)
      have hs4 := hm4.grown.size
      clear hm4
      go_wp2_with fail
      go_ret
      exact PNl.mk (.slice none 0 0) .nil _ HRR.out HM4.out (OwnN.nil _ _) trivial (Nat.zero_le _) (by first | omega | (simp <;> omega))
    | false =>
      rw [hb] at hr
      have HB := Lib.hid hb
      clear hb
      replace hr : ((prsR X.l F (.row .nil) (downS p)).bind fun (x, p) => some (x, mustS X.l (upS p) e.data.toList)) = some r := hr
      cases hq1 : prsR X.l F (.row .nil) (downS p) with
      | none => rw [hq1] at hr; cases hr
      | some q1 =>
      obtain ⟨l1, p1⟩ := q1
      rw [hq1] at hr
      replace hr : some (l1, mustS X.l (upS p1) e.data.toList) = some r := hr
      have HQ1 := Lib.hid hq1
      clear hq1
      have HRR := Lib.hid (show r = (l1, mustS X.l (upS p1) e.data.toList) from (Option.some.inj hr).symm)
      clear hr
      have HMw := Lib.hid (Mvd.of hst)
      go_enter Tryz.func204, Tryz.ntmps204
      go_wp2_with fail
      refine (down_t HMw.out.st (by first | omega | (simp <;> omega)) (by first | omega | (simp <;> omega)) HD.out).mono ?_
      rintro e1 w1 ⟨rfl, hm1⟩
      have HM1 := Lib.hid (HMw.out.trans hm1)
      have hs1 := hm1.grown.size
      clear hm1
      go_wp2_with fail
      refine (is_f HM1.out.st (s := e) (L := e.data.toList) rfl HB.out).mono ?_
      rintro e2 w2 ⟨rfl, hm2⟩
      have HM2 := Lib.hid (HM1.out.trans hm2)
      have hs2 := hm2.grown.size
      clear hm2
      go_wp2_with fail
      refine (IH.out.row F (Nat.le_refl _) w2 _ _ HM2.out.st (by first | omega | (simp <;> omega)) (by first | omega | (simp <;> omega)) HQ1.out).mono ?_
      rintro e3 w3 ⟨V3, rfl, hm3, ho3, hk3, hl3, hd3⟩
      obtain ⟨A3, cc3, rfl⟩ := ho3.form
      have hk3 := Lib.hid (show okN l1 from hk3)
      replace hl3 : l1.len ≤ 2 * _ + 2 := hl3
      have hd3 : p1.deep = p.deep + 1 := by have h : p1.deep = (downS p).deep := hd3; (try simp at h); omega
      have HM3 := Lib.hid (HM2.out.trans hm3)
      have hs3 := hm3.grown.size
      have HO3 := Lib.hid (ho3.wide (D' := DG w2.heap.size 0) (fun k hk hk2 => ⟨hk, by omega⟩))
      clear hm3 ho3
      go_wp2_with fail
      refine (up_c X _ _ HM3.out.st (by first | omega | (simp <;> omega)) (by first | omega | (simp <;> omega))).mono ?_
      rintro e4 w4 ⟨rfl, hm4⟩
      have HM4 := Lib.hid (HM3.out.trans hm4)
      have hs4 := hm4.grown.size
      have HOx34 := Lib.hid (OwnN.grown HO3.out hm4.grown (DG.not (by omega)))
      clear hm4
      go_wp2_with fail
      refine (must_t HM4.out.st (s := e) (L := e.data.toList) rfl).mono ?_
      rintro e5 w5 ⟨rfl, hm5⟩
      have HM5 := Lib.hid (HM4.out.trans hm5)
      have hs5 := hm5.grown.size
      have HOx35 := Lib.hid (OwnN.grown HOx34.out hm5.grown (DG.not (by omega)))
      clear hm5
      go_wp2_with fail
      go_ret
      exact PNl.mk (.slice A3 l1.len cc3) l1 _ HRR.out HM5.out (HOx35.out.wide (fun k hk _ => by have := hk.1; show w.heap.size ≤ k; omega)) hk3.out (by omega) (by first | omega | (simp <;> omega))
end Go.Proofs.YtggngahmafbihaaGreatDoor
