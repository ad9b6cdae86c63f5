/- Contracts of the functions that the statement reaches, and the plain mathematics beneath: several texts joined. -/
import Derived.Test.YtggngahmafbihaaGreatDoorPbiAR
namespace Go.Proofs.YtggngahmafbihaaGreatDoor
open Go.RowKit Go.Lib
set_option linter.unusedVariables false

set_option maxRecDepth 100000 in
set_option maxHeartbeats 8000000 in
theorem caught_step (X : PCtx) (F : Nat) (hF : F ≤ 1000000000) (ih : EC X F) (ln : Int) : NodeC X 205 #[.int .i64 ln] (.caught ln) (F + 1) := by
  intro w p r hst h0 h1 hr
  rw [prsR] at hr
  have hPl := hst.lt
  have hlen := hst.len
  obtain ⟨i0, hi0, hz0, hz1, hz2⟩ := info_parts pnode_info
  have IH := Lib.hid ih
  clear ih
  cases hd : (downS p).err.isNone with
  | false =>
    rw [hd] at hr
    replace hr : some (ndL 29 ln .nil, mustS X.l (upS (downS p)) [39]) = some r := hr
    have HD := Lib.hid hd
    clear hd
    have HRR := Lib.hid (show r = (ndL 29 ln .nil, mustS X.l (upS (downS p)) [39]) from (Option.some.inj hr).symm)
    clear hr
    obtain ⟨wa, hwa⟩ : ∃ wa, wa = (w).alloc (.cells #[.int .i64 0, .int .i64 0, .string ⟨#[]⟩, .int .i64 0, .int .i64 0, .string ⟨#[]⟩, .slice none 0 0, .slice none 0 0] 31) := ⟨_, rfl⟩
    have HMa := Lib.hid (show Mvd w wa X p by rw [hwa]; exact ((Mvd.of hst).alloc _))
    have hsa : wa.heap.size = w.heap.size + 1 := by rw [hwa]; simp
    have HZr := Lib.hid (show zN wa w.heap.size by rw [hwa]; exact (zN.new w))
    have HWA := Lib.hid hwa
    clear hwa
    obtain ⟨wb, hwb⟩ : ∃ wb, wb = wa.alloc (.cells #[.int .i64 29, .int .i64 ln, .string ⟨#[]⟩, .int .i64 0, .int .i64 0, .string ⟨#[]⟩, .slice none 0 0, .slice none 0 0] 31) := ⟨_, rfl⟩
    have HMb := Lib.hid (show Mvd w wb X p by rw [hwb]; exact HMa.out.alloc _)
    have hsb : wb.heap.size = wa.heap.size + 1 := by rw [hwb]; simp
    have HZr2 := Lib.hid (show zN wb w.heap.size by rw [hwb]; exact HZr.out.alloc _)
    have HZo := Lib.hid (show NdB wb (w.heap.size + 1) (.int .i64 29) (.int .i64 ln) (.string ⟨#[]⟩) (.int .i64 0) (.int .i64 0) (.string ⟨#[]⟩) (.slice none 0 0) (.slice none 0 0) by rw [hwb, ← hsa]; exact NdB.new _ _ _ _ _ _ _ _ _)
    have HWB := Lib.hid hwb
    clear hwb
    have HOo0 := Lib.hid (OwnN.nil wb (DG wb.heap.size (w.heap.size + 1)))
    go_enter Tryz.func205, Tryz.ntmps205
    go_wp2_with fail
    rw [← HWA.out]
    rw [← HWB.out]
    refine (down_f HMb.out.st (by first | omega | (simp <;> omega)) (by first | omega | (simp <;> omega)) HD.out).mono ?_
    rintro e1 w1 ⟨rfl, hm1⟩
    have HM1 := Lib.hid (HMb.out.trans hm1)
    have hs1 := hm1.grown.size
    have HBr1 := Lib.hid (NdB.grown HZr2.out hm1.grown (show X.P < w.heap.size by omega))
    have HBo1 := Lib.hid (NdB.grown HZo.out hm1.grown (show X.P < (w.heap.size + 1) by omega))
    have HOo1 := Lib.hid (OwnN.grown HOo0.out hm1.grown (DG.not (by omega)))
    clear hm1
    go_wp2_with fail
    refine (up_c X _ _ HM1.out.st (by first | omega | (simp <;> omega)) (by first | omega | (simp <;> omega))).mono ?_
    rintro e2 w2 ⟨rfl, hm2⟩
    have HM2 := Lib.hid (HM1.out.trans hm2)
    have hs2 := hm2.grown.size
    have HBr2 := Lib.hid (NdB.grown HBr1.out hm2.grown (show X.P < w.heap.size by omega))
    have HBo2 := Lib.hid (NdB.grown HBo1.out hm2.grown (show X.P < (w.heap.size + 1) by omega))
    have HOo2 := Lib.hid (OwnN.grown HOo1.out hm2.grown (DG.not (by omega)))
    clear hm2
    go_wp2_with fail
    refine (must_t HM2.out.st (s := ⟨#[39]⟩) (L := [39]) rfl).mono ?_
    rintro e3 w3 ⟨rfl, hm3⟩
    have HM3 := Lib.hid (HM2.out.trans hm3)
    have hs3 := hm3.grown.size
    have HBr3 := Lib.hid (NdB.grown HBr2.out hm3.grown (show X.P < w.heap.size by omega))
    have HBo3 := Lib.hid (NdB.grown HBo2.out hm3.grown (show X.P < (w.heap.size + 1) by omega))
    have HOo3 := Lib.hid (OwnN.grown HOo2.out hm3.grown (DG.not (by omega)))
    clear hm3
    have c1_0 := HBo3.out.c0
    have c1_1 := HBo3.out.c1
    have c1_2 := HBo3.out.c2
    have c1_3 := HBo3.out.c3
    have c1_4 := HBo3.out.c4
    have c1_5 := HBo3.out.c5
    have c1_6 := HBo3.out.c6
    have c1_7 := HBo3.out.c7
    have c2_0 := HBr3.out.c0
    have f2_0 := HBr3.out.fr 0
    have c2_1 := HBr3.out.c1
    have f2_1 := HBr3.out.fr 1
    have c2_2 := HBr3.out.c2
    have f2_2 := HBr3.out.fr 2
    have c2_3 := HBr3.out.c3
    have f2_3 := HBr3.out.fr 3
    have c2_4 := HBr3.out.c4
    have f2_4 := HBr3.out.fr 4
    have c2_5 := HBr3.out.c5
    have f2_5 := HBr3.out.fr 5
    have c2_6 := HBr3.out.c6
    have f2_6 := HBr3.out.fr 6
    have c2_7 := HBr3.out.c7
    have f2_7 := HBr3.out.fr 7
    go_wp2_with fail
    refine ret_cell8 Tryz.results205 w.heap.size rfl rfl (HBr3.out.set8 _ _ _ _ _ _ _ _) ?_
    exact PNd.mk 29 ln ⟨#[]⟩ 0 0 ⟨#[]⟩ none 0 _ NL.nil _ HRR.out (HM3.out.node HBr3.out (by omega) (by omega) (only_set8 _ _ _ _ _ _ _ _ _ _)) (own_end HOo3.out (by omega) (only_set8 _ _ _ _ _ _ _ _ _ _) (by omega)) (okN_leaf (by decide) (by decide)) (Nat.zero_le _) (by first | omega | (simp <;> omega))
  | true =>
    rw [hd] at hr
    have hle := downS_le hd
    have HD := Lib.hid hd
    clear hd
    replace hr : ((prsR X.l F .expr (downS p)).bind fun (x, p) => (prsR X.l F .codes (mustS X.l p [33])).bind fun (y, p) => if isS X.l p [61, 62] then (prsR X.l F .expr (nextS p)).bind fun (z, p) => some (ndL 29 ln ((x.app y).app z), mustS X.l (upS p) [39]) else some (ndL 29 ln (x.app y), mustS X.l (upS p) [39])) = some r := hr
    cases hq1 : prsR X.l F .expr (downS p) with
    | none => rw [hq1] at hr; cases hr
    | some q1 =>
    obtain ⟨n1, p1⟩ := q1
    rw [hq1] at hr
    replace hr : ((prsR X.l F .codes (mustS X.l p1 [33])).bind fun (y, p) => if isS X.l p [61, 62] then (prsR X.l F .expr (nextS p)).bind fun (z, p) => some (ndL 29 ln ((n1.app y).app z), mustS X.l (upS p) [39]) else some (ndL 29 ln (n1.app y), mustS X.l (upS p) [39])) = some r := hr
    have HQ1 := Lib.hid hq1
    clear hq1
    cases hq2 : prsR X.l F .codes (mustS X.l p1 [33]) with
    | none => rw [hq2] at hr; cases hr
    | some q2 =>
    obtain ⟨n2, p2⟩ := q2
    rw [hq2] at hr
    replace hr : (if isS X.l p2 [61, 62] then (prsR X.l F .expr (nextS p2)).bind fun (z, p) => some (ndL 29 ln ((n1.app n2).app z), mustS X.l (upS p) [39]) else some (ndL 29 ln (n1.app n2), mustS X.l (upS p2) [39])) = some r := hr
    have HQ2 := Lib.hid hq2
    clear hq2
    cases hb : isS X.l p2 [61, 62] with
    | true =>
      rw [hb] at hr
      have HB := Lib.hid hb
      clear hb
      replace hr : ((prsR X.l F .expr (nextS p2)).bind fun (z, p) => some (ndL 29 ln ((n1.app n2).app z), mustS X.l (upS p) [39])) = some r := hr
      cases hq3 : prsR X.l F .expr (nextS p2) with
      | none => rw [hq3] at hr; cases hr
      | some q3 =>
      obtain ⟨n3, p3⟩ := q3
      rw [hq3] at hr
      replace hr : some (ndL 29 ln ((n1.app n2).app n3), mustS X.l (upS p3) [39]) = some r := hr
      have HQ3 := Lib.hid hq3
      clear hq3
      have HRR := Lib.hid (show r = (ndL 29 ln ((n1.app n2).app n3), mustS X.l (upS p3) [39]) from (Option.some.inj hr).symm)
      clear hr
      obtain ⟨wa, hwa⟩ : ∃ wa, wa = (w).alloc (.cells #[.int .i64 0, .int .i64 0, .string ⟨#[]⟩, .int .i64 0, .int .i64 0, .string ⟨#[]⟩, .slice none 0 0, .slice none 0 0] 31) := ⟨_, rfl⟩
      have HMa := Lib.hid (show Mvd w wa X p by rw [hwa]; exact ((Mvd.of hst).alloc _))
      have hsa : wa.heap.size = w.heap.size + 1 := by rw [hwa]; simp
      have HZr := Lib.hid (show zN wa w.heap.size by rw [hwa]; exact (zN.new w))
      have HWA := Lib.hid hwa
      clear hwa
      obtain ⟨wb, hwb⟩ : ∃ wb, wb = wa.alloc (.cells #[.int .i64 29, .int .i64 ln, .string ⟨#[]⟩, .int .i64 0, .int .i64 0, .string ⟨#[]⟩, .slice none 0 0, .slice none 0 0] 31) := ⟨_, rfl⟩
      have HMb := Lib.hid (show Mvd w wb X p by rw [hwb]; exact HMa.out.alloc _)
      have hsb : wb.heap.size = wa.heap.size + 1 := by rw [hwb]; simp
      have HZr2 := Lib.hid (show zN wb w.heap.size by rw [hwb]; exact HZr.out.alloc _)
      have HZo := Lib.hid (show NdB wb (w.heap.size + 1) (.int .i64 29) (.int .i64 ln) (.string ⟨#[]⟩) (.int .i64 0) (.int .i64 0) (.string ⟨#[]⟩) (.slice none 0 0) (.slice none 0 0) by rw [hwb, ← hsa]; exact NdB.new _ _ _ _ _ _ _ _ _)
      have HWB := Lib.hid hwb
      clear hwb
      have HOo0 := Lib.hid (OwnN.nil wb (DG wb.heap.size (w.heap.size + 1)))
      go_enter Tryz.func205, Tryz.ntmps205
      go_wp2_with fail
      rw [← HWA.out]
      rw [← HWB.out]
      refine (down_t HMb.out.st (by first | omega | (simp <;> omega)) (by first | omega | (simp <;> omega)) HD.out).mono ?_
      rintro e1 w1 ⟨rfl, hm1⟩
      have HM1 := Lib.hid (HMb.out.trans hm1)
      have hs1 := hm1.grown.size
      have HBr1 := Lib.hid (NdB.grown HZr2.out hm1.grown (show X.P < w.heap.size by omega))
      have HBo1 := Lib.hid (NdB.grown HZo.out hm1.grown (show X.P < (w.heap.size + 1) by omega))
      have HOo1 := Lib.hid (OwnN.grown HOo0.out hm1.grown (DG.not (by omega)))
      clear hm1
      go_upto_region 3 with fail
      go_cut [] (fun wx2 => AppR X w w1 p1 wb.heap.size (w.heap.size + 1) (.int .i64 29) (.int .i64 ln) (.string ⟨#[]⟩) (.int .i64 0) (.int .i64 0) (.string ⟨#[]⟩) (.slice none 0 0) NL.nil n1 1 (p.deep + 1) wx2)
      case first =>
        have c7 := HBo1.out.c7
        have vlt := Lib.hid (fun g (hg : (.slice none 0 0 : Value).ownBlock = some g) => (HOo1.out.ge g hg).2)
        have EXC := Lib.hid (fun W (hW : PSt W X (downS p)) => IH.out.expr F (Nat.le_refl _) W _ _ hW (by first | omega | (simp <;> omega)) (by first | omega | (simp <;> omega)) HQ1.out)
        have HSD := Lib.hid (show PSt w1.drew X (downS p) from HM1.out.st.below (Below.drew (Below.refl _ _)))
        have HMD := Lib.hid (show Mvd w w1.drew X (downS p) from HM1.out.drew)
        go_region_law
          (first
            | (refine step_app_nodes (by rfl) (.tmp 11) (.tmp 14) 29 (by rfl) Tryz.underlying29 hi0 hz0 hz1 hz2 (by rfl) (by rfl) APP.out.1 (by rfl) (by rfl) APP.out.2 (fun e => by cases e) (by first | (simp only [len_nd]; omega) | (simp only [NL.len_app, len_nd]; omega) | (simp only [len_nd, NL.len]; omega) | (simp only [NL.len_app, len_nd, NL.len]; omega)) (by refine ⟨?_, ?_⟩ <;> (rw [World.size_alloc]; omega)) ?_
               intro A9 c9 w9 hown9 hg9 hob9
               have k7 : w9.cell? ⟨(w.heap.size + 1), 7, none⟩ = some (.slice none 0 0) := ((HN.out.alloc _).app hg9 (fun e => (HO.out.ge _ e).1.2 rfl)).c7
               have j7 : w9.frozen? ⟨(w.heap.size + 1), 7, none⟩ = false := ((HN.out.alloc _).app hg9 (fun e => (HO.out.ge _ e).1.2 rfl)).fr 7)
            | (go_simp; go_at_call 26; refine (EXC.out _ HSD.out).mono ?_
               rintro e9 w8 ⟨op, ln, t, k, m, u, va, vc, V, sub, hn, rfl, hm, ho, hk, hl, hd⟩
               obtain ⟨A8, c8, rfl⟩ := ho.form
               have hn' : n1 = nd op ln t k m u sub := hn
               have HK := Lib.hid (show okN n1 ∧ (n1).len ≤ 1 from ⟨hk, by rw [hn', len_nd]; exact Nat.le_refl _⟩)
               have HNN := Lib.hid hn'
               have HDD := Lib.hid (show p1.deep = p.deep + 1 by have h : p1.deep = (downS p).deep := hd; (try simp at h); omega)
               have HG := Lib.hid (show w1.grownBy w8 (some X.P) from ⟨hm.grown.os, hm.grown.tape, hm.grown.output, hm.grown.size, hm.grown.block⟩)
               have HM := Lib.hid (HMD.out.trans hm)
               have hs8 : w1.heap.size ≤ w8.heap.size := hm.grown.size
               have HN := Lib.hid (NdB.grown (w := w1) HBo1.out HG.out (show X.P < (w.heap.size + 1) by omega))
               have HO := Lib.hid (OwnN.grown (w := w1) HOo1.out HG.out (DG.not (by omega)))
               have APP := Lib.hid (app_at HO.out ho op ln t k m u va vc (by show _ ≤ w1.heap.size; omega) (by show _ < w1.heap.size; omega) (by show w1.heap.size ≤ _; omega) vlt.out)
               have c7_8 := HN.out.c7
               have c7_9 := fun o => cellA c7_8 o
               clear hn hn' hm ho hk hl hd
               unfold nd8))
        all_goals
          go_wp2_with fail
          go_meet
          exact app_rel HG.out HM.out HN.out HO.out (by omega) (by omega) (by omega) (by omega) (by rw [HNN.out]; exact hown9) hg9 HK.out.2 HK.out.1 HDD.out
      case rest =>
        obtain ⟨V2, hm2, hd2, hn2, ho2, hx2, hk2, hs2, hf2⟩ := hcut
        replace ho2 : OwnN wc (DG wb.heap.size (w.heap.size + 1)) V2 n1 := ho2
        obtain ⟨A2, c2, rfl⟩ := ho2.form
        have HM2 := Lib.hid hm2
        have HBo2 := Lib.hid hn2
        have HOo2 := Lib.hid ho2
        have HX2 := Lib.hid hk2
        have HBr2 := Lib.hid (hf2 _ _ _ _ _ _ _ _ _ (by omega) (by omega) (by omega) HBr1.out)
        clear hm2 hn2 ho2 hk2 hf2
        go_wp2_with fail
        refine (must_t HM2.out.st (s := ⟨#[33]⟩) (L := [33]) rfl).mono ?_
        rintro e3 w3 ⟨rfl, hm3⟩
        have HM3 := Lib.hid (HM2.out.trans hm3)
        have hs3 := hm3.grown.size
        have HBr3 := Lib.hid (NdB.grown HBr2.out hm3.grown (show X.P < w.heap.size by omega))
        have HBo3 := Lib.hid (NdB.grown HBo2.out hm3.grown (show X.P < (w.heap.size + 1) by omega))
        have HOo3 := Lib.hid (OwnN.grown HOo2.out hm3.grown (DG.not (by omega)))
        clear hm3
        go_upto_region 5 with fail
        go_cut [] (fun wx4 => AppR X w w3 p2 wb.heap.size (w.heap.size + 1) (.int .i64 29) (.int .i64 ln) (.string ⟨#[]⟩) (.int .i64 0) (.int .i64 0) (.string ⟨#[]⟩) (.slice none 0 0) n1 n2 1 (p.deep + 1) wx4)
        case first =>
          have c7 := HBo3.out.c7
          have vlt := Lib.hid (fun g (hg : (.slice A2 n1.len c2 : Value).ownBlock = some g) => (HOo3.out.ge g hg).2)
          have EXC := Lib.hid (fun W (hW : PSt W X (mustS X.l p1 [33])) => IH.out.codes F (Nat.le_refl _) W _ _ hW (by first | omega | (simp <;> omega)) (by first | omega | (simp <;> omega)) HQ2.out)
          have HSD := Lib.hid (show PSt w3.drew X (mustS X.l p1 [33]) from HM3.out.st.below (Below.drew (Below.refl _ _)))
          have HMD := Lib.hid (show Mvd w w3.drew X (mustS X.l p1 [33]) from HM3.out.drew)
          go_region_law
            (first
              | (refine step_app_nodes (by rfl) (.tmp 20) (.tmp 23) 29 (by rfl) Tryz.underlying29 hi0 hz0 hz1 hz2 (by rfl) (by rfl) APP.out.1 (by rfl) (by rfl) APP.out.2 (fun e => by cases e) (by first | (simp only [len_nd]; omega) | (simp only [NL.len_app, len_nd]; omega) | (simp only [len_nd, NL.len]; omega) | (simp only [NL.len_app, len_nd, NL.len]; omega)) (by refine ⟨?_, ?_⟩ <;> (rw [World.size_alloc]; omega)) ?_
                 intro A9 c9 w9 hown9 hg9 hob9
                 have k7 : w9.cell? ⟨(w.heap.size + 1), 7, none⟩ = some (.slice A2 n1.len c2) := ((HN.out.alloc _).app hg9 (fun e => (HO.out.ge _ e).1.2 rfl)).c7
                 have j7 : w9.frozen? ⟨(w.heap.size + 1), 7, none⟩ = false := ((HN.out.alloc _).app hg9 (fun e => (HO.out.ge _ e).1.2 rfl)).fr 7)
              | (go_simp; go_at_call 111; refine (EXC.out _ HSD.out).mono ?_
                 rintro e9 w8 ⟨op, ln, t, k, m, u, va, vc, V, sub, hn, rfl, hm, ho, hk, hl, hd⟩
                 obtain ⟨A8, c8, rfl⟩ := ho.form
                 have hn' : n2 = nd op ln t k m u sub := hn
                 have HK := Lib.hid (show okN n2 ∧ (n2).len ≤ 1 from ⟨hk, by rw [hn', len_nd]; exact Nat.le_refl _⟩)
                 have HNN := Lib.hid hn'
                 have HDD := Lib.hid (show p2.deep = p.deep + 1 by have h : p2.deep = (mustS X.l p1 [33]).deep := hd; (try simp at h); omega)
                 have HG := Lib.hid (show w3.grownBy w8 (some X.P) from ⟨hm.grown.os, hm.grown.tape, hm.grown.output, hm.grown.size, hm.grown.block⟩)
                 have HM := Lib.hid (HMD.out.trans hm)
                 have hs8 : w3.heap.size ≤ w8.heap.size := hm.grown.size
                 have HN := Lib.hid (NdB.grown (w := w3) HBo3.out HG.out (show X.P < (w.heap.size + 1) by omega))
                 have HO := Lib.hid (OwnN.grown (w := w3) HOo3.out HG.out (DG.not (by omega)))
                 have APP := Lib.hid (app_at HO.out ho op ln t k m u va vc (by show _ ≤ w3.heap.size; omega) (by show _ < w3.heap.size; omega) (by show w3.heap.size ≤ _; omega) vlt.out)
                 have c7_8 := HN.out.c7
                 have c7_9 := fun o => cellA c7_8 o
                 clear hn hn' hm ho hk hl hd
                 unfold nd8))
          all_goals
            go_wp2_with fail
            go_meet
            exact app_rel HG.out HM.out HN.out HO.out (by omega) (by omega) (by omega) (by omega) (by rw [HNN.out]; exact hown9) hg9 HK.out.2 HK.out.1 HDD.out
        case rest =>
          obtain ⟨V4, hm4, hd4, hn4, ho4, hx4, hk4, hs4, hf4⟩ := hcut
          obtain ⟨A4, c4, rfl⟩ := ho4.form
          have HM4 := Lib.hid hm4
          have HBo4 := Lib.hid hn4
          have HOo4 := Lib.hid ho4
          have HX4 := Lib.hid hk4
          have HBr4 := Lib.hid (hf4 _ _ _ _ _ _ _ _ _ (by omega) (by omega) (by omega) HBr3.out)
          clear hm4 hn4 ho4 hk4 hf4
          go_wp2_with fail
          refine (may_t HM4.out.st (s := ⟨#[61, 62]⟩) (L := [61, 62]) rfl HB.out).mono ?_
          rintro e5 w5 ⟨rfl, hm5⟩
          have HM5 := Lib.hid (HM4.out.trans hm5)
          have hs5 := hm5.grown.size
          have HBr5 := Lib.hid (NdB.grown HBr4.out hm5.grown (show X.P < w.heap.size by omega))
          have HBo5 := Lib.hid (NdB.grown HBo4.out hm5.grown (show X.P < (w.heap.size + 1) by omega))
          have HOo5 := Lib.hid (OwnN.grown HOo4.out hm5.grown (DG.not (by omega)))
          clear hm5
          go_upto_region 7 with fail
          go_cut [] (fun wx6 => AppR X w w5 p3 wb.heap.size (w.heap.size + 1) (.int .i64 29) (.int .i64 ln) (.string ⟨#[]⟩) (.int .i64 0) (.int .i64 0) (.string ⟨#[]⟩) (.slice none 0 0) (n1.app n2) n3 1 (p.deep + 1) wx6)
          case first =>
            have c7 := HBo5.out.c7
            have vlt := Lib.hid (fun g (hg : (.slice A4 (n1.app n2).len c4 : Value).ownBlock = some g) => (HOo5.out.ge g hg).2)
            have EXC := Lib.hid (fun W (hW : PSt W X (nextS p2)) => IH.out.expr F (Nat.le_refl _) W _ _ hW (by first | omega | (simp <;> omega)) (by first | omega | (simp <;> omega)) HQ3.out)
            have HSD := Lib.hid (show PSt w5.drew X (nextS p2) from HM5.out.st.below (Below.drew (Below.refl _ _)))
            have HMD := Lib.hid (show Mvd w w5.drew X (nextS p2) from HM5.out.drew)
            go_region_law
              (first
                | (refine step_app_nodes (by rfl) (.tmp 29) (.tmp 32) 29 (by rfl) Tryz.underlying29 hi0 hz0 hz1 hz2 (by rfl) (by rfl) APP.out.1 (by rfl) (by rfl) APP.out.2 (fun e => by cases e) (by first | (simp only [len_nd]; omega) | (simp only [NL.len_app, len_nd]; omega) | (simp only [len_nd, NL.len]; omega) | (simp only [NL.len_app, len_nd, NL.len]; omega)) (by refine ⟨?_, ?_⟩ <;> (rw [World.size_alloc]; omega)) ?_
                   intro A9 c9 w9 hown9 hg9 hob9
                   have k7 : w9.cell? ⟨(w.heap.size + 1), 7, none⟩ = some (.slice A4 (n1.app n2).len c4) := ((HN.out.alloc _).app hg9 (fun e => (HO.out.ge _ e).1.2 rfl)).c7
                   have j7 : w9.frozen? ⟨(w.heap.size + 1), 7, none⟩ = false := ((HN.out.alloc _).app hg9 (fun e => (HO.out.ge _ e).1.2 rfl)).fr 7)
                | (go_simp; go_at_call 26; refine (EXC.out _ HSD.out).mono ?_
                   rintro e9 w8 ⟨op, ln, t, k, m, u, va, vc, V, sub, hn, rfl, hm, ho, hk, hl, hd⟩
                   obtain ⟨A8, c8, rfl⟩ := ho.form
                   have hn' : n3 = nd op ln t k m u sub := hn
                   have HK := Lib.hid (show okN n3 ∧ (n3).len ≤ 1 from ⟨hk, by rw [hn', len_nd]; exact Nat.le_refl _⟩)
                   have HNN := Lib.hid hn'
                   have HDD := Lib.hid (show p3.deep = p.deep + 1 by have h : p3.deep = (nextS p2).deep := hd; (try simp at h); omega)
                   have HG := Lib.hid (show w5.grownBy w8 (some X.P) from ⟨hm.grown.os, hm.grown.tape, hm.grown.output, hm.grown.size, hm.grown.block⟩)
                   have HM := Lib.hid (HMD.out.trans hm)
                   have hs8 : w5.heap.size ≤ w8.heap.size := hm.grown.size
                   have HN := Lib.hid (NdB.grown (w := w5) HBo5.out HG.out (show X.P < (w.heap.size + 1) by omega))
                   have HO := Lib.hid (OwnN.grown (w := w5) HOo5.out HG.out (DG.not (by omega)))
                   have APP := Lib.hid (app_at HO.out ho op ln t k m u va vc (by show _ ≤ w5.heap.size; omega) (by show _ < w5.heap.size; omega) (by show w5.heap.size ≤ _; omega) vlt.out)
                   have c7_8 := HN.out.c7
                   have c7_9 := fun o => cellA c7_8 o
                   clear hn hn' hm ho hk hl hd
                   unfold nd8))
            all_goals
              go_wp2_with fail
              go_meet
              exact app_rel HG.out HM.out HN.out HO.out (by omega) (by omega) (by omega) (by omega) (by rw [HNN.out]; exact hown9) hg9 HK.out.2 HK.out.1 HDD.out
          case rest =>
            obtain ⟨V6, hm6, hd6, hn6, ho6, hx6, hk6, hs6, hf6⟩ := hcut
            obtain ⟨A6, c6, rfl⟩ := ho6.form
            have HM6 := Lib.hid hm6
            have HBo6 := Lib.hid hn6
            have HOo6 := Lib.hid ho6
            have HX6 := Lib.hid hk6
            have HBr6 := Lib.hid (hf6 _ _ _ _ _ _ _ _ _ (by omega) (by omega) (by omega) HBr5.out)
            clear hm6 hn6 ho6 hk6 hf6
            go_wp2_with fail
            refine (up_c X _ _ HM6.out.st (by first | omega | (simp <;> omega)) (by first | omega | (simp <;> omega))).mono ?_
            rintro e7 w7 ⟨rfl, hm7⟩
            have HM7 := Lib.hid (HM6.out.trans hm7)
            have hs7 := hm7.grown.size
            have HBr7 := Lib.hid (NdB.grown HBr6.out hm7.grown (show X.P < w.heap.size by omega))
            have HBo7 := Lib.hid (NdB.grown HBo6.out hm7.grown (show X.P < (w.heap.size + 1) by omega))
            have HOo7 := Lib.hid (OwnN.grown HOo6.out hm7.grown (DG.not (by omega)))
            clear hm7
            go_wp2_with fail
            refine (must_t HM7.out.st (s := ⟨#[39]⟩) (L := [39]) rfl).mono ?_
            rintro e8 w8 ⟨rfl, hm8⟩
            have HM8 := Lib.hid (HM7.out.trans hm8)
            have hs8 := hm8.grown.size
            have HBr8 := Lib.hid (NdB.grown HBr7.out hm8.grown (show X.P < w.heap.size by omega))
            have HBo8 := Lib.hid (NdB.grown HBo7.out hm8.grown (show X.P < (w.heap.size + 1) by omega))
            have HOo8 := Lib.hid (OwnN.grown HOo7.out hm8.grown (DG.not (by omega)))
            clear hm8
            have c1_0 := HBo8.out.c0
            have c1_1 := HBo8.out.c1
            have c1_2 := HBo8.out.c2
            have c1_3 := HBo8.out.c3
            have c1_4 := HBo8.out.c4
            have c1_5 := HBo8.out.c5
            have c1_6 := HBo8.out.c6
            have c1_7 := HBo8.out.c7
            have c2_0 := HBr8.out.c0
            have f2_0 := HBr8.out.fr 0
            have c2_1 := HBr8.out.c1
            have f2_1 := HBr8.out.fr 1
            have c2_2 := HBr8.out.c2
            have f2_2 := HBr8.out.fr 2
            have c2_3 := HBr8.out.c3
            have f2_3 := HBr8.out.fr 3
            have c2_4 := HBr8.out.c4
            have f2_4 := HBr8.out.fr 4
            have c2_5 := HBr8.out.c5
            have f2_5 := HBr8.out.fr 5
            have c2_6 := HBr8.out.c6
            have f2_6 := HBr8.out.fr 6
            have c2_7 := HBr8.out.c7
            have f2_7 := HBr8.out.fr 7
            go_wp2_with fail
            refine ret_cell8 Tryz.results205 w.heap.size rfl rfl (HBr8.out.set8 _ _ _ _ _ _ _ _) ?_
            exact PNd.mk 29 ln ⟨#[]⟩ 0 0 ⟨#[]⟩ none 0 _ _ _ HRR.out (HM8.out.node HBr8.out (by omega) (by omega) (only_set8 _ _ _ _ _ _ _ _ _ _)) (own_end HOo8.out (by omega) (only_set8 _ _ _ _ _ _ _ _ _ _) (by omega)) (okN_nd (okN_app _ _ (okN_app _ _ HX2.out HX4.out) HX6.out) (fun h => by rcases h with h | h <;> cases h)) (by simp only [NL.len_app]; omega) (by first | omega | (simp <;> omega))
    | false =>
      rw [hb] at hr
      have HB := Lib.hid hb
      clear hb
      replace hr : some (ndL 29 ln (n1.app n2), mustS X.l (upS p2) [39]) = some r := hr
      have HRR := Lib.hid (show r = (ndL 29 ln (n1.app n2), mustS X.l (upS p2) [39]) from (Option.some.inj hr).symm)
      clear hr
      obtain ⟨wa, hwa⟩ : ∃ wa, wa = (w).alloc (.cells #[.int .i64 0, .int .i64 0, .string ⟨#[]⟩, .int .i64 0, .int .i64 0, .string ⟨#[]⟩, .slice none 0 0, .slice none 0 0] 31) := ⟨_, rfl⟩
      have HMa := Lib.hid (show Mvd w wa X p by rw [hwa]; exact ((Mvd.of hst).alloc _))
      have hsa : wa.heap.size = w.heap.size + 1 := by rw [hwa]; simp
      have HZr := Lib.hid (show zN wa w.heap.size by rw [hwa]; exact (zN.new w))
      have HWA := Lib.hid hwa
      clear hwa
      obtain ⟨wb, hwb⟩ : ∃ wb, wb = wa.alloc (.cells #[.int .i64 29, .int .i64 ln, .string ⟨#[]⟩, .int .i64 0, .int .i64 0, .string ⟨#[]⟩, .slice none 0 0, .slice none 0 0] 31) := ⟨_, rfl⟩
      have HMb := Lib.hid (show Mvd w wb X p by rw [hwb]; exact HMa.out.alloc _)
      have hsb : wb.heap.size = wa.heap.size + 1 := by rw [hwb]; simp
      have HZr2 := Lib.hid (show zN wb w.heap.size by rw [hwb]; exact HZr.out.alloc _)
      have HZo := Lib.hid (show NdB wb (w.heap.size + 1) (.int .i64 29) (.int .i64 ln) (.string ⟨#[]⟩) (.int .i64 0) (.int .i64 0) (.string ⟨#[]⟩) (.slice none 0 0) (.slice none 0 0) by rw [hwb, ← hsa]; exact NdB.new _ _ _ _ _ _ _ _ _)
      have HWB := Lib.hid hwb
      clear hwb
      have HOo0 := Lib.hid (OwnN.nil wb (DG wb.heap.size (w.heap.size + 1)))
      go_enter Tryz.func205, Tryz.ntmps205
      go_wp2_with fail
      rw [← HWA.out]
      rw [← HWB.out]
      refine (down_t HMb.out.st (by first | omega | (simp <;> omega)) (by first | omega | (simp <;> omega)) HD.out).mono ?_
      rintro e1 w1 ⟨rfl, hm1⟩
      have HM1 := Lib.hid (HMb.out.trans hm1)
      have hs1 := hm1.grown.size
      have HBr1 := Lib.hid (NdB.grown HZr2.out hm1.grown (show X.P < w.heap.size by omega))
      have HBo1 := Lib.hid (NdB.grown HZo.out hm1.grown (show X.P < (w.heap.size + 1) by omega))
      have HOo1 := Lib.hid (OwnN.grown HOo0.out hm1.grown (DG.not (by omega)))
      clear hm1
      go_upto_region 3 with fail
      go_cut [] (fun wx2 => AppR X w w1 p1 wb.heap.size (w.heap.size + 1) (.int .i64 29) (.int .i64 ln) (.string ⟨#[]⟩) (.int .i64 0) (.int .i64 0) (.string ⟨#[]⟩) (.slice none 0 0) NL.nil n1 1 (p.deep + 1) wx2)
      case first =>
        have c7 := HBo1.out.c7
        have vlt := Lib.hid (fun g (hg : (.slice none 0 0 : Value).ownBlock = some g) => (HOo1.out.ge g hg).2)
        have EXC := Lib.hid (fun W (hW : PSt W X (downS p)) => IH.out.expr F (Nat.le_refl _) W _ _ hW (by first | omega | (simp <;> omega)) (by first | omega | (simp <;> omega)) HQ1.out)
        have HSD := Lib.hid (show PSt w1.drew X (downS p) from HM1.out.st.below (Below.drew (Below.refl _ _)))
        have HMD := Lib.hid (show Mvd w w1.drew X (downS p) from HM1.out.drew)
        go_region_law
          (first
            | (refine step_app_nodes (by rfl) (.tmp 11) (.tmp 14) 29 (by rfl) Tryz.underlying29 hi0 hz0 hz1 hz2 (by rfl) (by rfl) APP.out.1 (by rfl) (by rfl) APP.out.2 (fun e => by cases e) (by first | (simp only [len_nd]; omega) | (simp only [NL.len_app, len_nd]; omega) | (simp only [len_nd, NL.len]; omega) | (simp only [NL.len_app, len_nd, NL.len]; omega)) (by refine ⟨?_, ?_⟩ <;> (rw [World.size_alloc]; omega)) ?_
               intro A9 c9 w9 hown9 hg9 hob9
               have k7 : w9.cell? ⟨(w.heap.size + 1), 7, none⟩ = some (.slice none 0 0) := ((HN.out.alloc _).app hg9 (fun e => (HO.out.ge _ e).1.2 rfl)).c7
               have j7 : w9.frozen? ⟨(w.heap.size + 1), 7, none⟩ = false := ((HN.out.alloc _).app hg9 (fun e => (HO.out.ge _ e).1.2 rfl)).fr 7)
            | (go_simp; go_at_call 26; refine (EXC.out _ HSD.out).mono ?_
               rintro e9 w8 ⟨op, ln, t, k, m, u, va, vc, V, sub, hn, rfl, hm, ho, hk, hl, hd⟩
               obtain ⟨A8, c8, rfl⟩ := ho.form
               have hn' : n1 = nd op ln t k m u sub := hn
               have HK := Lib.hid (show okN n1 ∧ (n1).len ≤ 1 from ⟨hk, by rw [hn', len_nd]; exact Nat.le_refl _⟩)
               have HNN := Lib.hid hn'
               have HDD := Lib.hid (show p1.deep = p.deep + 1 by have h : p1.deep = (downS p).deep := hd; (try simp at h); omega)
               have HG := Lib.hid (show w1.grownBy w8 (some X.P) from ⟨hm.grown.os, hm.grown.tape, hm.grown.output, hm.grown.size, hm.grown.block⟩)
               have HM := Lib.hid (HMD.out.trans hm)
               have hs8 : w1.heap.size ≤ w8.heap.size := hm.grown.size
               have HN := Lib.hid (NdB.grown (w := w1) HBo1.out HG.out (show X.P < (w.heap.size + 1) by omega))
               have HO := Lib.hid (OwnN.grown (w := w1) HOo1.out HG.out (DG.not (by omega)))
               have APP := Lib.hid (app_at HO.out ho op ln t k m u va vc (by show _ ≤ w1.heap.size; omega) (by show _ < w1.heap.size; omega) (by show w1.heap.size ≤ _; omega) vlt.out)
               have c7_8 := HN.out.c7
               have c7_9 := fun o => cellA c7_8 o
               clear hn hn' hm ho hk hl hd
               unfold nd8))
        all_goals
          go_wp2_with fail
          go_meet
          exact app_rel HG.out HM.out HN.out HO.out (by omega) (by omega) (by omega) (by omega) (by rw [HNN.out]; exact hown9) hg9 HK.out.2 HK.out.1 HDD.out
      case rest =>
        obtain ⟨V2, hm2, hd2, hn2, ho2, hx2, hk2, hs2, hf2⟩ := hcut
        replace ho2 : OwnN wc (DG wb.heap.size (w.heap.size + 1)) V2 n1 := ho2
        obtain ⟨A2, c2, rfl⟩ := ho2.form
        have HM2 := Lib.hid hm2
        have HBo2 := Lib.hid hn2
        have HOo2 := Lib.hid ho2
        have HX2 := Lib.hid hk2
        have HBr2 := Lib.hid (hf2 _ _ _ _ _ _ _ _ _ (by omega) (by omega) (by omega) HBr1.out)
        clear hm2 hn2 ho2 hk2 hf2
        go_wp2_with fail
        refine (must_t HM2.out.st (s := ⟨#[33]⟩) (L := [33]) rfl).mono ?_
        rintro e3 w3 ⟨rfl, hm3⟩
        have HM3 := Lib.hid (HM2.out.trans hm3)
        have hs3 := hm3.grown.size
        have HBr3 := Lib.hid (NdB.grown HBr2.out hm3.grown (show X.P < w.heap.size by omega))
        have HBo3 := Lib.hid (NdB.grown HBo2.out hm3.grown (show X.P < (w.heap.size + 1) by omega))
        have HOo3 := Lib.hid (OwnN.grown HOo2.out hm3.grown (DG.not (by omega)))
        clear hm3
        go_upto_region 5 with fail
        go_cut [] (fun wx4 => AppR X w w3 p2 wb.heap.size (w.heap.size + 1) (.int .i64 29) (.int .i64 ln) (.string ⟨#[]⟩) (.int .i64 0) (.int .i64 0) (.string ⟨#[]⟩) (.slice none 0 0) n1 n2 1 (p.deep + 1) wx4)
        case first =>
          have c7 := HBo3.out.c7
          have vlt := Lib.hid (fun g (hg : (.slice A2 n1.len c2 : Value).ownBlock = some g) => (HOo3.out.ge g hg).2)
          have EXC := Lib.hid (fun W (hW : PSt W X (mustS X.l p1 [33])) => IH.out.codes F (Nat.le_refl _) W _ _ hW (by first | omega | (simp <;> omega)) (by first | omega | (simp <;> omega)) HQ2.out)
          have HSD := Lib.hid (show PSt w3.drew X (mustS X.l p1 [33]) from HM3.out.st.below (Below.drew (Below.refl _ _)))
          have HMD := Lib.hid (show Mvd w w3.drew X (mustS X.l p1 [33]) from HM3.out.drew)
          go_region_law
            (first
              | (refine step_app_nodes (by rfl) (.tmp 20) (.tmp 23) 29 (by rfl) Tryz.underlying29 hi0 hz0 hz1 hz2 (by rfl) (by rfl) APP.out.1 (by rfl) (by rfl) APP.out.2 (fun e => by cases e) (by first | (simp only [len_nd]; omega) | (simp only [NL.len_app, len_nd]; omega) | (simp only [len_nd, NL.len]; omega) | (simp only [NL.len_app, len_nd, NL.len]; omega)) (by refine ⟨?_, ?_⟩ <;> (rw [World.size_alloc]; omega)) ?_
                 intro A9 c9 w9 hown9 hg9 hob9
                 have k7 : w9.cell? ⟨(w.heap.size + 1), 7, none⟩ = some (.slice A2 n1.len c2) := ((HN.out.alloc _).app hg9 (fun e => (HO.out.ge _ e).1.2 rfl)).c7
                 have j7 : w9.frozen? ⟨(w.heap.size + 1), 7, none⟩ = false := ((HN.out.alloc _).app hg9 (fun e => (HO.out.ge _ e).1.2 rfl)).fr 7)
              | (go_simp; go_at_call 111; refine (EXC.out _ HSD.out).mono ?_
                 rintro e9 w8 ⟨op, ln, t, k, m, u, va, vc, V, sub, hn, rfl, hm, ho, hk, hl, hd⟩
                 obtain ⟨A8, c8, rfl⟩ := ho.form
                 have hn' : n2 = nd op ln t k m u sub := hn
                 have HK := Lib.hid (show okN n2 ∧ (n2).len ≤ 1 from ⟨hk, by rw [hn', len_nd]; exact Nat.le_refl _⟩)
                 have HNN := Lib.hid hn'
                 have HDD := Lib.hid (show p2.deep = p.deep + 1 by have h : p2.deep = (mustS X.l p1 [33]).deep := hd; (try simp at h); omega)
                 have HG := Lib.hid (show w3.grownBy w8 (some X.P) from ⟨hm.grown.os, hm.grown.tape, hm.grown.output, hm.grown.size, hm.grown.block⟩)
                 have HM := Lib.hid (HMD.out.trans hm)
                 have hs8 : w3.heap.size ≤ w8.heap.size := hm.grown.size
                 have HN := Lib.hid (NdB.grown (w := w3) HBo3.out HG.out (show X.P < (w.heap.size + 1) by omega))
                 have HO := Lib.hid (OwnN.grown (w := w3) HOo3.out HG.out (DG.not (by omega)))
                 have APP := Lib.hid (app_at HO.out ho op ln t k m u va vc (by show _ ≤ w3.heap.size; omega) (by show _ < w3.heap.size; omega) (by show w3.heap.size ≤ _; omega) vlt.out)
                 have c7_8 := HN.out.c7
                 have c7_9 := fun o => cellA c7_8 o
                 clear hn hn' hm ho hk hl hd
                 unfold nd8))
          all_goals
            go_wp2_with fail
            go_meet
            exact app_rel HG.out HM.out HN.out HO.out (by omega) (by omega) (by omega) (by omega) (by rw [HNN.out]; exact hown9) hg9 HK.out.2 HK.out.1 HDD.out
        case rest =>
          obtain ⟨V4, hm4, hd4, hn4, ho4, hx4, hk4, hs4, hf4⟩ := hcut
          obtain ⟨A4, c4, rfl⟩ := ho4.form
          have HM4 := Lib.hid hm4
          have HBo4 := Lib.hid hn4
          have HOo4 := Lib.hid ho4
          have HX4 := Lib.hid hk4
          have HBr4 := Lib.hid (hf4 _ _ _ _ _ _ _ _ _ (by omega) (by omega) (by omega) HBr3.out)
          clear hm4 hn4 ho4 hk4 hf4
          go_wp2_with fail
          refine (may_f HM4.out.st (s := ⟨#[61, 62]⟩) (L := [61, 62]) rfl HB.out).mono ?_
          rintro e5 w5 ⟨rfl, hm5⟩
          have HM5 := Lib.hid (HM4.out.trans hm5)
          have hs5 := hm5.grown.size
          have HBr5 := Lib.hid (NdB.grown HBr4.out hm5.grown (show X.P < w.heap.size by omega))
          have HBo5 := Lib.hid (NdB.grown HBo4.out hm5.grown (show X.P < (w.heap.size + 1) by omega))
          have HOo5 := Lib.hid (OwnN.grown HOo4.out hm5.grown (DG.not (by omega)))
          clear hm5
          go_wp2_with fail
          refine (up_c X _ _ HM5.out.st (by first | omega | (simp <;> omega)) (by first | omega | (simp <;> omega))).mono ?_
          rintro e6 w6 ⟨rfl, hm6⟩
          have HM6 := Lib.hid (HM5.out.trans hm6)
          have hs6 := hm6.grown.size
          have HBr6 := Lib.hid (NdB.grown HBr5.out hm6.grown (show X.P < w.heap.size by omega))
          have HBo6 := Lib.hid (NdB.grown HBo5.out hm6.grown (show X.P < (w.heap.size + 1) by omega))
          have HOo6 := Lib.hid (OwnN.grown HOo5.out hm6.grown (DG.not (by omega)))
          clear hm6
          go_wp2_with fail
          refine (must_t HM6.out.st (s := ⟨#[39]⟩) (L := [39]) rfl).mono ?_
          rintro e7 w7 ⟨rfl, hm7⟩
          have HM7 := Lib.hid (HM6.out.trans hm7)
          have hs7 := hm7.grown.size
          have HBr7 := Lib.hid (NdB.grown HBr6.out hm7.grown (show X.P < w.heap.size by omega))
          have HBo7 := Lib.hid (NdB.grown HBo6.out hm7.grown (show X.P < (w.heap.size + 1) by omega))
          have HOo7 := Lib.hid (OwnN.grown HOo6.out hm7.grown (DG.not (by omega)))
          clear hm7
          have c1_0 := HBo7.out.c0
          have c1_1 := HBo7.out.c1
          have c1_2 := HBo7.out.c2
          have c1_3 := HBo7.out.c3
          have c1_4 := HBo7.out.c4
          have c1_5 := HBo7.out.c5
          have c1_6 := HBo7.out.c6
          have c1_7 := HBo7.out.c7
          have c2_0 := HBr7.out.c0
          have f2_0 := HBr7.out.fr 0
          have c2_1 := HBr7.out.c1
          have f2_1 := HBr7.out.fr 1
          have c2_2 := HBr7.out.c2
          have f2_2 := HBr7.out.fr 2
          have c2_3 := HBr7.out.c3
          have f2_3 := HBr7.out.fr 3
          have c2_4 := HBr7.out.c4
          have f2_4 := HBr7.out.fr 4
          have c2_5 := HBr7.out.c5
          have f2_5 := HBr7.out.fr 5
          have c2_6 := HBr7.out.c6
          have f2_6 := HBr7.out.fr 6
          have c2_7 := HBr7.out.c7
          have f2_7 := HBr7.out.fr 7
          go_wp2_with fail
          refine ret_cell8 Tryz.results205 w.heap.size rfl rfl (HBr7.out.set8 _ _ _ _ _ _ _ _) ?_
          exact PNd.mk 29 ln ⟨#[]⟩ 0 0 ⟨#[]⟩ none 0 _ _ _ HRR.out (HM7.out.node HBr7.out (by omega) (by omega) (only_set8 _ _ _ _ _ _ _ _ _ _)) (own_end HOo7.out (by omega) (only_set8 _ _ _ _ _ _ _ _ _ _) (by omega)) (okN_nd (okN_app _ _ HX2.out HX4.out) (fun h => by rcases h with h | h <;> cases h)) (by simp only [NL.len_app]; omega) (by first | omega | (simp <;> omega))

set_option maxRecDepth 100000 in
set_option maxHeartbeats 8000000 in
theorem expr_step (X : PCtx) (F : Nat) (hF : F ≤ 1000000000) (ih : EC X F) : NodeC X 26 #[] .expr (F + 1) := by
  intro w p r hst h0 h1 hr
  rw [prsR] at hr
  have hPl := hst.lt
  have hlen := hst.len
  obtain ⟨i0, hi0, hz0, hz1, hz2⟩ := info_parts pnode_info
  have IH := Lib.hid ih
  clear ih
  cases hq1 : prsR X.l F .cond p with
  | none => rw [hq1] at hr; cases hr
  | some q1 =>
  obtain ⟨n1, p1⟩ := q1
  rw [hq1] at hr
  replace hr : (if !isS X.l p1 [61] then some (n1, p1) else match targetS n1 with | none => some (n1, failS X.l p1) | some (op, tl) => if (downS (nextS p1)).err.isNone then (prsR X.l F .expr (downS (nextS p1))).bind fun (x, p) => some (ndL op n1.line (tl.app x), upS p) else some (ndL op n1.line tl, upS (downS (nextS p1)))) = some r := hr
  have HQ1 := Lib.hid hq1
  clear hq1
  cases hb : isS X.l p1 [61] with
  | false =>
    rw [hb] at hr
    have HB := Lib.hid hb
    clear hb
    replace hr : some (n1, p1) = some r := hr
    have HRR := Lib.hid (show r = (n1, p1) from (Option.some.inj hr).symm)
    clear hr
    obtain ⟨wa, hwa⟩ : ∃ wa, wa = (w).alloc (.cells #[.int .i64 0, .int .i64 0, .string ⟨#[]⟩, .int .i64 0, .int .i64 0, .string ⟨#[]⟩, .slice none 0 0, .slice none 0 0] 31) := ⟨_, rfl⟩
    have HMa := Lib.hid (show Mvd w wa X p by rw [hwa]; exact ((Mvd.of hst).alloc _))
    have hsa : wa.heap.size = w.heap.size + 1 := by rw [hwa]; simp
    have HZr := Lib.hid (show zN wa w.heap.size by rw [hwa]; exact (zN.new w))
    have HWA := Lib.hid hwa
    clear hwa
    go_enter Tryz.func26, Tryz.ntmps26
    go_wp2_with fail
    rw [← HWA.out]
    refine (IH.out.cond F (Nat.le_refl _) wa _ _ HMa.out.st (by first | omega | (simp <;> omega)) (by first | omega | (simp <;> omega)) HQ1.out).mono ?_
    rintro e1 w1 ⟨op1, ln1, t1, k1, m1, u1, va1, vc1, V1, sub1, hn1, rfl, hm1, ho1, hk1, hl1, hd1⟩
    obtain ⟨A1, cc1, rfl⟩ := ho1.form
    have hn1 : n1 = nd op1 ln1 t1 k1 m1 u1 sub1 := hn1
    subst hn1
    have hk1 := Lib.hid hk1
    have hd1 : p1.deep = p.deep + 0 := by have h : p1.deep = p.deep := hd1; (try simp at h); omega
    have HM1 := Lib.hid (HMa.out.trans hm1)
    have hs1 := hm1.grown.size
    have HBr1 := Lib.hid (NdB.grown HZr.out hm1.grown (show X.P < w.heap.size by omega))
    have HO1 := Lib.hid (ho1.wide (D' := DG wa.heap.size 0) (fun k hk hk2 => ⟨hk, by omega⟩))
    clear hm1 ho1
    unfold nd8
    obtain ⟨w2, hw2⟩ : ∃ w2, w2 = w1.alloc (.cells #[.int .i64 op1, .int .i64 ln1, .string t1, .int .i64 k1, .int .i64 m1, .string u1, .slice va1 0 vc1, .slice A1 sub1.len cc1] 31) := ⟨_, rfl⟩
    have hb2 : Below w1.heap.size w1 w2 := by rw [hw2]; exact (Below.refl _ _).alloc (Nat.le_refl _) _
    have HBn2 := Lib.hid (show NdB w2 w1.heap.size (.int .i64 op1) (.int .i64 ln1) (.string t1) (.int .i64 k1) (.int .i64 m1) (.string u1) (.slice va1 0 vc1) (.slice A1 sub1.len cc1) by rw [hw2]; exact NdB.new _ _ _ _ _ _ _ _ _)
    have hs2 : w2.heap.size = w1.heap.size + 1 := by rw [hw2]; simp
    have HM2 := Lib.hid (HM1.out.below hb2)
    have HBr2 := Lib.hid (HBr1.out.below' hb2)
    have HOx12 := Lib.hid ((HO1.out.wide (D' := DG wa.heap.size w1.heap.size) (fun k hk hk2 => ⟨hk.1, by omega⟩)).below hb2)
    have HW2 := Lib.hid hw2
    clear hw2 hb2
    go_wp2_with fail
    rw [← HW2.out]
    refine (is_f HM2.out.st (s := ⟨#[61]⟩) (L := [61]) rfl HB.out).mono ?_
    rintro e3 w3 ⟨rfl, hm3⟩
    have HM3 := Lib.hid (HM2.out.trans hm3)
    have hs3 := hm3.grown.size
    have HBr3 := Lib.hid (NdB.grown HBr2.out hm3.grown (show X.P < w.heap.size by omega))
    have HBn3 := Lib.hid (NdB.grown HBn2.out hm3.grown (show X.P < w1.heap.size by omega))
    have HOx13 := Lib.hid (OwnN.grown HOx12.out hm3.grown (DG.not (by omega)))
    clear hm3
    have c1_0 := HBn3.out.c0
    have c1_1 := HBn3.out.c1
    have c1_2 := HBn3.out.c2
    have c1_3 := HBn3.out.c3
    have c1_4 := HBn3.out.c4
    have c1_5 := HBn3.out.c5
    have c1_6 := HBn3.out.c6
    have c1_7 := HBn3.out.c7
    have c2_0 := HBr3.out.c0
    have f2_0 := HBr3.out.fr 0
    have c2_1 := HBr3.out.c1
    have f2_1 := HBr3.out.fr 1
    have c2_2 := HBr3.out.c2
    have f2_2 := HBr3.out.fr 2
    have c2_3 := HBr3.out.c3
    have f2_3 := HBr3.out.fr 3
    have c2_4 := HBr3.out.c4
    have f2_4 := HBr3.out.fr 4
    have c2_5 := HBr3.out.c5
    have f2_5 := HBr3.out.fr 5
    have c2_6 := HBr3.out.c6
    have f2_6 := HBr3.out.fr 6
    have c2_7 := HBr3.out.c7
    have f2_7 := HBr3.out.fr 7
    go_wp2_with fail
    refine ret_cell8 Tryz.results26 w.heap.size rfl rfl (HBr3.out.set8 _ _ _ _ _ _ _ _) ?_
    exact PNd.mk op1 ln1 t1 k1 m1 u1 va1 vc1 _ sub1 _ HRR.out (HM3.out.node HBr3.out (by omega) (by omega) (only_set8 _ _ _ _ _ _ _ _ _ _)) (own_end HOx13.out (by omega) (only_set8 _ _ _ _ _ _ _ _ _ _) (by omega)) hk1.out (by omega) (by first | omega | (simp <;> omega))
  | true =>
    rw [hb] at hr
    have hlt := isS_lt hb
    have HB := Lib.hid hb
    clear hb
    cases ht : targetS n1 with
    | none =>
      rw [ht] at hr
      have HT := Lib.hid ht
      clear ht
      replace hr : some (n1, failS X.l p1) = some r := hr
      have HRR := Lib.hid (show r = (n1, failS X.l p1) from (Option.some.inj hr).symm)
      clear hr
      obtain ⟨wa, hwa⟩ : ∃ wa, wa = (w).alloc (.cells #[.int .i64 0, .int .i64 0, .string ⟨#[]⟩, .int .i64 0, .int .i64 0, .string ⟨#[]⟩, .slice none 0 0, .slice none 0 0] 31) := ⟨_, rfl⟩
      have HMa := Lib.hid (show Mvd w wa X p by rw [hwa]; exact ((Mvd.of hst).alloc _))
      have hsa : wa.heap.size = w.heap.size + 1 := by rw [hwa]; simp
      have HZr := Lib.hid (show zN wa w.heap.size by rw [hwa]; exact (zN.new w))
      have HWA := Lib.hid hwa
      clear hwa
      go_enter Tryz.func26, Tryz.ntmps26
      go_wp2_with fail
      rw [← HWA.out]
      refine (IH.out.cond F (Nat.le_refl _) wa _ _ HMa.out.st (by first | omega | (simp <;> omega)) (by first | omega | (simp <;> omega)) HQ1.out).mono ?_
      rintro e1 w1 ⟨op1, ln1, t1, k1, m1, u1, va1, vc1, V1, sub1, hn1, rfl, hm1, ho1, hk1, hl1, hd1⟩
      obtain ⟨A1, cc1, rfl⟩ := ho1.form
      have hn1 : n1 = nd op1 ln1 t1 k1 m1 u1 sub1 := hn1
      subst hn1
      have hk1 := Lib.hid hk1
      have hd1 : p1.deep = p.deep + 0 := by have h : p1.deep = p.deep := hd1; (try simp at h); omega
      have HM1 := Lib.hid (HMa.out.trans hm1)
      have hs1 := hm1.grown.size
      have HBr1 := Lib.hid (NdB.grown HZr.out hm1.grown (show X.P < w.heap.size by omega))
      have HO1 := Lib.hid (ho1.wide (D' := DG wa.heap.size 0) (fun k hk hk2 => ⟨hk, by omega⟩))
      clear hm1 ho1
      unfold nd8
      obtain ⟨w2, hw2⟩ : ∃ w2, w2 = w1.alloc (.cells #[.int .i64 op1, .int .i64 ln1, .string t1, .int .i64 k1, .int .i64 m1, .string u1, .slice va1 0 vc1, .slice A1 sub1.len cc1] 31) := ⟨_, rfl⟩
      have hb2 : Below w1.heap.size w1 w2 := by rw [hw2]; exact (Below.refl _ _).alloc (Nat.le_refl _) _
      have HBn2 := Lib.hid (show NdB w2 w1.heap.size (.int .i64 op1) (.int .i64 ln1) (.string t1) (.int .i64 k1) (.int .i64 m1) (.string u1) (.slice va1 0 vc1) (.slice A1 sub1.len cc1) by rw [hw2]; exact NdB.new _ _ _ _ _ _ _ _ _)
      have hs2 : w2.heap.size = w1.heap.size + 1 := by rw [hw2]; simp
      have HM2 := Lib.hid (HM1.out.below hb2)
      have HBr2 := Lib.hid (HBr1.out.below' hb2)
      have HOx12 := Lib.hid ((HO1.out.wide (D' := DG wa.heap.size w1.heap.size) (fun k hk hk2 => ⟨hk.1, by omega⟩)).below hb2)
      have HW2 := Lib.hid hw2
      clear hw2 hb2
      go_wp2_with fail
      rw [← HW2.out]
      refine (is_t HM2.out.st (s := ⟨#[61]⟩) (L := [61]) rfl HB.out).mono ?_
      rintro e3 w3 ⟨rfl, hm3⟩
      have HM3 := Lib.hid (HM2.out.trans hm3)
      have hs3 := hm3.grown.size
      have HBr3 := Lib.hid (NdB.grown HBr2.out hm3.grown (show X.P < w.heap.size by omega))
      have HBn3 := Lib.hid (NdB.grown HBn2.out hm3.grown (show X.P < w1.heap.size by omega))
      have HOx13 := Lib.hid (OwnN.grown HOx12.out hm3.grown (DG.not (by omega)))
      clear hm3
      have c1_0 := HBn3.out.c0
      have c1_1 := HBn3.out.c1
      have c1_2 := HBn3.out.c2
      have c1_3 := HBn3.out.c3
      have c1_4 := HBn3.out.c4
      have c1_5 := HBn3.out.c5
      have c1_6 := HBn3.out.c6
      have c1_7 := HBn3.out.c7
      go_wp2_with fail
      refine (target_pc op1 ln1 t1 k1 m1 u1 va1 vc1 (.slice A1 sub1.len cc1) sub1 (DG wa.heap.size w1.heap.size) w3 hk1.out HOx13.out (fun k hk => ⟨by omega, by omega⟩) (by omega)).mono ?_
      rintro e4 w4 ⟨hto4, hb4⟩
      rw [HT.out] at hto4
      obtain rfl := (show e4 = .returned (.tuple #[.int .i64 0, .slice none 0 0]) from hto4)
      have hs4 := hb4.size
      have HM4 := Lib.hid (HM3.out.below hb4)
      have HBr4 := Lib.hid (HBr3.out.below' hb4)
      have HBn4 := Lib.hid (HBn3.out.below' hb4)
      have HOx14 := Lib.hid (HOx13.out.below hb4)
      clear hb4
      go_wp2_with fail
      refine (fail_c X _ _ HM4.out.st).mono ?_
      rintro e5 w5 ⟨rfl, hm5⟩
      have HM5 := Lib.hid (HM4.out.trans hm5)
      have hs5 := hm5.grown.size
      have HBr5 := Lib.hid (NdB.grown HBr4.out hm5.grown (show X.P < w.heap.size by omega))
      have HBn5 := Lib.hid (NdB.grown HBn4.out hm5.grown (show X.P < w1.heap.size by omega))
      have HOx15 := Lib.hid (OwnN.grown HOx14.out hm5.grown (DG.not (by omega)))
      clear hm5
      have c2_0 := HBn5.out.c0
      have c2_1 := HBn5.out.c1
      have c2_2 := HBn5.out.c2
      have c2_3 := HBn5.out.c3
      have c2_4 := HBn5.out.c4
      have c2_5 := HBn5.out.c5
      have c2_6 := HBn5.out.c6
      have c2_7 := HBn5.out.c7
      have c3_0 := HBr5.out.c0
      have f3_0 := HBr5.out.fr 0
      have c3_1 := HBr5.out.c1
      have f3_1 := HBr5.out.fr 1
      have c3_2 := HBr5.out.c2
      have f3_2 := HBr5.out.fr 2
      have c3_3 := HBr5.out.c3
      have f3_3 := HBr5.out.fr 3
      have c3_4 := HBr5.out.c4
      have f3_4 := HBr5.out.fr 4
      have c3_5 := HBr5.out.c5
      have f3_5 := HBr5.out.fr 5
      have c3_6 := HBr5.out.c6
      have f3_6 := HBr5.out.fr 6
      have c3_7 := HBr5.out.c7
      have f3_7 := HBr5.out.fr 7
      go_wp2_with fail
      refine ret_cell8 Tryz.results26 w.heap.size rfl rfl (HBr5.out.set8 _ _ _ _ _ _ _ _) ?_
      exact PNd.mk op1 ln1 t1 k1 m1 u1 va1 vc1 _ sub1 _ HRR.out (HM5.out.node HBr5.out (by omega) (by omega) (only_set8 _ _ _ _ _ _ _ _ _ _)) (own_end HOx15.out (by omega) (only_set8 _ _ _ _ _ _ _ _ _ _) (by omega)) hk1.out (by omega) (by first | omega | (simp <;> omega))
    | some ot =>
      obtain ⟨o, tl⟩ := ot
      rw [ht] at hr
      have HT := Lib.hid ht
      clear ht
      replace hr : (if (downS (nextS p1)).err.isNone then (prsR X.l F .expr (downS (nextS p1))).bind fun (x, p) => some (ndL o n1.line (tl.app x), upS p) else some (ndL o n1.line tl, upS (downS (nextS p1)))) = some r := hr
      cases hd : (downS (nextS p1)).err.isNone with
      | false =>
        rw [hd] at hr
        have HD := Lib.hid hd
        clear hd
        replace hr : some (ndL o n1.line tl, upS (downS (nextS p1))) = some r := hr
        have HRR := Lib.hid (show r = (ndL o n1.line tl, upS (downS (nextS p1))) from (Option.some.inj hr).symm)
        clear hr
        obtain ⟨wa, hwa⟩ : ∃ wa, wa = (w).alloc (.cells #[.int .i64 0, .int .i64 0, .string ⟨#[]⟩, .int .i64 0, .int .i64 0, .string ⟨#[]⟩, .slice none 0 0, .slice none 0 0] 31) := ⟨_, rfl⟩
        have HMa := Lib.hid (show Mvd w wa X p by rw [hwa]; exact ((Mvd.of hst).alloc _))
        have hsa : wa.heap.size = w.heap.size + 1 := by rw [hwa]; simp
        have HZr := Lib.hid (show zN wa w.heap.size by rw [hwa]; exact (zN.new w))
        have HWA := Lib.hid hwa
        clear hwa
        go_enter Tryz.func26, Tryz.ntmps26
        go_wp2_with fail
        rw [← HWA.out]
        refine (IH.out.cond F (Nat.le_refl _) wa _ _ HMa.out.st (by first | omega | (simp <;> omega)) (by first | omega | (simp <;> omega)) HQ1.out).mono ?_
        rintro e1 w1 ⟨op1, ln1, t1, k1, m1, u1, va1, vc1, V1, sub1, hn1, rfl, hm1, ho1, hk1, hl1, hd1⟩
        obtain ⟨A1, cc1, rfl⟩ := ho1.form
        have hn1 : n1 = nd op1 ln1 t1 k1 m1 u1 sub1 := hn1
        subst hn1
        have hk1 := Lib.hid hk1
        have hd1 : p1.deep = p.deep + 0 := by have h : p1.deep = p.deep := hd1; (try simp at h); omega
        have HM1 := Lib.hid (HMa.out.trans hm1)
        have hs1 := hm1.grown.size
        have HBr1 := Lib.hid (NdB.grown HZr.out hm1.grown (show X.P < w.heap.size by omega))
        have HO1 := Lib.hid (ho1.wide (D' := DG wa.heap.size 0) (fun k hk hk2 => ⟨hk, by omega⟩))
        clear hm1 ho1
        unfold nd8
        obtain ⟨w2, hw2⟩ : ∃ w2, w2 = w1.alloc (.cells #[.int .i64 op1, .int .i64 ln1, .string t1, .int .i64 k1, .int .i64 m1, .string u1, .slice va1 0 vc1, .slice A1 sub1.len cc1] 31) := ⟨_, rfl⟩
        have hb2 : Below w1.heap.size w1 w2 := by rw [hw2]; exact (Below.refl _ _).alloc (Nat.le_refl _) _
        have HBn2 := Lib.hid (show NdB w2 w1.heap.size (.int .i64 op1) (.int .i64 ln1) (.string t1) (.int .i64 k1) (.int .i64 m1) (.string u1) (.slice va1 0 vc1) (.slice A1 sub1.len cc1) by rw [hw2]; exact NdB.new _ _ _ _ _ _ _ _ _)
        have hs2 : w2.heap.size = w1.heap.size + 1 := by rw [hw2]; simp
        have HM2 := Lib.hid (HM1.out.below hb2)
        have HBr2 := Lib.hid (HBr1.out.below' hb2)
        have HOx12 := Lib.hid ((HO1.out.wide (D' := DG wa.heap.size w1.heap.size) (fun k hk hk2 => ⟨hk.1, by omega⟩)).below hb2)
        have HW2 := Lib.hid hw2
        clear hw2 hb2
        go_wp2_with fail
        rw [← HW2.out]
        refine (is_t HM2.out.st (s := ⟨#[61]⟩) (L := [61]) rfl HB.out).mono ?_
        rintro e3 w3 ⟨rfl, hm3⟩
        have HM3 := Lib.hid (HM2.out.trans hm3)
        have hs3 := hm3.grown.size
        have HBr3 := Lib.hid (NdB.grown HBr2.out hm3.grown (show X.P < w.heap.size by omega))
        have HBn3 := Lib.hid (NdB.grown HBn2.out hm3.grown (show X.P < w1.heap.size by omega))
        have HOx13 := Lib.hid (OwnN.grown HOx12.out hm3.grown (DG.not (by omega)))
        clear hm3
        have c1_0 := HBn3.out.c0
        have c1_1 := HBn3.out.c1
        have c1_2 := HBn3.out.c2
        have c1_3 := HBn3.out.c3
        have c1_4 := HBn3.out.c4
        have c1_5 := HBn3.out.c5
        have c1_6 := HBn3.out.c6
        have c1_7 := HBn3.out.c7
        go_wp2_with fail
        refine (target_pc op1 ln1 t1 k1 m1 u1 va1 vc1 (.slice A1 sub1.len cc1) sub1 (DG wa.heap.size w1.heap.size) w3 hk1.out HOx13.out (fun k hk => ⟨by omega, by omega⟩) (by omega)).mono ?_
        rintro e4 w4 ⟨hto4, hb4⟩
        rw [HT.out] at hto4
        have hsp := targetS_nd HT.out
        obtain ⟨VT, hte, hto⟩ := hto4
        subst hte
        obtain ⟨AT, CT, rfl⟩ := hto.form
        have HOT := Lib.hid hto
        clear hto
        have hk9 : okN tl := by rcases hsp with ⟨_, h⟩ | ⟨_, h⟩ <;> rw [h]; exact hk1.out; exact okN_kids hk1.out
        have HKT := Lib.hid hk9
        clear hk9
        have hltl : tl.len ≤ 2 * F + 10 := by rcases hsp with ⟨_, h⟩ | ⟨_, h⟩ <;> rw [h]; rw [len_nd]; omega; exact hl1
        have ho0 : (o == 0) = false := by rcases hsp with ⟨h, _⟩ | ⟨h, _⟩ <;> rw [h] <;> decide
        have hoo : o = 20 ∨ o = 26 → (0 : Nat) ≠ 0 := by rcases hsp with ⟨h, _⟩ | ⟨h, _⟩ <;> rw [h] <;> (intro h2; rcases h2 with h2 | h2 <;> cases h2)
        have HOO := Lib.hid hoo
        clear hoo hsp
        have hs4 := hb4.size
        have HM4 := Lib.hid (HM3.out.below hb4)
        have HBr4 := Lib.hid (HBr3.out.below' hb4)
        have HBn4 := Lib.hid (HBn3.out.below' hb4)
        clear hb4
        obtain ⟨ev, hP, hE⟩ := HM4.out.st.at_
        have c1 := hP.c1
        have f1 := hP.fr 1
        clear hP hE
        go_wp2_with fail
        have HMn5 := Lib.hid (HM4.out.next hlt)
        obtain ⟨w5, hw5⟩ : ∃ W, W = w4.setCell ⟨X.P, 1, none⟩ (.int .i64 (p1.pos + 1 : Nat)) := ⟨_, rfl⟩
        have hg5 : w4.grownBy w5 (some X.P) := by rw [hw5]; exact only_set1 _ _ _ _
        have HM5 := Lib.hid (show Mvd w w5 X (nextS p1) by rw [hw5]; exact HMn5.out)
        have hs5 := hg5.size
        have HBr5 := Lib.hid (NdB.grown HBr4.out hg5 (show X.P < w.heap.size by omega))
        have HBn5 := Lib.hid (NdB.grown HBn4.out hg5 (show X.P < w1.heap.size by omega))
        have HOt5 := Lib.hid (OwnN.grown HOT.out hg5 (DG.not (by omega)))
        have HW5 := Lib.hid hw5
        clear hw5 hg5 HMn5 c1 f1
        try rw [show ((p1.pos : Int) + 1) = ((p1.pos + 1 : Nat) : Int) from by omega]
        rw [← HW5.out]
        refine (down_f HM5.out.st (by first | omega | (simp <;> omega)) (by first | omega | (simp <;> omega)) HD.out).mono ?_
        rintro e6 w6 ⟨rfl, hm6⟩
        have HM6 := Lib.hid (HM5.out.trans hm6)
        have hs6 := hm6.grown.size
        have HBr6 := Lib.hid (NdB.grown HBr5.out hm6.grown (show X.P < w.heap.size by omega))
        have HBn6 := Lib.hid (NdB.grown HBn5.out hm6.grown (show X.P < w1.heap.size by omega))
        have HOt6 := Lib.hid (OwnN.grown HOt5.out hm6.grown (DG.not (by omega)))
        clear hm6
        go_wp2_with fail
        refine (up_c X _ _ HM6.out.st (by first | omega | (simp <;> omega)) (by first | omega | (simp <;> omega))).mono ?_
        rintro e7 w7 ⟨rfl, hm7⟩
        have HM7 := Lib.hid (HM6.out.trans hm7)
        have hs7 := hm7.grown.size
        have HBr7 := Lib.hid (NdB.grown HBr6.out hm7.grown (show X.P < w.heap.size by omega))
        have HBn7 := Lib.hid (NdB.grown HBn6.out hm7.grown (show X.P < w1.heap.size by omega))
        have HOt7 := Lib.hid (OwnN.grown HOt6.out hm7.grown (DG.not (by omega)))
        clear hm7
        have c2_0 := HBn7.out.c0
        have c2_1 := HBn7.out.c1
        have c2_2 := HBn7.out.c2
        have c2_3 := HBn7.out.c3
        have c2_4 := HBn7.out.c4
        have c2_5 := HBn7.out.c5
        have c2_6 := HBn7.out.c6
        have c2_7 := HBn7.out.c7
        have c3_0 := HBr7.out.c0
        have f3_0 := HBr7.out.fr 0
        have c3_1 := HBr7.out.c1
        have f3_1 := HBr7.out.fr 1
        have c3_2 := HBr7.out.c2
        have f3_2 := HBr7.out.fr 2
        have c3_3 := HBr7.out.c3
        have f3_3 := HBr7.out.fr 3
        have c3_4 := HBr7.out.c4
        have f3_4 := HBr7.out.fr 4
        have c3_5 := HBr7.out.c5
        have f3_5 := HBr7.out.fr 5
        have c3_6 := HBr7.out.c6
        have f3_6 := HBr7.out.fr 6
        have c3_7 := HBr7.out.c7
        have f3_7 := HBr7.out.fr 7
        go_wp2_with fail
        refine ret_cell8 Tryz.results26 w.heap.size rfl rfl (HBr7.out.set8 _ _ _ _ _ _ _ _) ?_
        exact PNd.mk o ln1 ⟨#[]⟩ 0 0 ⟨#[]⟩ none 0 _ tl _ HRR.out (HM7.out.node HBr7.out (by omega) (by omega) (only_set8 _ _ _ _ _ _ _ _ _ _)) (own_end HOt7.out (by omega) (only_set8 _ _ _ _ _ _ _ _ _ _) (by omega)) (okN_nd HKT.out (fun h => absurd rfl (HOO.out h))) (by omega) (by first | omega | (simp <;> omega))
      | true =>
        rw [hd] at hr
        have HD := Lib.hid hd
        have hle := downS_le hd
        simp only [nextS_deep] at hle
        clear hd
        replace hr : ((prsR X.l F .expr (downS (nextS p1))).bind fun (x, p) => some (ndL o n1.line (tl.app x), upS p)) = some r := hr
        cases hq2 : prsR X.l F .expr (downS (nextS p1)) with
        | none => rw [hq2] at hr; cases hr
        | some q2 =>
        obtain ⟨n2, p2⟩ := q2
        rw [hq2] at hr
        replace hr : some (ndL o n1.line (tl.app n2), upS p2) = some r := hr
        have HQ2 := Lib.hid hq2
        clear hq2
        have HRR := Lib.hid (show r = (ndL o n1.line (tl.app n2), upS p2) from (Option.some.inj hr).symm)
        clear hr
        obtain ⟨wa, hwa⟩ : ∃ wa, wa = (w).alloc (.cells #[.int .i64 0, .int .i64 0, .string ⟨#[]⟩, .int .i64 0, .int .i64 0, .string ⟨#[]⟩, .slice none 0 0, .slice none 0 0] 31) := ⟨_, rfl⟩
        have HMa := Lib.hid (show Mvd w wa X p by rw [hwa]; exact ((Mvd.of hst).alloc _))
        have hsa : wa.heap.size = w.heap.size + 1 := by rw [hwa]; simp
        have HZr := Lib.hid (show zN wa w.heap.size by rw [hwa]; exact (zN.new w))
        have HWA := Lib.hid hwa
        clear hwa
        go_enter Tryz.func26, Tryz.ntmps26
        go_wp2_with fail
        rw [← HWA.out]
        refine (IH.out.cond F (Nat.le_refl _) wa _ _ HMa.out.st (by first | omega | (simp <;> omega)) (by first | omega | (simp <;> omega)) HQ1.out).mono ?_
        rintro e1 w1 ⟨op1, ln1, t1, k1, m1, u1, va1, vc1, V1, sub1, hn1, rfl, hm1, ho1, hk1, hl1, hd1⟩
        obtain ⟨A1, cc1, rfl⟩ := ho1.form
        have hn1 : n1 = nd op1 ln1 t1 k1 m1 u1 sub1 := hn1
        subst hn1
        have hk1 := Lib.hid hk1
        have hd1 : p1.deep = p.deep + 0 := by have h : p1.deep = p.deep := hd1; (try simp at h); omega
        have HM1 := Lib.hid (HMa.out.trans hm1)
        have hs1 := hm1.grown.size
        have HBr1 := Lib.hid (NdB.grown HZr.out hm1.grown (show X.P < w.heap.size by omega))
        have HO1 := Lib.hid (ho1.wide (D' := DG wa.heap.size 0) (fun k hk hk2 => ⟨hk, by omega⟩))
        clear hm1 ho1
        unfold nd8
        obtain ⟨w2, hw2⟩ : ∃ w2, w2 = w1.alloc (.cells #[.int .i64 op1, .int .i64 ln1, .string t1, .int .i64 k1, .int .i64 m1, .string u1, .slice va1 0 vc1, .slice A1 sub1.len cc1] 31) := ⟨_, rfl⟩
        have hb2 : Below w1.heap.size w1 w2 := by rw [hw2]; exact (Below.refl _ _).alloc (Nat.le_refl _) _
        have HBn2 := Lib.hid (show NdB w2 w1.heap.size (.int .i64 op1) (.int .i64 ln1) (.string t1) (.int .i64 k1) (.int .i64 m1) (.string u1) (.slice va1 0 vc1) (.slice A1 sub1.len cc1) by rw [hw2]; exact NdB.new _ _ _ _ _ _ _ _ _)
        have hs2 : w2.heap.size = w1.heap.size + 1 := by rw [hw2]; simp
        have HM2 := Lib.hid (HM1.out.below hb2)
        have HBr2 := Lib.hid (HBr1.out.below' hb2)
        have HOx12 := Lib.hid ((HO1.out.wide (D' := DG wa.heap.size w1.heap.size) (fun k hk hk2 => ⟨hk.1, by omega⟩)).below hb2)
        have HW2 := Lib.hid hw2
        clear hw2 hb2
        go_wp2_with fail
        rw [← HW2.out]
        refine (is_t HM2.out.st (s := ⟨#[61]⟩) (L := [61]) rfl HB.out).mono ?_
        rintro e3 w3 ⟨rfl, hm3⟩
        have HM3 := Lib.hid (HM2.out.trans hm3)
        have hs3 := hm3.grown.size
        have HBr3 := Lib.hid (NdB.grown HBr2.out hm3.grown (show X.P < w.heap.size by omega))
        have HBn3 := Lib.hid (NdB.grown HBn2.out hm3.grown (show X.P < w1.heap.size by omega))
        have HOx13 := Lib.hid (OwnN.grown HOx12.out hm3.grown (DG.not (by omega)))
        clear hm3
        have c1_0 := HBn3.out.c0
        have c1_1 := HBn3.out.c1
        have c1_2 := HBn3.out.c2
        have c1_3 := HBn3.out.c3
        have c1_4 := HBn3.out.c4
        have c1_5 := HBn3.out.c5
        have c1_6 := HBn3.out.c6
        have c1_7 := HBn3.out.c7
        go_wp2_with fail
        refine (target_pc op1 ln1 t1 k1 m1 u1 va1 vc1 (.slice A1 sub1.len cc1) sub1 (DG wa.heap.size w1.heap.size) w3 hk1.out HOx13.out (fun k hk => ⟨by omega, by omega⟩) (by omega)).mono ?_
        rintro e4 w4 ⟨hto4, hb4⟩
        rw [HT.out] at hto4
        have hsp := targetS_nd HT.out
        obtain ⟨VT, hte, hto⟩ := hto4
        subst hte
        obtain ⟨AT, CT, rfl⟩ := hto.form
        have HOT := Lib.hid hto
        clear hto
        have hk9 : okN tl := by rcases hsp with ⟨_, h⟩ | ⟨_, h⟩ <;> rw [h]; exact hk1.out; exact okN_kids hk1.out
        have HKT := Lib.hid hk9
        clear hk9
        have hltl : tl.len ≤ 2 * F + 10 := by rcases hsp with ⟨_, h⟩ | ⟨_, h⟩ <;> rw [h]; rw [len_nd]; omega; exact hl1
        have ho0 : (o == 0) = false := by rcases hsp with ⟨h, _⟩ | ⟨h, _⟩ <;> rw [h] <;> decide
        have hoo : o = 20 ∨ o = 26 → (0 : Nat) ≠ 0 := by rcases hsp with ⟨h, _⟩ | ⟨h, _⟩ <;> rw [h] <;> (intro h2; rcases h2 with h2 | h2 <;> cases h2)
        have HOO := Lib.hid hoo
        clear hoo hsp
        have hs4 := hb4.size
        have HM4 := Lib.hid (HM3.out.below hb4)
        have HBr4 := Lib.hid (HBr3.out.below' hb4)
        have HBn4 := Lib.hid (HBn3.out.below' hb4)
        clear hb4
        obtain ⟨ev, hP, hE⟩ := HM4.out.st.at_
        have c1 := hP.c1
        have f1 := hP.fr 1
        clear hP hE
        go_wp2_with fail
        have HMn5 := Lib.hid (HM4.out.next hlt)
        obtain ⟨w5, hw5⟩ : ∃ W, W = w4.setCell ⟨X.P, 1, none⟩ (.int .i64 (p1.pos + 1 : Nat)) := ⟨_, rfl⟩
        have hg5 : w4.grownBy w5 (some X.P) := by rw [hw5]; exact only_set1 _ _ _ _
        have HM5 := Lib.hid (show Mvd w w5 X (nextS p1) by rw [hw5]; exact HMn5.out)
        have hs5 := hg5.size
        have HBr5 := Lib.hid (NdB.grown HBr4.out hg5 (show X.P < w.heap.size by omega))
        have HBn5 := Lib.hid (NdB.grown HBn4.out hg5 (show X.P < w1.heap.size by omega))
        have HOt5 := Lib.hid (OwnN.grown HOT.out hg5 (DG.not (by omega)))
        have HW5 := Lib.hid hw5
        clear hw5 hg5 HMn5 c1 f1
        try rw [show ((p1.pos : Int) + 1) = ((p1.pos + 1 : Nat) : Int) from by omega]
        rw [← HW5.out]
        refine (down_t HM5.out.st (by first | omega | (simp <;> omega)) (by first | omega | (simp <;> omega)) HD.out).mono ?_
        rintro e6 w6 ⟨rfl, hm6⟩
        have HM6 := Lib.hid (HM5.out.trans hm6)
        have hs6 := hm6.grown.size
        have HBr6 := Lib.hid (NdB.grown HBr5.out hm6.grown (show X.P < w.heap.size by omega))
        have HBn6 := Lib.hid (NdB.grown HBn5.out hm6.grown (show X.P < w1.heap.size by omega))
        have HOt6 := Lib.hid (OwnN.grown HOt5.out hm6.grown (DG.not (by omega)))
        clear hm6
        go_wp2_with fail
        refine (IH.out.expr F (Nat.le_refl _) w6 _ _ HM6.out.st (by first | omega | (simp <;> omega)) (by first | omega | (simp <;> omega)) HQ2.out).mono ?_
        rintro e7 w7 ⟨op7, ln7, t7, k7, m7, u7, va7, vc7, V7, sub7, hn7, rfl, hm7, ho7, hk7, hl7, hd7⟩
        obtain ⟨A7, cc7, rfl⟩ := ho7.form
        have hn7 : n2 = nd op7 ln7 t7 k7 m7 u7 sub7 := hn7
        subst hn7
        have hk7 := Lib.hid hk7
        have hd7 : p2.deep = p.deep + 1 := by have h : p2.deep = (downS (nextS p1)).deep := hd7; (try simp at h); omega
        have HM7 := Lib.hid (HM6.out.trans hm7)
        have hs7 := hm7.grown.size
        have HBr7 := Lib.hid (NdB.grown HBr6.out hm7.grown (show X.P < w.heap.size by omega))
        have HBn7 := Lib.hid (NdB.grown HBn6.out hm7.grown (show X.P < w1.heap.size by omega))
        have HOt7 := Lib.hid (OwnN.grown HOt6.out hm7.grown (DG.not (by omega)))
        have HO7 := Lib.hid (ho7.wide (D' := DG w6.heap.size 0) (fun k hk hk2 => ⟨hk, by omega⟩))
        clear hm7 ho7
        unfold nd8
        have VLT := Lib.hid (fun g (hg : (.slice AT tl.len CT : Value).ownBlock = some g) => (HOT.out.ge g hg).2)
        have APP := Lib.hid (app_at0 HOt7.out HO7.out op7 ln7 t7 k7 m7 u7 va7 vc7 (by omega) (by omega) (by omega) (by omega) (fun g hg => by have := VLT.out g hg; omega))
        go_wp2_with (at_builtin; refine wpList_app_nodes rfl (.tmp 31) (.tmp 34) 29 rfl Tryz.underlying29 hi0 hz0 hz1 hz2 rfl rfl APP.out.1 rfl rfl APP.out.2 (fun e => by cases e) (by simp only [len_nd]; omega) (by refine ⟨?_, ?_⟩ <;> (rw [World.size_alloc]; omega)) ?_; intro A9 c9 w9 hown9 hg9 hob9; have AE := app_end0 HM7.out HOt7.out (by omega) (by omega) hg9; have HMA := Lib.hid AE.1; have hs9 := AE.2.1; have HFA := Lib.hid AE.2.2; have HO9 := Lib.hid hown9; clear AE hown9 hg9 hob9)
        have HBr8 := Lib.hid (HFA.out _ _ _ _ _ _ _ _ _ (by omega) HBr7.out)
        have HBn8 := Lib.hid (HFA.out _ _ _ _ _ _ _ _ _ (by omega) HBn7.out)
        refine (up_c X _ _ HMA.out.st (by first | omega | (simp <;> omega)) (by first | omega | (simp <;> omega))).mono ?_
        rintro e9 w9 ⟨rfl, hm9⟩
        have HM9 := Lib.hid (HMA.out.trans hm9)
        have hs9 := hm9.grown.size
        have HBr9 := Lib.hid (NdB.grown HBr8.out hm9.grown (show X.P < w.heap.size by omega))
        have HBn9 := Lib.hid (NdB.grown HBn8.out hm9.grown (show X.P < w1.heap.size by omega))
        have HOt9 := Lib.hid (OwnN.grown HO9.out hm9.grown (DG.not (by omega)))
        clear hm9
        have c2_0 := HBn9.out.c0
        have c2_1 := HBn9.out.c1
        have c2_2 := HBn9.out.c2
        have c2_3 := HBn9.out.c3
        have c2_4 := HBn9.out.c4
        have c2_5 := HBn9.out.c5
        have c2_6 := HBn9.out.c6
        have c2_7 := HBn9.out.c7
        have c3_0 := HBr9.out.c0
        have f3_0 := HBr9.out.fr 0
        have c3_1 := HBr9.out.c1
        have f3_1 := HBr9.out.fr 1
        have c3_2 := HBr9.out.c2
        have f3_2 := HBr9.out.fr 2
        have c3_3 := HBr9.out.c3
        have f3_3 := HBr9.out.fr 3
        have c3_4 := HBr9.out.c4
        have f3_4 := HBr9.out.fr 4
        have c3_5 := HBr9.out.c5
        have f3_5 := HBr9.out.fr 5
        have c3_6 := HBr9.out.c6
        have f3_6 := HBr9.out.fr 6
        have c3_7 := HBr9.out.c7
        have f3_7 := HBr9.out.fr 7
        go_wp2_with fail
        refine ret_cell8 Tryz.results26 w.heap.size rfl rfl (HBr9.out.set8 _ _ _ _ _ _ _ _) ?_
        exact PNd.mk o ln1 ⟨#[]⟩ 0 0 ⟨#[]⟩ none 0 _ _ _ HRR.out (HM9.out.node HBr9.out (by omega) (by omega) (only_set8 _ _ _ _ _ _ _ _ _ _)) (own_end HOt9.out (by omega) (only_set8 _ _ _ _ _ _ _ _ _ _) (by omega)) (okN_nd (okN_app _ _ HKT.out hk7.out) (fun h => absurd rfl (HOO.out h))) (by simp only [NL.len_app, len_nd]; omega) (by first | omega | (simp <;> omega))
end Go.Proofs.YtggngahmafbihaaGreatDoor
