/- Contracts of the functions that the statement reaches, and the plain mathematics beneath: several texts joined. -/
import Derived.Test.YtggngahmafbihaaGreatDoorPbiAL
namespace Go.Proofs.YtggngahmafbihaaGreatDoor
open Go.RowKit Go.Lib
set_option linter.unusedVariables false

set_option maxRecDepth 100000 in
set_option maxHeartbeats 8000000 in
theorem codes_step (X : PCtx) (F : Nat) (hF : F ≤ 1000000000) (ih : EC X F) : NodeC X 111 #[] .codes (F + 1) := by
  intro w p r hst h0 h1 hr
  rw [prsR] at hr
  have hPl := hst.lt
  have hlen := hst.len
  obtain ⟨i0, hi0, hz0, hz1, hz2⟩ := info_parts pnode_info
  have IH := Lib.hid ih
  clear ih
  cases hb : isS X.l p [97, 110, 121] with
  | true =>
    rw [hb] at hr
    have HB := Lib.hid hb
    clear hb
    replace hr : some (ndL 25 (lineS X.l p) .nil, nextS p) = some r := hr
    have HRR := Lib.hid (show r = (ndL 25 (lineS X.l p) .nil, nextS p) from (Option.some.inj hr).symm)
    clear hr
    obtain ⟨wa, hwa⟩ : ∃ wa, wa = (w).alloc (.cells #[.int .i64 0, .int .i64 0, .string ⟨#[]⟩, .int .i64 0, .int .i64 0, .string ⟨#[]⟩, .slice none 0 0, .slice none 0 0] 31) := ⟨_, rfl⟩
    have HMa := Lib.hid (show Mvd w wa X p by rw [hwa]; exact ((Mvd.of hst).alloc _))
    have hsa : wa.heap.size = w.heap.size + 1 := by rw [hwa]; simp
    have HZr := Lib.hid (show zN wa w.heap.size by rw [hwa]; exact (zN.new w))
    have HWA := Lib.hid hwa
    clear hwa
    go_enter Tryz.func111, Tryz.ntmps111
    go_wp2_with fail
    rw [← HWA.out]
    refine (line_t HMa.out.st).mono ?_
    rintro e1 w1 ⟨rfl, hm1⟩
    have HM1 := Lib.hid (HMa.out.trans hm1)
    have hs1 := hm1.grown.size
    have HBr1 := Lib.hid (NdB.grown HZr.out hm1.grown (show X.P < w.heap.size by omega))
    clear hm1
    obtain ⟨w2, hw2⟩ : ∃ w2, w2 = (w1.alloc (.cells #[.int .i64 25, .int .i64 (lineS X.l p), .string ⟨#[]⟩, .int .i64 0, .int .i64 0, .string ⟨#[]⟩, .slice none 0 0, .slice none 0 0] 31)) := ⟨_, rfl⟩
    have hb2 : Below w1.heap.size w1 w2 := by rw [hw2]; exact ((Below.refl _ _).alloc (Nat.le_refl _) _)
    have HBo2 := Lib.hid (show NdB w2 w1.heap.size (.int .i64 25) (.int .i64 (lineS X.l p)) (.string ⟨#[]⟩) (.int .i64 0) (.int .i64 0) (.string ⟨#[]⟩) (.slice none 0 0) (.slice none 0 0) by rw [hw2]; exact NdB.new _ _ _ _ _ _ _ _ _)
    have hs2 : w2.heap.size = w1.heap.size + 1 := by rw [hw2]; simp
    have HM2 := Lib.hid (HM1.out.below hb2)
    have HBr2 := Lib.hid (HBr1.out.below' hb2)
    have HW2 := Lib.hid hw2
    clear hw2 hb2
    go_wp2_with fail
    rw [← HW2.out]
    refine (may_t HM2.out.st (s := ⟨#[97, 110, 121]⟩) (L := [97, 110, 121]) rfl HB.out).mono ?_
    rintro e3 w3 ⟨rfl, hm3⟩
    have HM3 := Lib.hid (HM2.out.trans hm3)
    have hs3 := hm3.grown.size
    have HBr3 := Lib.hid (NdB.grown HBr2.out hm3.grown (show X.P < w.heap.size by omega))
    have HBo3 := Lib.hid (NdB.grown HBo2.out hm3.grown (show X.P < w1.heap.size by omega))
    clear hm3
    have c1_0 := HBo3.out.c0
    have c1_1 := HBo3.out.c1
    have c1_2 := HBo3.out.c2
    have c1_3 := HBo3.out.c3
    have c1_4 := HBo3.out.c4
    have c1_5 := HBo3.out.c5
    have c1_6 := HBo3.out.c6
    have c1_7 := HBo3.out.c7
    have c2_0 := HBr3.out.c0
    have f2_0 := HBr3.out.fr 0
    have c2_1 := HBr3.out.c1
    have f2_1 := HBr3.out.fr 1
    have c2_2 := HBr3.out.c2
    have f2_2 := HBr3.out.fr 2
    have c2_3 := HBr3.out.c3
    have f2_3 := HBr3.out.fr 3
    have c2_4 := HBr3.out.c4
    have f2_4 := HBr3.out.fr 4
    have c2_5 := HBr3.out.c5
    have f2_5 := HBr3.out.fr 5
    have c2_6 := HBr3.out.c6
    have f2_6 := HBr3.out.fr 6
    have c2_7 := HBr3.out.c7
    have f2_7 := HBr3.out.fr 7
    go_wp2_with fail
    refine ret_cell8 Tryz.results111 w.heap.size rfl rfl (HBr3.out.set8 _ _ _ _ _ _ _ _) ?_
    exact PNd.mk 25 (lineS X.l p) ⟨#[]⟩ 0 0 ⟨#[]⟩ none 0 (.slice none 0 0) .nil _ HRR.out (HM3.out.node HBr3.out (by omega) (by omega) (only_set8 _ _ _ _ _ _ _ _ _ _)) (OwnN.nil _ _) (okN_leaf (by decide) (by decide)) (Nat.zero_le _) (by first | omega | (simp <;> omega))
  | false =>
    rw [hb] at hr
    have HB := Lib.hid hb
    clear hb
    replace hr : ((prsR X.l F (.codesL .nil .nil) p).bind fun (x, p1) => some (ndL 25 (lineS X.l p) x, p1)) = some r := hr
    cases hq1 : prsR X.l F (.codesL .nil .nil) p with
    | none => rw [hq1] at hr; cases hr
    | some q1 =>
    obtain ⟨x1, p1⟩ := q1
    rw [hq1] at hr
    replace hr : some (ndL 25 (lineS X.l p) x1, p1) = some r := hr
    have HQ1 := Lib.hid hq1
    clear hq1
    have HRR := Lib.hid (show r = (ndL 25 (lineS X.l p) x1, p1) from (Option.some.inj hr).symm)
    clear hr
    obtain ⟨wa, hwa⟩ : ∃ wa, wa = (w).alloc (.cells #[.int .i64 0, .int .i64 0, .string ⟨#[]⟩, .int .i64 0, .int .i64 0, .string ⟨#[]⟩, .slice none 0 0, .slice none 0 0] 31) := ⟨_, rfl⟩
    have HMa := Lib.hid (show Mvd w wa X p by rw [hwa]; exact ((Mvd.of hst).alloc _))
    have hsa : wa.heap.size = w.heap.size + 1 := by rw [hwa]; simp
    have HZr := Lib.hid (show zN wa w.heap.size by rw [hwa]; exact (zN.new w))
    have HWA := Lib.hid hwa
    clear hwa
    go_enter Tryz.func111, Tryz.ntmps111
    go_wp2_with fail
    rw [← HWA.out]
    refine (line_t HMa.out.st).mono ?_
    rintro e1 w1 ⟨rfl, hm1⟩
    have HM1 := Lib.hid (HMa.out.trans hm1)
    have hs1 := hm1.grown.size
    have HBr1 := Lib.hid (NdB.grown HZr.out hm1.grown (show X.P < w.heap.size by omega))
    clear hm1
    obtain ⟨w2, hw2⟩ : ∃ w2, w2 = (w1.alloc (.cells #[.int .i64 25, .int .i64 (lineS X.l p), .string ⟨#[]⟩, .int .i64 0, .int .i64 0, .string ⟨#[]⟩, .slice none 0 0, .slice none 0 0] 31)) := ⟨_, rfl⟩
    have hb2 : Below w1.heap.size w1 w2 := by rw [hw2]; exact ((Below.refl _ _).alloc (Nat.le_refl _) _)
    have HBo2 := Lib.hid (show NdB w2 w1.heap.size (.int .i64 25) (.int .i64 (lineS X.l p)) (.string ⟨#[]⟩) (.int .i64 0) (.int .i64 0) (.string ⟨#[]⟩) (.slice none 0 0) (.slice none 0 0) by rw [hw2]; exact NdB.new _ _ _ _ _ _ _ _ _)
    have hs2 : w2.heap.size = w1.heap.size + 1 := by rw [hw2]; simp
    have HM2 := Lib.hid (HM1.out.below hb2)
    have HBr2 := Lib.hid (HBr1.out.below' hb2)
    have HW2 := Lib.hid hw2
    clear hw2 hb2
    go_wp2_with fail
    rw [← HW2.out]
    refine (may_f HM2.out.st (s := ⟨#[97, 110, 121]⟩) (L := [97, 110, 121]) rfl HB.out).mono ?_
    rintro e3 w3 ⟨rfl, hm3⟩
    have HM3 := Lib.hid (HM2.out.trans hm3)
    have hs3 := hm3.grown.size
    have HBr3 := Lib.hid (NdB.grown HBr2.out hm3.grown (show X.P < w.heap.size by omega))
    have HBo3 := Lib.hid (NdB.grown HBo2.out hm3.grown (show X.P < w1.heap.size by omega))
    clear hm3
    have HO0 := Lib.hid (OwnN.nil w3 (DG w2.heap.size w1.heap.size))
    go_wp2_with fail
    go_loopg [] F (fun kk wr => ∃ (V : Value) (q : PS) (acc : NL), acc.len + kk ≤ F ∧ q.deep = p.deep ∧ w3.heap.size ≤ wr.heap.size ∧ Hid (Mvd w wr X q) ∧ Hid (zN wr w.heap.size) ∧ Hid (NdB wr w1.heap.size (.int .i64 25) (.int .i64 (lineS X.l p)) (.string ⟨#[]⟩) (.int .i64 0) (.int .i64 0) (.string ⟨#[]⟩) (.slice none 0 0) V) ∧ Hid (OwnN wr (DG w2.heap.size w1.heap.size) V acc) ∧ Hid (okN acc) ∧ Hid (prsR X.l kk (.codesL .nil acc) q = some (x1, p1)))
    case atStart => exact ⟨_, p, .nil, by show 0 + F ≤ _; omega, rfl, Nat.le_refl _, HM3, HBr3, HBo3, HO0, trivial, HQ1⟩
    case round =>
      obtain ⟨V, q, acc, hal, hqd, hs0, HM, HR, HN, HO, HK, HQ⟩ := hrel
      obtain ⟨AV, CV, hVf⟩ := HO.out.form
      subst hVf
      cases gk with
      | zero => have h := HQ.out; rw [prsR] at h; cases h
      | succ k =>
      have hr := HQ.out
      rw [prsR] at hr
      obtain ⟨ev, hP, hE⟩ := HM.out.st.at_
      have c3 := hP.c3
      clear HQ
      cases he : q.err with
      | some x =>
        rw [he] at hE
        obtain ⟨ty, ve, rfl⟩ := errv_some hE
        replace hr : some (acc, q) = some (x1, p1) := by rw [← hr]; simp only [he]; rfl
        have hx := Option.some.inj hr
        have hx1 : acc = x1 := congrArg Prod.fst hx
        have hx2 : q = p1 := congrArg Prod.snd hx
        subst hx1
        subst hx2
        clear hP hE he hr hx
        have c1_0 := HN.out.c0
        have c1_1 := HN.out.c1
        have c1_2 := HN.out.c2
        have c1_3 := HN.out.c3
        have c1_4 := HN.out.c4
        have c1_5 := HN.out.c5
        have c1_6 := HN.out.c6
        have c1_7 := HN.out.c7
        have c2_0 := HR.out.c0
        have f2_0 := HR.out.fr 0
        have c2_1 := HR.out.c1
        have f2_1 := HR.out.fr 1
        have c2_2 := HR.out.c2
        have f2_2 := HR.out.fr 2
        have c2_3 := HR.out.c3
        have f2_3 := HR.out.fr 3
        have c2_4 := HR.out.c4
        have f2_4 := HR.out.fr 4
        have c2_5 := HR.out.c5
        have f2_5 := HR.out.fr 5
        have c2_6 := HR.out.c6
        have f2_6 := HR.out.fr 6
        have c2_7 := HR.out.c7
        have f2_7 := HR.out.fr 7
        go_wp2_with fail
        refine ret_cell8 Tryz.results111 w.heap.size rfl rfl (HR.out.set8 _ _ _ _ _ _ _ _) ?_
        exact PNd.mk 25 (lineS X.l p) ⟨#[]⟩ 0 0 ⟨#[]⟩ none 0 _ acc _ HRR.out (HM.out.node HR.out (by omega) (by omega) (only_set8 _ _ _ _ _ _ _ _ _ _)) (own_end (w0 := w.heap.size) (g := w.heap.size) HO.out (by omega) (only_set8 _ _ _ _ _ _ _ _ _ _) (by omega)) (okN_nd HK.out (fun h => by rcases h with h | h <;> cases h)) (by omega) (by first | omega | (simp <;> omega))
      | none =>
        rw [he] at hE
        obtain rfl : ev = .nilIface := hE
        replace hr : ((prsR X.l k .expr q).bind fun (x, p) => if isS X.l p [44] then prsR X.l k (.codesL .nil (acc.app x)) (nextS p) else some (acc.app x, p)) = some (x1, p1) := by rw [← hr]; simp only [he]; rfl
        clear hP he
        cases hq5 : prsR X.l k .expr q with
        | none => rw [hq5] at hr; cases hr
        | some q5 =>
        obtain ⟨n5, p5⟩ := q5
        rw [hq5] at hr
        replace hr : (if isS X.l p5 [44] then prsR X.l k (.codesL .nil (acc.app n5)) (nextS p5) else some (acc.app n5, p5)) = some (x1, p1) := hr
        have HQ5 := Lib.hid hq5
        clear hq5
        cases hc : isS X.l p5 [44] with
        | true =>
          rw [hc] at hr
          have HC := Lib.hid hc
          clear hc
          have HQ2 := Lib.hid (show prsR X.l k (.codesL .nil (acc.app n5)) (nextS p5) = some (x1, p1) from hr)
          clear hr
          go_wp2_with fail
          go_upto_region 5 with fail
          go_cut [] (fun wx21 => AppR X w wr p5 w2.heap.size w1.heap.size (.int .i64 25) (.int .i64 (lineS X.l p)) (.string ⟨#[]⟩) (.int .i64 0) (.int .i64 0) (.string ⟨#[]⟩) (.slice none 0 0) acc n5 1 (p.deep + 0) wx21)
          case first =>
            have c7 := HN.out.c7
            have vlt := Lib.hid (fun g (hg : (.slice AV acc.len CV : Value).ownBlock = some g) => (HO.out.ge g hg).2)
            have EXC := Lib.hid (fun W (hW : PSt W X q) => IH.out.expr k (by omega) W _ _ hW (by first | omega | (simp <;> omega)) (by first | omega | (simp <;> omega)) HQ5.out)
            have HSD := Lib.hid (show PSt wr.drew X q from HM.out.st.below (Below.drew (Below.refl _ _)))
            have HMD := Lib.hid (show Mvd w wr.drew X q from HM.out.drew)
            go_region_law
              (first
                | (refine step_app_nodes (by rfl) (.tmp 16) (.tmp 19) 29 (by rfl) Tryz.underlying29 hi0 hz0 hz1 hz2 (by rfl) (by rfl) APP.out.1 (by rfl) (by rfl) APP.out.2 (fun e => by cases e) (by first | (simp only [len_nd]; omega) | (simp only [NL.len_app, len_nd]; omega) | (simp only [len_nd, NL.len]; omega) | (simp only [NL.len_app, len_nd, NL.len]; omega)) (by refine ⟨?_, ?_⟩ <;> (rw [World.size_alloc]; omega)) ?_
                   intro A9 c9 w9 hown9 hg9 hob9
                   have k7 : w9.cell? ⟨w1.heap.size, 7, none⟩ = some (.slice AV acc.len CV) := ((HN.out.alloc _).app hg9 (fun e => (HO.out.ge _ e).1.2 rfl)).c7
                   have j7 : w9.frozen? ⟨w1.heap.size, 7, none⟩ = false := ((HN.out.alloc _).app hg9 (fun e => (HO.out.ge _ e).1.2 rfl)).fr 7)
                | (go_simp; go_at_call 26; refine (EXC.out _ HSD.out).mono ?_
                   rintro e9 w8 ⟨op, ln, t, k, m, u, va, vc, V, sub, hn, rfl, hm, ho, hk, hl, hd⟩
                   obtain ⟨A8, c8, rfl⟩ := ho.form
                   have hn' : n5 = nd op ln t k m u sub := hn
                   have HK := Lib.hid (show okN n5 ∧ (n5).len ≤ 1 from ⟨hk, by rw [hn', len_nd]; exact Nat.le_refl _⟩)
                   have HNN := Lib.hid hn'
                   have HDD := Lib.hid (show p5.deep = p.deep + 0 by have h : p5.deep = q.deep := hd; (try simp at h); omega)
                   have HG := Lib.hid (show wr.grownBy w8 (some X.P) from ⟨hm.grown.os, hm.grown.tape, hm.grown.output, hm.grown.size, hm.grown.block⟩)
                   have HM := Lib.hid (HMD.out.trans hm)
                   have hs8 : wr.heap.size ≤ w8.heap.size := hm.grown.size
                   have HN := Lib.hid (NdB.grown (w := wr) HN.out HG.out (show X.P < w1.heap.size by omega))
                   have HO := Lib.hid (OwnN.grown (w := wr) HO.out HG.out (DG.not (by omega)))
                   have APP := Lib.hid (app_at HO.out ho op ln t k m u va vc (by show _ ≤ wr.heap.size; omega) (by show _ < wr.heap.size; omega) (by show wr.heap.size ≤ _; omega) vlt.out)
                   have c7_8 := HN.out.c7
                   have c7_9 := fun o => cellA c7_8 o
                   clear hn hn' hm ho hk hl hd
                   unfold nd8))
            all_goals
              go_wp2_with fail
              go_meet
              exact app_rel HG.out HM.out HN.out HO.out (by omega) (by omega) (by omega) (by omega) (by rw [HNN.out]; exact hown9) hg9 HK.out.2 HK.out.1 HDD.out
          case rest =>
            obtain ⟨V21, hm21, hd21, hn21, ho21, hx21, hk21, hs21, hf21⟩ := hcut
            obtain ⟨A21, c21, rfl⟩ := ho21.form
            have HM21 := Lib.hid hm21
            have HBo21 := Lib.hid hn21
            have HOo21 := Lib.hid ho21
            have HX21 := Lib.hid hk21
            have HBr21 := Lib.hid (hf21 _ _ _ _ _ _ _ _ _ (by omega) (by omega) (by omega) HR.out)
            clear hm21 hn21 ho21 hk21 hf21
            go_wp2_with fail
            refine (may_t HM21.out.st (s := ⟨#[44]⟩) (L := [44]) rfl HC.out).mono ?_
            rintro e22 w22 ⟨rfl, hm22⟩
            have HM22 := Lib.hid (HM21.out.trans hm22)
            have hs22 := hm22.grown.size
            have HBr22 := Lib.hid (NdB.grown HBr21.out hm22.grown (show X.P < w.heap.size by omega))
            have HBo22 := Lib.hid (NdB.grown HBo21.out hm22.grown (show X.P < w1.heap.size by omega))
            have HOo22 := Lib.hid (OwnN.grown HOo21.out hm22.grown (DG.not (by omega)))
            clear hm22
            go_wp2_with fail
            go_roundg k
            case measure => omega
            case rel => exact ⟨_, (nextS p5), (acc.app n5), by rw [NL.len_app]; omega, by (first | omega | (simp <;> omega)), by omega, HM22, HBr22, HBo22, HOo22, Lib.hid (okN_app _ _ HK.out HX21.out), HQ2⟩
        | false =>
          rw [hc] at hr
          have HC := Lib.hid hc
          clear hc
          have hx := Option.some.inj (show some (acc.app n5, p5) = some (x1, p1) from hr)
          have hx1 : acc.app n5 = x1 := congrArg Prod.fst hx
          have hx2 : p5 = p1 := congrArg Prod.snd hx
          subst hx1
          subst hx2
          clear hr hx
          go_wp2_with fail
          go_upto_region 5 with fail
          go_cut [] (fun wx21 => AppR X w wr p5 w2.heap.size w1.heap.size (.int .i64 25) (.int .i64 (lineS X.l p)) (.string ⟨#[]⟩) (.int .i64 0) (.int .i64 0) (.string ⟨#[]⟩) (.slice none 0 0) acc n5 1 (p.deep + 0) wx21)
          case first =>
            have c7 := HN.out.c7
            have vlt := Lib.hid (fun g (hg : (.slice AV acc.len CV : Value).ownBlock = some g) => (HO.out.ge g hg).2)
            have EXC := Lib.hid (fun W (hW : PSt W X q) => IH.out.expr k (by omega) W _ _ hW (by first | omega | (simp <;> omega)) (by first | omega | (simp <;> omega)) HQ5.out)
            have HSD := Lib.hid (show PSt wr.drew X q from HM.out.st.below (Below.drew (Below.refl _ _)))
            have HMD := Lib.hid (show Mvd w wr.drew X q from HM.out.drew)
            go_region_law
              (first
                | (refine step_app_nodes (by rfl) (.tmp 16) (.tmp 19) 29 (by rfl) Tryz.underlying29 hi0 hz0 hz1 hz2 (by rfl) (by rfl) APP.out.1 (by rfl) (by rfl) APP.out.2 (fun e => by cases e) (by first | (simp only [len_nd]; omega) | (simp only [NL.len_app, len_nd]; omega) | (simp only [len_nd, NL.len]; omega) | (simp only [NL.len_app, len_nd, NL.len]; omega)) (by refine ⟨?_, ?_⟩ <;> (rw [World.size_alloc]; omega)) ?_
                   intro A9 c9 w9 hown9 hg9 hob9
                   have k7 : w9.cell? ⟨w1.heap.size, 7, none⟩ = some (.slice AV acc.len CV) := ((HN.out.alloc _).app hg9 (fun e => (HO.out.ge _ e).1.2 rfl)).c7
                   have j7 : w9.frozen? ⟨w1.heap.size, 7, none⟩ = false := ((HN.out.alloc _).app hg9 (fun e => (HO.out.ge _ e).1.2 rfl)).fr 7)
                | (go_simp; go_at_call 26; refine (EXC.out _ HSD.out).mono ?_
                   rintro e9 w8 ⟨op, ln, t, k, m, u, va, vc, V, sub, hn, rfl, hm, ho, hk, hl, hd⟩
                   obtain ⟨A8, c8, rfl⟩ := ho.form
                   have hn' : n5 = nd op ln t k m u sub := hn
                   have HK := Lib.hid (show okN n5 ∧ (n5).len ≤ 1 from ⟨hk, by rw [hn', len_nd]; exact Nat.le_refl _⟩)
                   have HNN := Lib.hid hn'
                   have HDD := Lib.hid (show p5.deep = p.deep + 0 by have h : p5.deep = q.deep := hd; (try simp at h); omega)
                   have HG := Lib.hid (show wr.grownBy w8 (some X.P) from ⟨hm.grown.os, hm.grown.tape, hm.grown.output, hm.grown.size, hm.grown.block⟩)
                   have HM := Lib.hid (HMD.out.trans hm)
                   have hs8 : wr.heap.size ≤ w8.heap.size := hm.grown.size
                   have HN := Lib.hid (NdB.grown (w := wr) HN.out HG.out (show X.P < w1.heap.size by omega))
                   have HO := Lib.hid (OwnN.grown (w := wr) HO.out HG.out (DG.not (by omega)))
                   have APP := Lib.hid (app_at HO.out ho op ln t k m u va vc (by show _ ≤ wr.heap.size; omega) (by show _ < wr.heap.size; omega) (by show wr.heap.size ≤ _; omega) vlt.out)
                   have c7_8 := HN.out.c7
                   have c7_9 := fun o => cellA c7_8 o
                   clear hn hn' hm ho hk hl hd
                   unfold nd8))
            all_goals
              go_wp2_with fail
              go_meet
              exact app_rel HG.out HM.out HN.out HO.out (by omega) (by omega) (by omega) (by omega) (by rw [HNN.out]; exact hown9) hg9 HK.out.2 HK.out.1 HDD.out
          case rest =>
            obtain ⟨V21, hm21, hd21, hn21, ho21, hx21, hk21, hs21, hf21⟩ := hcut
            obtain ⟨A21, c21, rfl⟩ := ho21.form
            have HM21 := Lib.hid hm21
            have HBo21 := Lib.hid hn21
            have HOo21 := Lib.hid ho21
            have HX21 := Lib.hid hk21
            have HBr21 := Lib.hid (hf21 _ _ _ _ _ _ _ _ _ (by omega) (by omega) (by omega) HR.out)
            clear hm21 hn21 ho21 hk21 hf21
            go_wp2_with fail
            refine (may_f HM21.out.st (s := ⟨#[44]⟩) (L := [44]) rfl HC.out).mono ?_
            rintro e22 w22 ⟨rfl, hm22⟩
            have HM22 := Lib.hid (HM21.out.trans hm22)
            have hs22 := hm22.grown.size
            have HBr22 := Lib.hid (NdB.grown HBr21.out hm22.grown (show X.P < w.heap.size by omega))
            have HBo22 := Lib.hid (NdB.grown HBo21.out hm22.grown (show X.P < w1.heap.size by omega))
            have HOo22 := Lib.hid (OwnN.grown HOo21.out hm22.grown (DG.not (by omega)))
            clear hm22
            have c1_0 := HBo22.out.c0
            have c1_1 := HBo22.out.c1
            have c1_2 := HBo22.out.c2
            have c1_3 := HBo22.out.c3
            have c1_4 := HBo22.out.c4
            have c1_5 := HBo22.out.c5
            have c1_6 := HBo22.out.c6
            have c1_7 := HBo22.out.c7
            have c2_0 := HBr22.out.c0
            have f2_0 := HBr22.out.fr 0
            have c2_1 := HBr22.out.c1
            have f2_1 := HBr22.out.fr 1
            have c2_2 := HBr22.out.c2
            have f2_2 := HBr22.out.fr 2
            have c2_3 := HBr22.out.c3
            have f2_3 := HBr22.out.fr 3
            have c2_4 := HBr22.out.c4
            have f2_4 := HBr22.out.fr 4
            have c2_5 := HBr22.out.c5
            have f2_5 := HBr22.out.fr 5
            have c2_6 := HBr22.out.c6
            have f2_6 := HBr22.out.fr 6
            have c2_7 := HBr22.out.c7
            have f2_7 := HBr22.out.fr 7
            go_wp2_with fail
            refine ret_cell8 Tryz.results111 w.heap.size rfl rfl (HBr22.out.set8 _ _ _ _ _ _ _ _) ?_
            exact PNd.mk 25 (lineS X.l p) ⟨#[]⟩ 0 0 ⟨#[]⟩ none 0 _ (acc.app n5) _ HRR.out (HM22.out.node HBr22.out (by omega) (by omega) (only_set8 _ _ _ _ _ _ _ _ _ _)) (own_end (w0 := w.heap.size) (g := w.heap.size) HOo22.out (by omega) (only_set8 _ _ _ _ _ _ _ _ _ _) (by omega)) (okN_nd (okN_app _ _ HK.out HX21.out) (fun h => by rcases h with h | h <;> cases h)) (by rw [NL.len_app]; omega) (by first | omega | (simp <;> omega))
end Go.Proofs.YtggngahmafbihaaGreatDoor
