/-
  The reference's reader: err.
-/
import Derived.Test.YtoemnccklakkeaaDoorLrD
import Derived.Test.YtoemnccklakkeaaDoorCode
namespace Go.Proofs.YtoemnccklakkeaaDoor
open Go.RowKit Go.Lib
set_option linter.unusedVariables false

/-- A name of an error, as a value. -/
def errSp (s : ByteArray) (i : Nat) : Nat × Bool × VL := ((codeSp s i).1, (codeSp s i).2.1, val1 3 (codeSp s i).2.2 ByteArray.empty .nil)

theorem PRef.err {w w6 : World} {R : Nat} {s : ByteArray} {j : Nat} {b cb : Bool} {x cv : Int} (hb : b = cb) (hr : Rrs w w6 R s j) (hRl : R < w.heap.size) (hv : b = true → x = cv) :
    PRef w R s (j, b, val1 3 x ByteArray.empty .nil) (.returned (.tuple #[.agg #[.int .i64 3, .int .i64 cv, .string ⟨#[]⟩, .slice none 0 0], .bool cb])) ((((w6.setCell ⟨w.heap.size, 0, none⟩ (.int .i64 3)).setCell ⟨w.heap.size, 1, none⟩ (.int .i64 cv)).setCell ⟨w.heap.size, 2, none⟩ (.string ⟨#[]⟩)).setCell ⟨w.heap.size, 3, none⟩ (.slice none 0 0)) :=
  ⟨3, cv, ⟨#[]⟩, none, 0, 0, by rw [hb], hr.far4 (Nat.le_refl _) hRl _ _ _ _, fun h => ⟨.nil, by rw [hv h]; rfl, rfl, Nat.le_refl _, trivial⟩⟩

set_option maxRecDepth 100000 in
set_option maxHeartbeats 4000000 in
theorem err_c (R : Nat) (s : ByteArray) (i : Nat) (w : World) (h : RrAt w R s i) (hs : s.size ≤ 1000000000) (hi : i ≤ s.size) :
    Calls Tryd.prog 69 #[.pointer (some ⟨R, 0, none⟩)] w (PRef w R s (errSp s i)) := by
  have hRl := h.lt
  have c1 := h.c1
  obtain ⟨F, hF⟩ : ∃ F : Nat, (codeTo s i 15).2.2 = (F : Int) := ⟨(codeTo s i 15).2.2.toNat, by have := (codeTo_range s i 15 (Nat.le_refl _)).2.2.1; omega⟩
  have hFr : F ≤ 20 ∧ i + F ≤ s.size := by have h1 := (codeTo_range s i 15 (Nat.le_refl _)).2.2.2; have h2 := (codeTo_room s i hi 15).2; omega
  have HEND := Lib.hid (err_end hi hF)
  have HGR := Lib.hid (fun m => grB_far s i m)
  have HFF := Lib.hid hF
  obtain ⟨wa, hwa⟩ : ∃ wa, wa = w.alloc (.cells #[.int .i64 0, .int .i64 0, .string ⟨#[]⟩, .slice none 0 0] 31) := ⟨_, rfl⟩
  have HA := Lib.hid (show Rrs w wa R s i by rw [hwa]; exact (Rrs.of h).alloc _)
  have HB2 := Lib.hid (show StB wa w.heap.size (.int .i64 0) (.int .i64 0) (.string ⟨#[]⟩) (.slice none 0 0) by rw [hwa]; exact StB.new w _ _ _ _)
  have a1 := HA.out.at_.c1
  rw [hwa] at a1
  have HW := Lib.hid hwa
  have NR := Lib.hid (fun (j : Nat) (hj : j < 15) (W : World) => name_r (j : Int) W (by omega) (by omega))
  clear hwa h hF
  go_enter Tryd.func69, Tryd.ntmps69
  go_wp2_with fail
  rw [← HW.out]
  clear a1 c1
  go_loopg [5, 6, 7, 8] (F + 1) (fun k v5 v6 v7 v8 wr => ∃ (j m : Nat), j = i + m ∧ m ≤ F ∧ F + 1 = m + k ∧ Hid (Rrs w wr R s j) ∧ Hid (StB wr w.heap.size (.int .i64 0) (.int .i64 0) (.string ⟨#[]⟩) (.slice none 0 0)))
  case atStart => exact ⟨i, 0, rfl, Nat.zero_le _, by omega, HA.out, HB2.out⟩
  case round =>
    obtain ⟨j, m, hjm, hm, hk, hr, hsb⟩ := hrel
    obtain ⟨f, rfl⟩ : ∃ f, gk = f + 1 := ⟨gk - 1, by omega⟩
    have d0 := hr.out.at_.c0
    have d1 := hr.out.at_.c1
    have df := hr.out.at_.fr 1
    have hij : (i : Int) ≤ (j : Int) := by omega
    have hjs : (j : Int) ≤ (s.size : Int) := by omega
    have hjn : i ≤ j := by omega
    have hjn2 : j ≤ s.size := by omega
    have HJM := Lib.hid hjm
    clear hjm
    go_wp2_with fail
    go_quiet (fail)
    obtain ⟨W0, hW0⟩ : ∃ W0, W0 = wr.drewN nq := ⟨_, rfl⟩
    obtain ⟨nw, hnw⟩ : ∃ nw, nw = s.extract i j := ⟨_, rfl⟩
    have hns : nw.size = m := by rw [hnw, ByteArray.size_extract]; have := HJM.out; omega
    rw [← hW0, ← hnw]
    have HR0 := Lib.hid (show Rrs w W0 R s j by rw [hW0]; exact hr.out.drewN _)
    have HS0 := Lib.hid (show StB W0 w.heap.size (.int .i64 0) (.int .i64 0) (.string ⟨#[]⟩) (.slice none 0 0) by rw [hW0]; exact hsb.out.drewN _)
    have HNW := Lib.hid hnw
    clear hW0 hnw d0 d1 df
    have d0 := HR0.out.at_.c0
    have d1 := HR0.out.at_.c1
    have df := HR0.out.at_.fr 1
    go_wp2_with fail
    go_loopg [6, 7, 8] 16 (fun k' v6 v7 v8 wv => ∃ (c n : Nat) (g : Bool), v6 = .bool g ∧ v7 = .int .i64 c ∧ c + k' = 16 ∧ c ≤ 15 ∧ (¬ j < s.size → c = 0) ∧ wv = W0.drewN n ∧ Hid (g = grB s i m c))
    case atStart => exact ⟨0, 0, false, rfl, rfl, rfl, by omega, fun _ => rfl, rfl, rfl⟩
    case round =>
      obtain ⟨c, n, g, rfl, rfl, hck, hc15, hc0, rfl, hg⟩ := hrel
      obtain ⟨f', rfl⟩ : ∃ f', gk = f' + 1 := ⟨gk - 1, by omega⟩
      have hexit : (j < s.size ∧ c = 15) ∨ ¬ j < s.size ∨ (j < s.size ∧ c < 15) := by omega
      rcases hexit with ⟨hj1, hc⟩ | hj1 | ⟨hj1, hc⟩
      · have hgF : g = decide (m < F) := by rw [hg.out, hc, HGR.out m, HFF.out]; congr 1; simp
        have t1 : decide ((c : Int) ≤ 14) = false := by rw [decide_eq_false_iff_not]; omega
        have t2 : decide (c ≤ 14) = false := by rw [decide_eq_false_iff_not]; omega
        by_cases hmF : m < F
        · rw [decide_eq_true hmF] at hgF
          subst hgF
          clear hc hc0
          go_wp2_with fail
          go_quiet (fail)
          go_wp2_with fail
          go_roundg f
          case measure => omega
          case rel => exact ⟨j + 1, m + 1, by have := HJM.out; omega, by omega, by omega, by first | exact (HR0.out.drewN _).set1 (j + 1) | exact (HR0.out.set1 (j + 1)).drewN _, by first | exact (HS0.out.drewN _).far (p := ⟨R, 1, none⟩) (by show w.heap.size ≠ R; omega) _ | exact (HS0.out.far (p := ⟨R, 1, none⟩) (by show w.heap.size ≠ R; omega) _).drewN _⟩
        · rw [decide_eq_false hmF] at hgF
          subst hgF
          clear hc hc0
          go_wp2_with fail
          go_quiet (fail)
          go_wp2_with fail
          refine (code_r nw _).mono ?_
          rintro e w' ⟨rfl, rfl⟩
          have hjF : j = i + F := by have := HJM.out; omega
          have hcd : codeOf nw = codeOf (s.extract i (i + F)) := by rw [HNW.out, hjF]
          obtain ⟨e1, e2⟩ := HEND.out
          rw [← hcd] at e1 e2
          have HE1 := Lib.hid (show errSp s i = (j, decide (0 ≤ codeOf nw), val1 3 (codeSp s i).2.2 ByteArray.empty .nil) by unfold errSp; rw [e1, hjF])
          have HE2 := Lib.hid e2
          obtain ⟨cv, hcv⟩ : ∃ cv : Int, cv = if codeOf nw < 0 then 0 else codeOf nw := ⟨_, rfl⟩
          obtain ⟨cb, hcb⟩ : ∃ cb : Bool, cb = decide (0 ≤ codeOf nw) := ⟨_, rfl⟩
          rw [← hcv, ← hcb]
          have HCV := Lib.hid hcv
          have HCB := Lib.hid hcb
          clear hcv hcb e1 e2 hcd hjF
          go_wp2_with fail
          refine (refE_c cv _).mono ?_
          rintro e w3 ⟨rfl, hw3⟩
          have hr3 : Rrs w w3 R s j := by rw [← hw3]; exact (HR0.out.drewN _).alloc _
          have hs3 : StB w3 w.heap.size (.int .i64 0) (.int .i64 0) (.string ⟨#[]⟩) (.slice none 0 0) := by rw [← hw3]; exact (HS0.out.drewN _).alloc _
          have HR3 := Lib.hid hr3
          have HS3 := Lib.hid hs3
          clear hw3 d0 d1 df
          have k0 := hs3.c0; have k1 := hs3.c1; have k2 := hs3.c2; have k3 := hs3.c3
          have f0 := hs3.fr 0; have f1 := hs3.fr 1; have f2 := hs3.fr 2; have f3 := hs3.fr 3
          clear hr3 hs3
          go_wp2_with fail
          refine ret_cell4_tmp Tryd.results69 w.heap.size rfl rfl (HS3.out.set4 _ _ _ _) ?_
          rw [HE1.out]
          exact PRef.err HCB.out.symm HR3.out hRl (fun hb => by rw [HE2.out (of_decide_eq_true hb), HCV.out, if_neg (by have := of_decide_eq_true hb; omega)])
      · have hgF : g = false := by rw [hg.out, hc0 hj1]; rfl
        have hmF : ¬ m < F := by have := HJM.out; omega
        have t1 : decide ((j : Int) < (s.size : Int)) = false := by rw [decide_eq_false_iff_not]; omega
        have t2 : decide (j < s.size) = false := by rw [decide_eq_false_iff_not]; omega
        have t3 : (c : Int) ≤ 14 := by have := hc0 hj1; omega
        subst hgF
        clear hc0 hj1
        go_wp2_with fail
        go_quiet (fail)
        go_wp2_with fail
        refine (code_r nw _).mono ?_
        rintro e w' ⟨rfl, rfl⟩
        have hjF : j = i + F := by have := HJM.out; omega
        have hcd : codeOf nw = codeOf (s.extract i (i + F)) := by rw [HNW.out, hjF]
        obtain ⟨e1, e2⟩ := HEND.out
        rw [← hcd] at e1 e2
        have HE1 := Lib.hid (show errSp s i = (j, decide (0 ≤ codeOf nw), val1 3 (codeSp s i).2.2 ByteArray.empty .nil) by unfold errSp; rw [e1, hjF])
        have HE2 := Lib.hid e2
        obtain ⟨cv, hcv⟩ : ∃ cv : Int, cv = if codeOf nw < 0 then 0 else codeOf nw := ⟨_, rfl⟩
        obtain ⟨cb, hcb⟩ : ∃ cb : Bool, cb = decide (0 ≤ codeOf nw) := ⟨_, rfl⟩
        rw [← hcv, ← hcb]
        have HCV := Lib.hid hcv
        have HCB := Lib.hid hcb
        clear hcv hcb e1 e2 hcd hjF
        go_wp2_with fail
        refine (refE_c cv _).mono ?_
        rintro e w3 ⟨rfl, hw3⟩
        have hr3 : Rrs w w3 R s j := by rw [← hw3]; exact (HR0.out.drewN _).alloc _
        have hs3 : StB w3 w.heap.size (.int .i64 0) (.int .i64 0) (.string ⟨#[]⟩) (.slice none 0 0) := by rw [← hw3]; exact (HS0.out.drewN _).alloc _
        have HR3 := Lib.hid hr3
        have HS3 := Lib.hid hs3
        clear hw3 d0 d1 df
        have k0 := hs3.c0; have k1 := hs3.c1; have k2 := hs3.c2; have k3 := hs3.c3
        have f0 := hs3.fr 0; have f1 := hs3.fr 1; have f2 := hs3.fr 2; have f3 := hs3.fr 3
        clear hr3 hs3
        go_wp2_with fail
        refine ret_cell4_tmp Tryd.results69 w.heap.size rfl rfl (HS3.out.set4 _ _ _ _) ?_
        rw [HE1.out]
        exact PRef.err HCB.out.symm HR3.out hRl (fun hb => by rw [HE2.out (of_decide_eq_true hb), HCV.out, if_neg (by have := of_decide_eq_true hb; omega)])
      · have t1 : decide ((j : Int) < (s.size : Int)) = true := by rw [decide_eq_true_eq]; omega
        have t3 : (c : Int) ≤ 14 := by omega
        obtain ⟨nm, hnm⟩ : ∃ nm, nm = nmAt c := ⟨_, rfl⟩
        have NC := Lib.hid (fun W => NR.out c hc W)
        rw [nmS_at c hc, show nmL.getD c ByteArray.empty = nm from hnm.symm] at NC
        have hnl : nm.size ≤ 20 := by rw [hnm]; exact nm_short _ (by unfold nmAt; rw [List.getD_eq_getElem?_getD, List.getElem?_eq_getElem (by rw [nmL_len]; omega)]; exact List.getElem_mem _)
        have HG1 := Lib.hid (show grB s i m (c + 1) = (g || decide (m + 1 ≤ cp s i nm)) by rw [grB, ← hg.out, hnm])
        cases g with
        | true =>
          have HG2 := Lib.hid (show true = grB s i m (c + 1) by rw [HG1.out, Bool.true_or])
          clear hc hc0 hnm
          go_wp2_with fail
          go_quiet (fail)
          go_wp2_with fail
          refine (NC.out _).mono ?_
          rintro e w' ⟨rfl, rfl⟩
          go_wp2_with fail
          go_quiet (fail)
          go_wp2_with fail
          go_roundg f'
          case measure => omega
          case rel => exact ⟨c + 1, _, true, rfl, by go_num, by omega, by omega, fun h => absurd hj1 h, by first | rfl | (rw [World.drewN_drewN]), HG2.out⟩
        | false =>
          rw [Bool.false_or] at HG1
          by_cases hms : m < nm.size
          · have t4 : decide ((m : Int) < (nm.size : Int)) = true := by rw [decide_eq_true_eq]; omega
            obtain ⟨q, hq⟩ : ∃ q, q = decide (m + 1 ≤ cp s i nm) := ⟨_, rfl⟩
            have hx : ((nm.extract 0 (m + 1)).toList == (s.extract i (j + 1)).toList) = q := by
              rw [hq, ← cmp_iff hms (show i + m < s.size by have := HJM.out; omega), HJM.out]
            have HG2 := Lib.hid (show q = grB s i m (c + 1) by rw [HG1.out, hq])
            have g2 : ((m : Int) + 1).toNat = m + 1 := by omega
            have g3 : ((j : Int) + 1).toNat = j + 1 := by omega
            have g4 : (m : Int) + 1 ≤ (nm.size : Int) := by omega
            have g5 : (j : Int) + 1 ≤ (s.size : Int) := by omega
            have g6 : (i : Int) ≤ (j : Int) + 1 := by omega
            clear hc hc0 hnm hq
            go_wp2_with fail
            go_quiet (fail)
            go_wp2_with fail
            refine (NC.out _).mono ?_
            rintro e w' ⟨rfl, rfl⟩
            have g7 : IntKind.i64.wrap ((m : Int) + 1) = (m : Int) + 1 := IntWalk.i64_in _ ⟨by omega, by omega⟩
            have g8 : IntKind.i64.wrap ((j : Int) + 1) = (j : Int) + 1 := IntWalk.i64_in _ ⟨by omega, by omega⟩
            go_wp2_with fail
            go_quiet (fail)
            clear g7 g8
            go_wp2_with fail
            go_roundg f'
            case measure => omega
            case rel => exact ⟨c + 1, _, q, rfl, by go_num, by omega, by omega, fun h => absurd hj1 h, by first | rfl | (rw [World.drewN_drewN]), HG2.out⟩
          · have t4 : decide ((m : Int) < (nm.size : Int)) = false := by rw [decide_eq_false_iff_not]; omega
            have t5 : decide (m < nm.size) = false := by rw [decide_eq_false_iff_not]; omega
            have HG2 := Lib.hid (show false = grB s i m (c + 1) by
              rw [HG1.out, eq_comm, decide_eq_false_iff_not]; have := cp_le s i nm; omega)
            clear hc hc0 hnm hms
            go_wp2_with fail
            go_quiet (fail)
            go_wp2_with fail
            refine (NC.out _).mono ?_
            rintro e w' ⟨rfl, rfl⟩
            go_wp2_with fail
            go_quiet (fail)
            go_wp2_with fail
            go_roundg f'
            case measure => omega
            case rel => exact ⟨c + 1, _, false, rfl, by go_num, by omega, by omega, fun h => absurd hj1 h, by first | rfl | (rw [World.drewN_drewN]), HG2.out⟩
end Go.Proofs.YtoemnccklakkeaaDoor
