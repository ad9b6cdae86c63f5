/-
  The walk of the reader's code.
-/
import Derived.Test.YtoemnccklakkeaaDoorRdF
import Derived.IntWalk
namespace Go.Proofs.YtoemnccklakkeaaDoor
open Go.RowKit Go.Lib

theorem cpl_step (s : ByteArray) (i : Nat) (n : ByteArray) (f k : Nat) (h : k < n.size ∧ i + k < s.size ∧ pk s (i + k) = pk n k) : cpl s i n (f + 1) k = cpl s i n f (k + 1) := by
  rw [cpl, if_pos h]
theorem cpl_stop (s : ByteArray) (i : Nat) (n : ByteArray) (f k : Nat) (h : ¬(k < n.size ∧ i + k < s.size ∧ pk s (i + k) = pk n k)) : cpl s i n f k = k := by
  cases f with
  | zero => rfl
  | succ f => rw [cpl, if_neg h]

theorem names_cell (w : World) (c : Nat) (hc : c < 15) (n : Nat) : ((w.alloc (.cells (nmL.map Value.string).toArray 9)).drewN n).cell? ⟨w.heap.size, c, none⟩ = some (.string (nmL.getD c ByteArray.empty)) := by
  show (w.alloc (.cells (nmL.map Value.string).toArray 9)).cell? ⟨w.heap.size, c, none⟩ = _
  rw [World.cell?_alloc_at _ _ _ _ rfl]
  have hc' : c < nmL.length := by rw [nmL_len]; omega
  rw [List.getD_eq_getElem?_getD, List.getElem?_eq_getElem hc']
  simp [hc']

set_option maxRecDepth 100000 in
set_option maxHeartbeats 2000000 in
theorem code_c (R : Nat) (s : ByteArray) (i : Nat) (w : World) (h : RdAt w R s i true) (hs : s.size ≤ 1000000000) (hi : i ≤ s.size) :
    Calls Tryd.prog 64 #[.pointer (some ⟨R, 0, none⟩)] w fun e w' => e = .returned (.int .i64 (codeSp s i).2.2) ∧ Rds w w' R s (codeSp s i).1 (codeSp s i).2.1 := by
  have hRl := h.lt
  have HNM := Lib.hid (names_cell w)
  obtain ⟨w1, hw1⟩ : ∃ w1, w1 = w.alloc (.cells (nmL.map Value.string).toArray 9) := ⟨_, rfl⟩
  have hr1 : Rds w w1 R s i true := by rw [hw1]; exact (Rds.of h).alloc _
  have hnm := names_c w
  rw [← hw1] at HNM hnm
  have NMC := Lib.hid (hnm.mono (fun e w' ⟨he, hw⟩ => (⟨he, hw.symm⟩ : e = _ ∧ w1 = w')))
  clear hnm
  have HR1 := Lib.hid hr1
  have a0 := hr1.at_.c0
  have a1 := hr1.at_.c1
  have a2 := hr1.at_.c2
  have af1 := hr1.at_.fr 1
  have af2 := hr1.at_.fr 2
  clear hr1 h
  go_enter Tryd.func64, Tryd.ntmps64
  go_wp2_with fail
  refine NMC.out.mono ?_
  rintro e w' ⟨rfl, rfl⟩
  clear hw1
  go_wp2_with fail
  go_loopg [3, 4, 5, 11] 15 (fun k v3 v4 v5 v11 wr => ∃ (c n : Nat) (x y z : Int), c + k = 15 ∧ v11 = .int .i64 c ∧ wr = w1.drewN n ∧ v3 = .int .i64 x ∧ v4 = .int .i64 y ∧ v5 = .int .i64 z ∧ Hid (codeTo s i c = (x, y, z)))
  case atStart => exact ⟨0, 0, 0, -1, 0, rfl, rfl, rfl, rfl, rfl, rfl, rfl⟩
  case round =>
    obtain ⟨c, n, x, y, z, hck, rfl, rfl, rfl, rfl, rfl, hct⟩ := hrel
    have hrng := codeTo_range s i c (by omega)
    rw [hct.out] at hrng
    obtain ⟨⟨x1, x2⟩, ⟨y1, y2⟩, ⟨z1, z2⟩⟩ := hrng
    simp only at x1 x2 y1 y2 z1 z2
    by_cases hlt : c < 15
    · obtain ⟨f, rfl⟩ : ∃ f, gk = f + 1 := ⟨gk - 1, by omega⟩
      obtain ⟨nm, hnm⟩ : ∃ nm, nm = nmL.getD c ByteArray.empty := ⟨_, rfl⟩
      have hcell := HNM.out c hlt n
      rw [← hnm] at hcell
      have hnl : nm.size ≤ 20 := by
        rw [hnm, List.getD_eq_getElem?_getD, List.getElem?_eq_getElem (by rw [nmL_len]; omega)]
        exact nm_short _ (List.getElem_mem _)
      have HST := Lib.hid (show codeTo s i (c + 1) = codeStep s i nm c (x, y, z) by rw [codeTo, hct.out, hnm])
      clear hnm
      go_wp2_with fail
      go_loopg [8] (nm.size + 1) (fun k' v8 wr => ∃ (m n' : Nat), v8 = .int .i64 m ∧ wr = w1.drewN n' ∧ m ≤ nm.size ∧ nm.size + 1 = m + k' ∧ Hid (cpl s i nm k' m = cp s i nm))
      case atStart => exact ⟨0, n, rfl, rfl, Nat.zero_le _, by omega, rfl⟩
      case round =>
        obtain ⟨m, n', rfl, rfl, hm, hmk, hcp⟩ := hrel
        obtain ⟨f', rfl⟩ : ∃ f', gk = f' + 1 := ⟨gk - 1, by omega⟩
        by_cases hm1 : m < nm.size
        · have t1 : decide ((m : Int) < (nm.size : Int)) = true := by simpa using hm1
          by_cases hm2 : i + m < s.size
          · by_cases hb : pk s (i + m) = pk nm m
            · have HCP := Lib.hid ((cpl_step s i nm f' m ⟨hm1, hm2, hb⟩).symm.trans hcp.out)
              have hq : ((s[i + m].toNat : Int) == (nm[m].toNat : Int)) = true := by rw [← pk_in s _ hm2, ← pk_in nm _ hm1, hb]; simp
              have hm2' : (i : Int) + (m : Int) < (s.size : Int) := by omega
              have g1 : IntKind.i64.wrap ((i : Int) + (m : Int)) = (i : Int) + (m : Int) := IntWalk.i64_in _ ⟨by omega, by omega⟩
              have g2 : (0 : Int) ≤ (i : Int) + (m : Int) := by omega
              have g3 : ((i : Int) + (m : Int)).toNat = i + m := by omega
              clear hb t1
              go_wp2
              go_quiet (fail)
              clear g1
              go_wp2
              go_roundg f'
              case measure => omega
              case rel => exact ⟨m + 1, _, by go_num, rfl, by omega, by omega, HCP.out⟩
            · have HM := Lib.hid (hcp.out.symm.trans (cpl_stop s i nm _ m (fun hh => hb hh.2.2)))
              have hq : ((s[i + m].toNat : Int) == (nm[m].toNat : Int)) = false := by
                rw [← pk_in s _ hm2, ← pk_in nm _ hm1, beq_eq_false_iff_ne]
                intro e
                exact hb (UInt8.toNat_inj.1 (by omega))
              have hm2' : (i : Int) + (m : Int) < (s.size : Int) := by omega
              clear hb t1
              by_cases hfull : m = nm.size
              · have e1 : ((m : Int) == (nm.size : Int)) = true := by rw [hfull]; simp
                by_cases hmore : y < (m : Int)
                · have HS2 := Lib.hid (show codeTo s i (c + 1) = ((c : Int), (m : Int), max z (m : Int)) by rw [HST.out, codeStep, if_pos ⟨by rw [HM.out, hfull], by rw [HM.out]; exact hmore⟩, HM.out])
                  clear hfull
                  have g2 : (0 : Int) ≤ (i : Int) + (m : Int) := by omega
                  have g3 : ((i : Int) + (m : Int)).toNat = i + m := by omega
                  have g1 : IntKind.i64.wrap ((i : Int) + (m : Int)) = (i : Int) + (m : Int) := IntWalk.i64_in _ ⟨by omega, by omega⟩
                  go_wp2
                  go_quiet (fail)
                  clear g1
                  go_wp2
                  all_goals
                    go_roundg f
                    case measure => omega
                    case rel => exact ⟨c + 1, _, _, _, max z (m : Int), by omega, by go_num, rfl, rfl, rfl, (by congr 1; omega), HS2.out⟩
                · have hmore' : (m : Int) ≤ y := by omega
                  have HS2 := Lib.hid (show codeTo s i (c + 1) = (x, y, max z (m : Int)) by rw [HST.out, codeStep, if_neg (by rw [HM.out]; simp only; omega), HM.out])
                  clear hmore hfull
                  have g2 : (0 : Int) ≤ (i : Int) + (m : Int) := by omega
                  have g3 : ((i : Int) + (m : Int)).toNat = i + m := by omega
                  have g1 : IntKind.i64.wrap ((i : Int) + (m : Int)) = (i : Int) + (m : Int) := IntWalk.i64_in _ ⟨by omega, by omega⟩
                  go_wp2
                  go_quiet (fail)
                  clear g1
                  go_wp2
                  all_goals
                    go_roundg f
                    case measure => omega
                    case rel => exact ⟨c + 1, _, _, _, max z (m : Int), by omega, by go_num, rfl, rfl, rfl, (by congr 1; omega), HS2.out⟩
              · have e1 : ((m : Int) == (nm.size : Int)) = false := by rw [beq_eq_false_iff_ne]; omega
                have HS2 := Lib.hid (show codeTo s i (c + 1) = (x, y, max z (m : Int)) by rw [HST.out, codeStep, if_neg (by rw [HM.out]; omega), HM.out])
                clear hfull
                have g2 : (0 : Int) ≤ (i : Int) + (m : Int) := by omega
                have g3 : ((i : Int) + (m : Int)).toNat = i + m := by omega
                have g1 : IntKind.i64.wrap ((i : Int) + (m : Int)) = (i : Int) + (m : Int) := IntWalk.i64_in _ ⟨by omega, by omega⟩
                go_wp2
                go_quiet (fail)
                clear g1
                go_wp2
                all_goals
                  go_roundg f
                  case measure => omega
                  case rel => exact ⟨c + 1, _, _, _, max z (m : Int), by omega, by go_num, rfl, rfl, rfl, (by congr 1; omega), HS2.out⟩
          · have HM := Lib.hid (hcp.out.symm.trans (cpl_stop s i nm _ m (fun hh => hm2 hh.2.1)))
            have hm2' : (s.size : Int) ≤ (i : Int) + (m : Int) := by omega
            have hm2'' : decide ((i : Int) + (m : Int) < (s.size : Int)) = false := by simpa using hm2'
            clear t1 hm2
            by_cases hfull : m = nm.size
            · have e1 : ((m : Int) == (nm.size : Int)) = true := by rw [hfull]; simp
              by_cases hmore : y < (m : Int)
              · have HS2 := Lib.hid (show codeTo s i (c + 1) = ((c : Int), (m : Int), max z (m : Int)) by rw [HST.out, codeStep, if_pos ⟨by rw [HM.out, hfull], by rw [HM.out]; exact hmore⟩, HM.out])
                clear hfull
                have g2 : (0 : Int) ≤ (i : Int) + (m : Int) := by omega
                have g3 : ((i : Int) + (m : Int)).toNat = i + m := by omega
                have g1 : IntKind.i64.wrap ((i : Int) + (m : Int)) = (i : Int) + (m : Int) := IntWalk.i64_in _ ⟨by omega, by omega⟩
                go_wp2
                go_quiet (fail)
                clear g1
                go_wp2
                all_goals
                  go_roundg f
                  case measure => omega
                  case rel => exact ⟨c + 1, _, _, _, max z (m : Int), by omega, by go_num, rfl, rfl, rfl, (by congr 1; omega), HS2.out⟩
              · have hmore' : (m : Int) ≤ y := by omega
                have HS2 := Lib.hid (show codeTo s i (c + 1) = (x, y, max z (m : Int)) by rw [HST.out, codeStep, if_neg (by rw [HM.out]; simp only; omega), HM.out])
                clear hmore hfull
                have g2 : (0 : Int) ≤ (i : Int) + (m : Int) := by omega
                have g3 : ((i : Int) + (m : Int)).toNat = i + m := by omega
                have g1 : IntKind.i64.wrap ((i : Int) + (m : Int)) = (i : Int) + (m : Int) := IntWalk.i64_in _ ⟨by omega, by omega⟩
                go_wp2
                go_quiet (fail)
                clear g1
                go_wp2
                all_goals
                  go_roundg f
                  case measure => omega
                  case rel => exact ⟨c + 1, _, _, _, max z (m : Int), by omega, by go_num, rfl, rfl, rfl, (by congr 1; omega), HS2.out⟩
            · have e1 : ((m : Int) == (nm.size : Int)) = false := by rw [beq_eq_false_iff_ne]; omega
              have HS2 := Lib.hid (show codeTo s i (c + 1) = (x, y, max z (m : Int)) by rw [HST.out, codeStep, if_neg (by rw [HM.out]; omega), HM.out])
              clear hfull
              have g2 : (0 : Int) ≤ (i : Int) + (m : Int) := by omega
              have g3 : ((i : Int) + (m : Int)).toNat = i + m := by omega
              have g1 : IntKind.i64.wrap ((i : Int) + (m : Int)) = (i : Int) + (m : Int) := IntWalk.i64_in _ ⟨by omega, by omega⟩
              go_wp2
              go_quiet (fail)
              clear g1
              go_wp2
              all_goals
                go_roundg f
                case measure => omega
                case rel => exact ⟨c + 1, _, _, _, max z (m : Int), by omega, by go_num, rfl, rfl, rfl, (by congr 1; omega), HS2.out⟩
        · have HM := Lib.hid (hcp.out.symm.trans (cpl_stop s i nm _ m (fun hh => hm1 hh.1)))
          have t1 : decide (m < nm.size) = false := by simpa using hm1
          have hm1' : (nm.size : Int) ≤ (m : Int) := by omega
          clear hm1
          by_cases hfull : m = nm.size
          · have e1 : ((m : Int) == (nm.size : Int)) = true := by rw [hfull]; simp
            by_cases hmore : y < (m : Int)
            · have HS2 := Lib.hid (show codeTo s i (c + 1) = ((c : Int), (m : Int), max z (m : Int)) by rw [HST.out, codeStep, if_pos ⟨by rw [HM.out, hfull], by rw [HM.out]; exact hmore⟩, HM.out])
              clear hfull
              go_wp2
              go_quiet (fail)
              go_wp2
              all_goals
                go_roundg f
                case measure => omega
                case rel => exact ⟨c + 1, _, _, _, max z (m : Int), by omega, by go_num, rfl, rfl, rfl, (by congr 1; omega), HS2.out⟩
            · have hmore' : (m : Int) ≤ y := by omega
              have HS2 := Lib.hid (show codeTo s i (c + 1) = (x, y, max z (m : Int)) by rw [HST.out, codeStep, if_neg (by rw [HM.out]; simp only; omega), HM.out])
              clear hmore hfull
              go_wp2
              go_quiet (fail)
              go_wp2
              all_goals
                go_roundg f
                case measure => omega
                case rel => exact ⟨c + 1, _, _, _, max z (m : Int), by omega, by go_num, rfl, rfl, rfl, (by congr 1; omega), HS2.out⟩
          · have e1 : ((m : Int) == (nm.size : Int)) = false := by rw [beq_eq_false_iff_ne]; omega
            have HS2 := Lib.hid (show codeTo s i (c + 1) = (x, y, max z (m : Int)) by rw [HST.out, codeStep, if_neg (by rw [HM.out]; omega), HM.out])
            clear hfull
            go_wp2
            go_quiet (fail)
            go_wp2
            all_goals
              go_roundg f
              case measure => omega
              case rel => exact ⟨c + 1, _, _, _, max z (m : Int), by omega, by go_num, rfl, rfl, rfl, (by congr 1; omega), HS2.out⟩
    · have hc15 : c = 15 := by omega
      subst hc15
      have HSP := Lib.hid (show codeSp s i = if y < 0 then (i + z.toNat, false, x) else (i + y.toNat, true, x) by unfold codeSp; rw [hct.out])
      obtain ⟨z', rfl⟩ := Int.eq_ofNat_of_zero_le z1
      by_cases hy : y < 0
      · rw [if_pos hy, Int.toNat_natCast] at HSP
        go_wp2
        go_ret
        rw [HSP.out]
        exact ⟨ret_int rfl, ((HR1.out.drewN n).set2 false).set1 (i + z')⟩
      · rw [if_neg hy] at HSP
        have hy' : 0 ≤ y := by omega
        obtain ⟨y', rfl⟩ := Int.eq_ofNat_of_zero_le hy'
        rw [Int.toNat_natCast] at HSP
        clear hy
        go_wp2
        go_ret
        rw [HSP.out]
        exact ⟨ret_int rfl, (HR1.out.drewN n).set1 (i + y')⟩
end Go.Proofs.YtoemnccklakkeaaDoor
