/- Contracts of the functions that the statement reaches, and the plain mathematics beneath: several texts joined. -/
import Derived.Test.YtnphgcbknfmapaaGreatDoorWquAL
import Derived.Test.YtnphgcbknfmapaaGreatDoorWquAE
namespace Go.Proofs.YtnphgcbknfmapaaGreatDoor
open Go.RowKit Go.Lib
set_option linter.unusedVariables false
set_option linter.unusedSimpArgs false

/-- A row of bools, handed in. -/
def ArgQ (W : World) (A : Option Addr) (l : List Bool) : Prop := l = [] ∨ ∃ b o, A = some ⟨b, o, none⟩ ∧ b < W.heap.size ∧ ∀ (j : Nat) (x : Bool), l[j]? = some x → W.cell? ⟨b, o + j, none⟩ = some (.bool x)
theorem ArgQ.at_ {W w : World} {A : Option Addr} {l : List Bool} (h : ArgQ W A l) (hb : Below W.heap.size W w) {j : Nat} {x : Bool} (hj : l[j]? = some x) : ∃ b o, A = some ⟨b, o, none⟩ ∧ w.cell? ⟨b, o + j, none⟩ = some (.bool x) := by
  rcases h with rfl | ⟨b, o, rfl, hlt, hc⟩
  · simp at hj
  · exact ⟨b, o, rfl, (hb.cell (p := ⟨b, o + j, none⟩) hlt).trans (hc j x hj)⟩
/-- What holds of the numbers of one's own, and of what one may still make. -/
structure QuI (q : Int) (ms : List Int) (mx : Int) (i : Nat) : Prop where
  sum : q + (ms.length : Int) = 2
  q0 : 0 ≤ q
  lo : ∀ o ∈ ms, 3 < o ∧ o ≤ mx
  up : ms.Pairwise (· < ·)
  mx3 : 3 ≤ mx
  mxi : mx ≤ 3 + (i : Int)
theorem QuI.start : QuI 2 [] 3 0 := ⟨rfl, by omega, by simp, .nil, by omega, by omega⟩
theorem QuI.next {q : Int} {ms : List Int} {mx : Int} {i : Nat} (h : QuI q ms mx i) : QuI q ms mx (i + 1) := ⟨h.sum, h.q0, h.lo, h.up, h.mx3, by have := h.mxi; omega⟩
theorem QuI.made {q : Int} {ms : List Int} {mx : Int} {i : Nat} (h : QuI q ms mx i) (hq : 0 < q) : QuI (q - 1) (ms ++ [mx + 1]) (mx + 1) (i + 1) := by
  have hs := h.sum
  have h3 := h.mx3
  have hi := h.mxi
  refine ⟨by rw [List.length_append, List.length_singleton]; omega, by omega, fun o ho => ?_, ?_, by omega, by omega⟩
  · rcases List.mem_append.1 ho with ho | ho
    · have := h.lo o ho
      omega
    · rw [List.mem_singleton] at ho
      omega
  · rw [List.pairwise_append]
    refine ⟨h.up, by simp, fun x hx y hy => ?_⟩
    rw [List.mem_singleton] at hy
    have := h.lo x hx
    omega
theorem QuI.gone {q x : Int} {ms : List Int} {mx : Int} {i : Nat} (h : QuI q (x :: ms) mx i) : QuI (q + 1) ms mx (i + 1) := by
  have hs := h.sum
  have h0 := h.q0
  have hi := h.mxi
  rw [List.length_cons] at hs
  exact ⟨by omega, by omega, fun o ho => h.lo o (List.mem_cons_of_mem _ ho), (List.pairwise_cons.1 h.up).2, h.mx3, by omega⟩

set_option maxRecDepth 100000 in
set_option maxHeartbeats 1500000 in
theorem worldQuota_c (l : List Bool) (A : Option Addr) (cp : Nat) (w : World) (hl : ArgQ w A l) (hln : l.length ≤ 9223372036854775807) :
    Calls Tryz.prog 8 #[.slice A l.length cp] w fun e w' => e = .returned (.bool true) ∧ Below w.heap.size w w' := by
  have CF := Lib.hid (wfirst_c w)
  have HL := Lib.hid hl
  clear hl
  by_cases hbig : 30 < l.length
  · have hb30 : (30 : Int) < (l.length : Int) := by omega
    go_enter Tryz.func8, Tryz.ntmps8
    go_wp2_with fail
    refine CF.out.mono ?_
    rintro e w1 ⟨rfl, hb1⟩
    have HB1 := Lib.hid hb1
    clear hb1 CF
    go_wp2_with fail
    go_ret
    exact ⟨rfl, HB1.out⟩
  · have hb30 : ¬ (30 : Int) < (l.length : Int) := by omega
    go_enter Tryz.func8, Tryz.ntmps8
    go_wp2_with fail
    refine CF.out.mono ?_
    rintro e w1 ⟨rfl, hb1⟩
    have HB1 := Lib.hid hb1
    clear hb1 CF
    have CRM := Lib.hid (room_c w1)
    go_wp2_with fail
    refine CRM.out.mono ?_
    rintro e w2 ⟨rfl, hin, hb2⟩
    have CN := Lib.hid (wnew_c w2 hin)
    have HB2 := Lib.hid (HB1.out.trans (hb2.mono HB1.out.size))
    clear hin hb2 CRM
    go_wp2_with fail
    refine CN.out.mono ?_
    rintro e w3 ⟨gW, a, m, rfl, hl3⟩
    have CW := Lib.hid (who_W (gW := gW) (o := 2) hl3 (by simp) ⟨by omega, by omega⟩ (x := obR2) rfl (wz := false) (pg := true) (by decide) (by decide))
    have HL3 := Lib.hid hl3
    clear hl3 CN
    go_wp2_with fail
    refine CW.out.mono ?_
    rintro e w4 ⟨rfl, hb4⟩
    obtain ⟨w5, hw5⟩ : ∃ w5, w5 = w4.alloc (.cells #[.int .i64 2, .bool false, .bool true] 71) := ⟨_, rfl⟩
    have hb5 : Below w4.heap.size w4 w5 := by rw [hw5]; exact (Below.refl _ _).alloc (Nat.le_refl _) _
    have g5 : w5.heap[w4.heap.size]? = some (.cells #[.int .i64 2, .bool false, .bool true] 71 (0, 0)) := by rw [hw5]; exact heap_alloc_new w4 _
    obtain ⟨gp, hgp⟩ : ∃ gp, gp = w4.heap.size := ⟨_, rfl⟩
    rw [← hgp] at g5
    have HL5 := Lib.hid (show LS w2.heap.size w2 w5 a m (quL 2 []) 3 ([] ++ [(gp, .cells #[.int .i64 2, .bool false, .bool true] 71 (0, 0)), WK gW a]) from (HL3.out.below hb4).push hb5 (by omega) g5)
    have HW5 := Lib.hid hw5
    clear hb4 hb5 g5 hw5 CW
    go_upto_region 10 with fail
    rw [← HW5.out, ← hgp]
    clear hgp
    go_wp2_with fail
    go_loopg [7, 8, 9] l.length (fun kk qv mv iv wr => ∃ (i : Nat) (q : Int) (ms : List Int) (mx : Int) (Km : List (Nat × Obj)), qv = .int .i64 q ∧ iv = .int .i64 (i : Int) ∧ i + kk = l.length ∧ QuI q ms mx i ∧ MnR mv ms Km ∧ (∀ p ∈ Km, w2.heap.size ≤ p.1) ∧ LS w2.heap.size w2 wr a m (quL q ms) mx (Km ++ [(gp, .cells #[.int .i64 2, .bool false, .bool true] 71 (0, 0)), WK gW a]))
    case atStart => exact ⟨0, 2, [], 3, [], rfl, rfl, by omega, QuI.start, .inl ⟨none, rfl, rfl, rfl⟩, by simp, HL5.out⟩
    case round =>
      obtain ⟨i, q, ms, mx, Km, rfl, rfl, hik, hqi, hmn, hmB, hlr⟩ := hrel
      by_cases hi : i < l.length
      · obtain ⟨j, rfl⟩ : ∃ j, gk = j + 1 := ⟨gk - 1, by omega⟩
        obtain ⟨b, hb⟩ : ∃ b, l[i]? = some b := ⟨l[i], List.getElem?_eq_some_iff.2 ⟨hi, rfl⟩⟩
        obtain ⟨gb, ob, rfl, hc⟩ := HL.out.at_ (HB2.out.trans (hlr.base.mono HB2.out.size)) hb
        have hfew : ms.length ≤ 2 := by have := hqi.sum; have := hqi.q0; omega
        have hi30 : (i : Int) ≤ 30 := by omega
        obtain ⟨Am, cm, rfl⟩ := mn_len hmn
        have HQI := Lib.hid hqi
        have HMN := Lib.hid hmn
        have HMB := Lib.hid hmB
        have HLR := Lib.hid hlr
        have gpr := hlr.row (List.mem_append_right _ (List.mem_cons_self ..))
        have p0 := cell_of_row wr _ 0 _ _ _ gpr
        have p1 := cell_of_row wr _ 1 _ _ _ gpr
        have p2 := cell_of_row wr _ 2 _ _ _ gpr
        clear gpr
        clear hqi hmn hmB hlr hb
        cases b with
        | true =>
          by_cases hq : 0 < q
          · have CC := Lib.hid (show Calls Tryz.prog 41 #[.pointer (some ⟨gW, 0, none⟩), .agg #[.int .i64 2, .bool false, .bool true], .int .i64 1, .int .i64 (-1)] wr (fun e w' => e = .returned (.tuple #[.int .i64 (mx + 1), .int .i64 0]) ∧ LS w2.heap.size w2 w' a m (quL (q - 1) (ms ++ [mx + 1])) (mx + 1) (Km ++ [(gp, .cells #[.int .i64 2, .bool false, .bool true] 71 (0, 0)), WK gW a])) from by
              refine (wcreate_yes (gW := gW) HLR.out (List.mem_append_right _ (by simp)) (quL_1 q ms) (quL_2 q ms) (by decide) hq (by have := HQI.out.sum; show q ≤ 1000; omega) (by rw [quL_len]; omega) (by have := HQI.out.mxi; omega) (by decide)).mono ?_
              rintro e w' ⟨rfl, hl'⟩
              refine ⟨rfl, ?_⟩
              rw [← quL_made q ms mx (fun o ho => (HQI.out.lo o ho).1) HQI.out.mx3]
              exact hl')
            have hwq : IntKind.i64.wrap (q - 1) = q - 1 := wrap_i64 ⟨by omega, by have := HQI.out.sum; omega⟩
            go_wp2_with fail
            refine CC.out.mono ?_
            rintro e w6 ⟨rfl, hl6⟩
            have HL6 := Lib.hid hl6
            clear hl6 p0 p1 p2 hc
            go_wp2_with (at_builtin; refine wpList_append_mine rfl (.tmp 73) (.tmp 75) rfl rfl HMN.out (HL6.out.below ((Below.refl _ _).alloc (Nat.le_refl _) _)) HMB.out ?hk ?hn ⟨w6.heap.size, 0, none⟩ 1 rfl (mx + 1) ?hz ?_
                         case hk => intro p hp cur; simp only [List.mem_cons, List.not_mem_nil, or_false] at hp; rcases hp with rfl | rfl <;> exact fun e => by injection e with _ e; cases e
                         case hn => omega
                         case hz => exact cell_one_new _ _ _ 0 _ rfl
                         intro v7 w7 Km7 hmn7 hmB7 hl7)
            have HL7 := Lib.hid hl7
            have HMN7 := Lib.hid hmn7
            have HMB7 := Lib.hid hmB7
            clear hl7 hmn7 hmB7
            have CTA := Lib.hid (wtab_L (gW := gW) HL7.out (List.mem_append_right _ (by simp)) (quL_small _ _))
            go_wp2_with fail
            refine CTA.out.mono ?_
            rintro e wtA ⟨aA, mA, rfl, hlt⟩
            have CGA := Lib.hid (show Calls Tryz.prog 13 #[.pointer (some ⟨aA, 0, none⟩), .int .i64 (mx + 1)] wtA (fun e w' => ∃ A2 c2 A3 c3, e = .returned (.tuple #[.agg #[.int .i64 (mx + 1), .int .i64 1, .int .i64 2, .int .i64 (-1), .int .i64 0, .int .i64 0, .string ⟨#[]⟩, .slice A2 0 c2, .slice A3 1 c3, .slice none 0 0], .bool true]) ∧ Below wtA.heap.size wtA w') from by
              refine (getR_L hlt (o := (mx + 1)) ⟨by have := HQI.out.mx3; omega, by have := HQI.out.mxi; omega⟩ (quL_last _ (mx + 1) ms (fun o ho => by have := HQI.out.lo o ho; omega) (by have := HQI.out.mx3; omega)) (by show 0 ≤ 1000; omega) (by show 1 ≤ 1000; omega)).mono ?_
              rintro e w' ⟨A2, c2, A3, c3, rfl, hcp, _⟩
              exact ⟨A2, c2, A3, c3, rfl, hcp.below⟩)
            have HLtA := Lib.hid (HL7.out.below hlt.base)
            clear hlt
            go_wp2_with fail
            refine CGA.out.mono ?_
            rintro e wuA ⟨A2, c2, A3, c3, rfl, hbu⟩
            obtain ⟨wvA, hwv⟩ : ∃ wv, wv = wuA.alloc (.cells #[.int .i64 (mx + 1), .int .i64 1, .int .i64 2, .int .i64 (-1), .int .i64 0, .int .i64 0, .string ⟨#[]⟩, .slice A2 0 c2, .slice A3 1 c3, .slice none 0 0] 29) := ⟨_, rfl⟩
            have hbv : Below wuA.heap.size wuA wvA := by rw [hwv]; exact (Below.refl _ _).alloc (Nat.le_refl _) _
            have hgv : wvA.heap[wuA.heap.size]? = some (.cells #[.int .i64 (mx + 1), .int .i64 1, .int .i64 2, .int .i64 (-1), .int .i64 0, .int .i64 0, .string ⟨#[]⟩, .slice A2 0 c2, .slice A3 1 c3, .slice none 0 0] 29 (0, 0)) := by rw [hwv]; exact heap_alloc_new wuA _
            have v1 := cell_of_row wvA _ 1 _ _ _ hgv
            have v2 := cell_of_row wvA _ 2 _ _ _ hgv
            have v5 := cell_of_row wvA _ 5 _ _ _ hgv
            have HLvA := Lib.hid ((HLtA.out.below hbu).below hbv)
            have HWVA := Lib.hid hwv
            clear hbu hbv hgv hwv
            go_upto_region 23 with fail
            rw [← HWVA.out]
            clear v5
            have CTB := Lib.hid (wtab_L (gW := gW) HLvA.out (List.mem_append_right _ (by simp)) (quL_small _ _))
            go_wp2_with fail
            refine CTB.out.mono ?_
            rintro e wtB ⟨aB, mB, rfl, hlt⟩
            have CGB := Lib.hid (show Calls Tryz.prog 13 #[.pointer (some ⟨aB, 0, none⟩), .int .i64 2] wtB (fun e w' => ∃ A2 c2 A3 c3, e = .returned (.tuple #[.agg #[.int .i64 2, .int .i64 1, .int .i64 2, .int .i64 1, .int .i64 3, .int .i64 (q - 1), .string ⟨#[]⟩, .slice A2 0 c2, .slice A3 1 c3, .slice none 0 0], .bool true]) ∧ Below wtB.heap.size wtB w') from by
              refine (getR_L hlt (o := 2) ⟨by omega, by omega⟩ (quL_2 (q - 1) (ms ++ [mx + 1])) (by show 0 ≤ 1000; omega) (by show 1 ≤ 1000; omega)).mono ?_
              rintro e w' ⟨A2, c2, A3, c3, rfl, hcp, _⟩
              exact ⟨A2, c2, A3, c3, rfl, hcp.below⟩)
            have HLtB := Lib.hid (HLvA.out.below hlt.base)
            clear hlt
            go_wp2_with fail
            refine CGB.out.mono ?_
            rintro e wuB ⟨A2, c2, A3, c3, rfl, hbu⟩
            obtain ⟨wvB, hwv⟩ : ∃ wv, wv = wuB.alloc (.cells #[.int .i64 2, .int .i64 1, .int .i64 2, .int .i64 1, .int .i64 3, .int .i64 (q - 1), .string ⟨#[]⟩, .slice A2 0 c2, .slice A3 1 c3, .slice none 0 0] 29) := ⟨_, rfl⟩
            have hbv : Below wuB.heap.size wuB wvB := by rw [hwv]; exact (Below.refl _ _).alloc (Nat.le_refl _) _
            have hgv : wvB.heap[wuB.heap.size]? = some (.cells #[.int .i64 2, .int .i64 1, .int .i64 2, .int .i64 1, .int .i64 3, .int .i64 (q - 1), .string ⟨#[]⟩, .slice A2 0 c2, .slice A3 1 c3, .slice none 0 0] 29 (0, 0)) := by rw [hwv]; exact heap_alloc_new wuB _
            have v1 := cell_of_row wvB _ 1 _ _ _ hgv
            have v2 := cell_of_row wvB _ 2 _ _ _ hgv
            have v5 := cell_of_row wvB _ 5 _ _ _ hgv
            have HLvB := Lib.hid ((HLtB.out.below hbu).below hbv)
            have HWVB := Lib.hid hwv
            clear hbu hbv hgv hwv
            go_upto_region 31 with fail
            rw [← HWVB.out]
            go_wp2_with fail
            go_roundg j
            case measure => omega
            case rel => exact ⟨i + 1, (q - 1), (ms ++ [mx + 1]), (mx + 1), Km7, rfl, by go_num, by omega, HQI.out.made hq, HMN7.out, HMB7.out, HLvB.out⟩
          · obtain rfl : q = 0 := by have := HQI.out.q0; omega
            have CC := Lib.hid (wcreate_no (gW := gW) HLR.out (List.mem_append_right _ (by simp)) (quL_1 0 ms) (quL_2 0 ms) (by decide) rfl)
            go_wp2_with fail
            refine CC.out.mono ?_
            rintro e w6 ⟨rfl, hb6⟩
            have HL6 := Lib.hid (HLR.out.below hb6)
            clear hb6 p0 p1 p2 hc
            have CTA := Lib.hid (wtab_L (gW := gW) HL6.out (List.mem_append_right _ (by simp)) (quL_small _ _))
            go_wp2_with fail
            refine CTA.out.mono ?_
            rintro e wtA ⟨aA, mA, rfl, hlt⟩
            have CGA := Lib.hid (show Calls Tryz.prog 13 #[.pointer (some ⟨aA, 0, none⟩), .int .i64 2] wtA (fun e w' => ∃ A2 c2 A3 c3, e = .returned (.tuple #[.agg #[.int .i64 2, .int .i64 1, .int .i64 2, .int .i64 1, .int .i64 3, .int .i64 0, .string ⟨#[]⟩, .slice A2 0 c2, .slice A3 1 c3, .slice none 0 0], .bool true]) ∧ Below wtA.heap.size wtA w') from by
              refine (getR_L hlt (o := 2) ⟨by omega, by omega⟩ (quL_2 0 ms) (by show 0 ≤ 1000; omega) (by show 1 ≤ 1000; omega)).mono ?_
              rintro e w' ⟨A2, c2, A3, c3, rfl, hcp, _⟩
              exact ⟨A2, c2, A3, c3, rfl, hcp.below⟩)
            have HLtA := Lib.hid (HL6.out.below hlt.base)
            clear hlt
            go_wp2_with fail
            refine CGA.out.mono ?_
            rintro e wuA ⟨A2, c2, A3, c3, rfl, hbu⟩
            obtain ⟨wvA, hwv⟩ : ∃ wv, wv = wuA.alloc (.cells #[.int .i64 2, .int .i64 1, .int .i64 2, .int .i64 1, .int .i64 3, .int .i64 0, .string ⟨#[]⟩, .slice A2 0 c2, .slice A3 1 c3, .slice none 0 0] 29) := ⟨_, rfl⟩
            have hbv : Below wuA.heap.size wuA wvA := by rw [hwv]; exact (Below.refl _ _).alloc (Nat.le_refl _) _
            have hgv : wvA.heap[wuA.heap.size]? = some (.cells #[.int .i64 2, .int .i64 1, .int .i64 2, .int .i64 1, .int .i64 3, .int .i64 0, .string ⟨#[]⟩, .slice A2 0 c2, .slice A3 1 c3, .slice none 0 0] 29 (0, 0)) := by rw [hwv]; exact heap_alloc_new wuA _
            have v1 := cell_of_row wvA _ 1 _ _ _ hgv
            have v2 := cell_of_row wvA _ 2 _ _ _ hgv
            have v5 := cell_of_row wvA _ 5 _ _ _ hgv
            have HLvA := Lib.hid ((HLtA.out.below hbu).below hbv)
            have HWVA := Lib.hid hwv
            clear hbu hbv hgv hwv
            go_upto_region 31 with fail
            rw [← HWVA.out]
            go_wp2_with fail
            go_roundg j
            case measure => omega
            case rel => exact ⟨i + 1, 0, ms, mx, Km, rfl, by go_num, by omega, HQI.out.next, HMN.out, HMB.out, HLvA.out⟩
        | false =>
          cases ms with
          | nil =>
            clear p0 p1 p2
            have CTA := Lib.hid (wtab_L (gW := gW) HLR.out (List.mem_append_right _ (by simp)) (quL_small _ _))
            go_wp2_with fail
            refine CTA.out.mono ?_
            rintro e wtA ⟨aA, mA, rfl, hlt⟩
            have CGA := Lib.hid (show Calls Tryz.prog 13 #[.pointer (some ⟨aA, 0, none⟩), .int .i64 2] wtA (fun e w' => ∃ A2 c2 A3 c3, e = .returned (.tuple #[.agg #[.int .i64 2, .int .i64 1, .int .i64 2, .int .i64 1, .int .i64 3, .int .i64 q, .string ⟨#[]⟩, .slice A2 0 c2, .slice A3 1 c3, .slice none 0 0], .bool true]) ∧ Below wtA.heap.size wtA w') from by
              refine (getR_L hlt (o := 2) ⟨by omega, by omega⟩ (quL_2 q []) (by show 0 ≤ 1000; omega) (by show 1 ≤ 1000; omega)).mono ?_
              rintro e w' ⟨A2, c2, A3, c3, rfl, hcp, _⟩
              exact ⟨A2, c2, A3, c3, rfl, hcp.below⟩)
            have HLtA := Lib.hid (HLR.out.below hlt.base)
            clear hlt
            go_wp2_with fail
            refine CGA.out.mono ?_
            rintro e wuA ⟨A2, c2, A3, c3, rfl, hbu⟩
            obtain ⟨wvA, hwv⟩ : ∃ wv, wv = wuA.alloc (.cells #[.int .i64 2, .int .i64 1, .int .i64 2, .int .i64 1, .int .i64 3, .int .i64 q, .string ⟨#[]⟩, .slice A2 0 c2, .slice A3 1 c3, .slice none 0 0] 29) := ⟨_, rfl⟩
            have hbv : Below wuA.heap.size wuA wvA := by rw [hwv]; exact (Below.refl _ _).alloc (Nat.le_refl _) _
            have hgv : wvA.heap[wuA.heap.size]? = some (.cells #[.int .i64 2, .int .i64 1, .int .i64 2, .int .i64 1, .int .i64 3, .int .i64 q, .string ⟨#[]⟩, .slice A2 0 c2, .slice A3 1 c3, .slice none 0 0] 29 (0, 0)) := by rw [hwv]; exact heap_alloc_new wuA _
            have v1 := cell_of_row wvA _ 1 _ _ _ hgv
            have v2 := cell_of_row wvA _ 2 _ _ _ hgv
            have v5 := cell_of_row wvA _ 5 _ _ _ hgv
            have HLvA := Lib.hid ((HLtA.out.below hbu).below hbv)
            have HWVA := Lib.hid hwv
            clear hbu hbv hgv hwv
            go_upto_region 31 with fail
            rw [← HWVA.out]
            go_wp2_with fail
            go_roundg j
            case measure => omega
            case rel => exact ⟨i + 1, q, [], mx, Km, rfl, by go_num, by omega, HQI.out.next, HMN.out, HMB.out, HLvA.out⟩
          | cons x ms =>
            have hx3 := (HQI.out.lo x (List.mem_cons_self ..)).1
            have hxm := (HQI.out.lo x (List.mem_cons_self ..)).2
            have CC := Lib.hid (show ∀ W, Below wr.heap.size wr W → Calls Tryz.prog 40 #[.pointer (some ⟨gW, 0, none⟩), .agg #[.int .i64 2, .bool false, .bool true], .int .i64 x] W (fun e w' => e = .returned (.int .i64 0) ∧ LS w2.heap.size w2 w' a m (quL (q + 1) ms) mx (Km ++ [(gp, .cells #[.int .i64 2, .bool false, .bool true] 71 (0, 0)), WK gW a])) from fun W hW => by
              refine (wrec_q (HLR.out.below hW) (List.mem_append_right _ (by simp)) ⟨by omega, by have := HQI.out.mxi; omega⟩ (by omega) (quL_get q x ms hx3) (quL_2 q (x :: ms)) rfl HQI.out.q0 (by have := HQI.out.sum; show q ≤ 1000; omega) (quL_kids q x (x :: ms) hx3) (quL_cont q x (x :: ms) hx3)).mono ?_
              rintro e w' ⟨rfl, hl'⟩
              refine ⟨rfl, ?_⟩
              rw [← quL_del (q + 1) x ms hx3 (List.pairwise_cons.1 HQI.out.up).1, ← quL_rep q (q + 1) (x :: ms) (fun o ho => (HQI.out.lo o ho).1)]
              exact hl')
            have hwq : IntKind.i64.wrap (q + 1) = q + 1 := wrap_i64 ⟨by have := HQI.out.q0; omega, by have := HQI.out.sum; omega⟩
            rcases HMN.out with ⟨_, _, e, _⟩ | ⟨g, off, cap, cur, ev, hle, hsz, hcells, rfl⟩
            · cases e
            injection ev with e1 _ e3
            subst e1
            subst e3
            have hgc := HLR.out.row (List.mem_cons_self ..)
            have hx0 : wr.cell? ⟨g, off, none⟩ = some (.int .i64 x) := by
              rw [cell_of_row wr g off _ _ _ hgc]
              exact hcells 0 x rfl
            have HCL := Lib.hid hcells
            rw [List.length_cons] at hle
            clear hgc hcells
            have hpos : (0 : Int) < (((x :: ms).length : Nat) : Int) := by rw [List.length_cons]; omega
            go_upto_region 26 with fail
            go_still_tail 5, (by kernel_rfl)
            change wpList _ _ _ _ _ wr.drew
            go_wp2_with fail
            refine (CC.out _ (Below.refl _ wr).drew).mono ?_
            rintro e w6 ⟨rfl, hl6⟩
            have HL6 := Lib.hid hl6
            clear hl6 p0 p1 p2 hx0
            obtain ⟨cap, rfl⟩ : ∃ k, cm = k + 1 := ⟨cm - 1, by omega⟩
            cases cap with
            | zero =>
              obtain rfl : ms = [] := List.eq_nil_of_length_eq_zero (by omega)
              have HL7 := Lib.hid (show LS w2.heap.size w2 w6 a m (quL (q + 1) []) mx ([] ++ [(gp, .cells #[.int .i64 2, .bool false, .bool true] 71 (0, 0)), WK gW a]) from HL6.out.pop)
              have CTA := Lib.hid (wtab_L (gW := gW) HL7.out (List.mem_append_right _ (by simp)) (quL_small _ _))
              go_wp2_with fail
              refine CTA.out.mono ?_
              rintro e wtA ⟨aA, mA, rfl, hlt⟩
              have CGA := Lib.hid (show Calls Tryz.prog 13 #[.pointer (some ⟨aA, 0, none⟩), .int .i64 2] wtA (fun e w' => ∃ A2 c2 A3 c3, e = .returned (.tuple #[.agg #[.int .i64 2, .int .i64 1, .int .i64 2, .int .i64 1, .int .i64 3, .int .i64 (q + 1), .string ⟨#[]⟩, .slice A2 0 c2, .slice A3 1 c3, .slice none 0 0], .bool true]) ∧ Below wtA.heap.size wtA w') from by
                refine (getR_L hlt (o := 2) ⟨by omega, by omega⟩ (quL_2 (q + 1) []) (by show 0 ≤ 1000; omega) (by show 1 ≤ 1000; omega)).mono ?_
                rintro e w' ⟨A2, c2, A3, c3, rfl, hcp, _⟩
                exact ⟨A2, c2, A3, c3, rfl, hcp.below⟩)
              have HLtA := Lib.hid (HL7.out.below hlt.base)
              clear hlt
              go_wp2_with fail
              refine CGA.out.mono ?_
              rintro e wuA ⟨A2, c2, A3, c3, rfl, hbu⟩
              obtain ⟨wvA, hwv⟩ : ∃ wv, wv = wuA.alloc (.cells #[.int .i64 2, .int .i64 1, .int .i64 2, .int .i64 1, .int .i64 3, .int .i64 (q + 1), .string ⟨#[]⟩, .slice A2 0 c2, .slice A3 1 c3, .slice none 0 0] 29) := ⟨_, rfl⟩
              have hbv : Below wuA.heap.size wuA wvA := by rw [hwv]; exact (Below.refl _ _).alloc (Nat.le_refl _) _
              have hgv : wvA.heap[wuA.heap.size]? = some (.cells #[.int .i64 2, .int .i64 1, .int .i64 2, .int .i64 1, .int .i64 3, .int .i64 (q + 1), .string ⟨#[]⟩, .slice A2 0 c2, .slice A3 1 c3, .slice none 0 0] 29 (0, 0)) := by rw [hwv]; exact heap_alloc_new wuA _
              have v1 := cell_of_row wvA _ 1 _ _ _ hgv
              have v2 := cell_of_row wvA _ 2 _ _ _ hgv
              have v5 := cell_of_row wvA _ 5 _ _ _ hgv
              have HLvA := Lib.hid ((HLtA.out.below hbu).below hbv)
              have HWVA := Lib.hid hwv
              clear hbu hbv hgv hwv
              go_upto_region 31 with fail
              rw [← HWVA.out]
              go_wp2_with fail
              go_roundg j
              case measure => omega
              case rel => exact ⟨i + 1, (q + 1), [], mx, [], rfl, by go_num, by omega, HQI.out.gone, .inl ⟨_, rfl, rfl, rfl⟩, by simp, HLvA.out⟩
            | succ cap =>
              have HMN7 := Lib.hid (show MnR (.slice (some ⟨g, off + 1, none⟩) ms.length (cap + 1)) ms [(g, .cells cur 3 (0, 0))] from .inr ⟨g, off + 1, cap + 1, cur, rfl, by omega, by omega, fun k y hk => by
                have := HCL.out (k + 1) y hk
                rw [← this]
                congr 1
                omega, rfl⟩)
              have CTA := Lib.hid (wtab_L (gW := gW) HL6.out (List.mem_append_right _ (by simp)) (quL_small _ _))
              go_wp2_with fail
              refine CTA.out.mono ?_
              rintro e wtA ⟨aA, mA, rfl, hlt⟩
              have CGA := Lib.hid (show Calls Tryz.prog 13 #[.pointer (some ⟨aA, 0, none⟩), .int .i64 2] wtA (fun e w' => ∃ A2 c2 A3 c3, e = .returned (.tuple #[.agg #[.int .i64 2, .int .i64 1, .int .i64 2, .int .i64 1, .int .i64 3, .int .i64 (q + 1), .string ⟨#[]⟩, .slice A2 0 c2, .slice A3 1 c3, .slice none 0 0], .bool true]) ∧ Below wtA.heap.size wtA w') from by
                refine (getR_L hlt (o := 2) ⟨by omega, by omega⟩ (quL_2 (q + 1) ms) (by show 0 ≤ 1000; omega) (by show 1 ≤ 1000; omega)).mono ?_
                rintro e w' ⟨A2, c2, A3, c3, rfl, hcp, _⟩
                exact ⟨A2, c2, A3, c3, rfl, hcp.below⟩)
              have HLtA := Lib.hid (HL6.out.below hlt.base)
              clear hlt
              go_wp2_with fail
              refine CGA.out.mono ?_
              rintro e wuA ⟨A2, c2, A3, c3, rfl, hbu⟩
              obtain ⟨wvA, hwv⟩ : ∃ wv, wv = wuA.alloc (.cells #[.int .i64 2, .int .i64 1, .int .i64 2, .int .i64 1, .int .i64 3, .int .i64 (q + 1), .string ⟨#[]⟩, .slice A2 0 c2, .slice A3 1 c3, .slice none 0 0] 29) := ⟨_, rfl⟩
              have hbv : Below wuA.heap.size wuA wvA := by rw [hwv]; exact (Below.refl _ _).alloc (Nat.le_refl _) _
              have hgv : wvA.heap[wuA.heap.size]? = some (.cells #[.int .i64 2, .int .i64 1, .int .i64 2, .int .i64 1, .int .i64 3, .int .i64 (q + 1), .string ⟨#[]⟩, .slice A2 0 c2, .slice A3 1 c3, .slice none 0 0] 29 (0, 0)) := by rw [hwv]; exact heap_alloc_new wuA _
              have v1 := cell_of_row wvA _ 1 _ _ _ hgv
              have v2 := cell_of_row wvA _ 2 _ _ _ hgv
              have v5 := cell_of_row wvA _ 5 _ _ _ hgv
              have HLvA := Lib.hid ((HLtA.out.below hbu).below hbv)
              have HWVA := Lib.hid hwv
              clear hbu hbv hgv hwv
              go_upto_region 31 with fail
              rw [← HWVA.out]
              go_wp2_with fail
              go_roundg j
              case measure => omega
              case rel => exact ⟨i + 1, (q + 1), ms, mx, _, rfl, by go_num, by omega, HQI.out.gone, HMN7.out, HMB.out, HLvA.out⟩
      · obtain rfl : i = l.length := by omega
        have HF := Lib.hid (HB2.out.trans (hlr.base.mono HB2.out.size))
        clear hlr hmn hmB hqi
        go_wp2_with fail
        go_ret
        exact ⟨rfl, HF.out⟩
end Go.Proofs.YtnphgcbknfmapaaGreatDoor
namespace Go.Proofs.YtnphgcbknfmapaaGreatDoor
open Go.ChangeShapes Go.WideShapes Go.ChangeAt Go.RowKit Go.Lib
set_option linter.unusedVariables false

theorem qcells_bool : Tryz.prog.cellsOf 4 = 1 := by kernel_rfl
theorem add_plainQ (b o j : Nat) : (⟨b, o, none⟩ : Addr).add j = ⟨b, o + j, none⟩ := by unfold Addr.add; split <;> simp_all
section
variable {H : Type} {enc : TypeId × Value → H} {W : World} {sp : Nat → Bool} {held : Bool}
theorem trod_bQ {n : Nat} {cs : List Value} {x : DataW H × List MemPlace} (h : DataW.trod enc Tryz.prog W 0 sp held n 4 cs = some x) : ∃ b : Bool, cs = [.bool b] := by
  obtain ⟨b, e, _⟩ := DataW.trod_bool Tryz.underlying4 h
  exact ⟨b, e⟩
theorem open_boolsQ {v : Value} {d : DataW H} {p : List MemPlace} (hv : v.cells.toList = [v]) (h : DataW.Trod enc Tryz.prog W 0 sp held 59 v d p) :
    ∃ (l : List Bool) (A : Option Addr) (c : Nat), v = .slice A l.length c ∧ l.length ≤ 9223372036854775807 ∧ ArgQ W A l := by
  have hmax : maxLen ≤ 9223372036854775807 := by decide
  obtain ⟨fuel, hf⟩ := h
  rw [hv] at hf
  rcases DataW.trod_slice Tryz.underlying59 hf with ⟨hcs, _⟩ | ⟨a, len, cap, elems, rest, n, _, hcs, _, _, hlc, hcm, hlen, hel, _, _⟩
  · injection hcs with hcs _
    exact ⟨[], none, 0, hcs, by decide, .inl rfl⟩
  · injection hcs with hcs _
    by_cases h0 : len = 0
    · subst h0
      exact ⟨[], some a, cap, hcs, by decide, .inl rfl⟩
    have key : ∀ i, i < len → ∃ b : Bool, W.cell? (a.add i) = some (.bool b) := by
      intro i hi
      have e0 := hel i hi
      rw [qcells_bool, Nat.mul_one] at e0
      obtain ⟨y, hy⟩ : ∃ y, elems[i]? = some y := ⟨elems[i]'(by omega), List.getElem?_eq_getElem (by omega)⟩
      rw [hy, Option.bind_eq_some_iff] at e0
      obtain ⟨cs, hcs, ht⟩ := e0
      obtain ⟨b, rfl⟩ := trod_bQ ht
      have := (World.cells?_some hcs).2.2 0 (by omega)
      exact ⟨b, by simpa [Addr.add] using this⟩
    obtain ⟨b, o, spot⟩ := a
    obtain ⟨b0, hc0⟩ := key 0 (by omega)
    have hspot : spot = none := by simpa [Addr.add] using World.cell?_spot hc0
    subst hspot
    have hb : b < W.heap.size := by
      rw [add_plainQ] at hc0
      unfold World.cell? at hc0
      rcases Nat.lt_or_ge b W.heap.size with hlt | hge
      · exact hlt
      · simp only [Array.getElem?_eq_none hge] at hc0; cases hc0
    refine ⟨(List.range len).map fun i => (match W.cell? ⟨b, o + i, none⟩ with | some (.bool x) => x | _ => false), some ⟨b, o, none⟩, cap, by rw [List.length_map, List.length_range]; exact hcs, by rw [List.length_map, List.length_range]; omega, .inr ⟨b, o, rfl, hb, fun j x hj => ?_⟩⟩
    have hjl : j < len := by
      have := (List.getElem?_eq_some_iff.1 hj).1
      rw [List.length_map, List.length_range] at this
      exact this
    obtain ⟨y, hy⟩ := key j hjl
    rw [add_plainQ] at hy
    rw [List.getElem?_map, List.getElem?_range hjl, Option.map_some, hy] at hj
    injection hj with hj
    rw [hy, ← hj]
end
end Go.Proofs.YtnphgcbknfmapaaGreatDoor
