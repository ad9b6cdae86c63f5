/- Contracts of the functions that the statement reaches, and the plain mathematics beneath: several texts joined. -/
import Derived.Test.YtnphgcbknfmapaaGreatDoorWowAN
import Derived.Test.YtnphgcbknfmapaaGreatDoorWowAE
namespace Go.Proofs.YtnphgcbknfmapaaGreatDoor
open Go.RowKit Go.Lib
set_option linter.unusedVariables false
set_option linter.unusedSimpArgs false

set_option maxRecDepth 100000 in
set_option maxHeartbeats 4000000 in
theorem owners_n00 (bits0 id0 b4 i4 : Int) (w : World) (hb0 : I64 bits0) (hid : I64 id0) (hb4 : bits0 % 8 = b4) (hb : 0 ≤ b4 ∧ b4 < 8) (hid4 : id0 % 4 = i4) (hi : 0 ≤ i4 ∧ i4 < 4) (hn2 : (i4 == 2) = false) (h1 : (Go.bits .and .i64 b4 1 != 0) = false) (h2 : (Go.bits .and .i64 b4 2 != 0) = false) :
    Calls Tryz.prog 6 #[.int .i64 bits0, .int .i64 id0, .bool false] w fun e w' => e = .returned (.bool true) ∧ Below w.heap.size w w' := by
  have CF := Lib.hid (wfirst_c w)
  have CI := Lib.hid (fun W => onumber_c bits0 8 W hb0 (by omega) (by omega))
  rw [hb4] at CI
  have CT := Lib.hid (fun W => onumber_c id0 4 W hid (by omega) (by omega))
  rw [hid4] at CT
  have HBB := Lib.hid hb
  have HN2 := Lib.hid hn2
  have H1 := Lib.hid h1
  have H2 := Lib.hid h2
  clear hb0 hid hb4 hid4
  go_enter Tryz.func6, Tryz.ntmps6
  go_wp2_with fail
  refine CF.out.mono ?_
  rintro e w1 ⟨rfl, hb1⟩
  have HB1 := Lib.hid hb1
  clear hb1 CF
  go_wp2_with fail
  refine (CI.out _).mono ?_
  rintro e w2 ⟨rfl, rfl⟩
  go_wp2_with fail
  refine (CT.out _).mono ?_
  rintro e w2 ⟨rfl, rfl⟩
  have CRM := Lib.hid (room_c w1)
  go_wp2_with fail
  refine CRM.out.mono ?_
  rintro e w2 ⟨rfl, hin, hb2⟩
  have CN := Lib.hid (wnew_c w2 hin)
  have HB2 := Lib.hid (HB1.out.trans (hb2.mono HB1.out.size))
  clear hin hb2 CRM
  go_wp2_with fail
  refine CN.out.mono ?_
  rintro e w3 ⟨gW, a, m, rfl, hl3⟩
  have HL3 := Lib.hid hl3
  clear hl3 CN
  have CW := Lib.hid (who_W (gW := gW) (o := 2) HL3.out (by simp) ⟨by omega, by omega⟩ room2 (wz := false) (pg := true) (by decide) (by decide))
  go_wp2_with fail
  refine CW.out.mono ?_
  rintro e w4 ⟨rfl, hb4⟩
  have HL4 := Lib.hid (HL3.out.below hb4)
  clear hb4 CW
  have CV := Lib.hid (show ∀ W, Calls Tryz.prog 24 #[.int .i64 9] W (fun e w' => e = .returned (.agg #[.int .i64 0, .int .i64 9, .string ⟨#[]⟩, .slice none 0 0]) ∧ Below W.heap.size W w') from fun W => valI_c 9 W)
  go_wp2_with fail
  refine (CV.out _).mono ?_
  rintro e w5 ⟨rfl, hb5⟩
  have HL5 := Lib.hid (HL4.out.below hb5)
  clear hb5
  have CA := Lib.hid (show Calls Tryz.prog 33 #[.pointer (some ⟨gW, 0, none⟩), .agg #[.int .i64 2, .bool false, .bool true], .int .i64 2, .agg #[.string ⟨#[111, 119, 110]⟩, .int .i64 2, .int .i64 b4, .bool false, .int .i64 0, .int .i64 9, .string ⟨#[]⟩, .slice none 0 0]] w5 (fun e w' => e = .returned (.int .i64 0) ∧ LS w2.heap.size w2 w' a m (roomQ (slOwn 2 b4 9)) 3 [WK gW a]) from waddp_c (gW := gW) (id := 2) (wz := false) (pg := true) (o := 2) HL5.out (by simp) ⟨by omega, by omega⟩ room2 ownS b4 9 (by decide) nm_own notBi_own.bi slot_none2 below2 (t := slR2) rfl ⟨HBB.out.1, by have := HBB.out.2; show b4 ≤ 7; omega, rfl, rfl⟩ less_own ⟨by omega, by omega⟩ (by decide) HBB.out.1 (by have := HBB.out.2; omega) rfl (by decide))
  go_wp2_with fail
  refine CA.out.mono ?_
  rintro e w7 ⟨rfl, hl7⟩
  obtain ⟨w8, hw8⟩ : ∃ w8, w8 = w7.alloc (.cells #[.int .i64 i4, .bool false, .bool false] 71) := ⟨_, rfl⟩
  have hb8 : Below w7.heap.size w7 w8 := by rw [hw8]; exact (Below.refl _ _).alloc (Nat.le_refl _) _
  have g8 : w8.heap[w7.heap.size]? = some (.cells #[.int .i64 i4, .bool false, .bool false] 71 (0, 0)) := by rw [hw8]; exact heap_alloc_new w7 _
  have HL8 := Lib.hid (hl7.push hb8 (Nat.le_refl _) g8)
  have HW8 := Lib.hid hw8
  have CG := Lib.hid (show Calls Tryz.prog 35 #[.pointer (some ⟨gW, 0, none⟩), .agg #[.int .i64 i4, .bool false, .bool false], .int .i64 2, .string ⟨#[111, 119, 110]⟩] w8 (fun e w' => e = .returned (.tuple #[.agg #[.int .i64 0, .int .i64 0, .string ⟨#[]⟩, .slice none 0 0], .int .i64 3]) ∧ LS w2.heap.size w2 w' a m (roomQ (slOwn 2 b4 9)) 3 [(w7.heap.size, .cells #[.int .i64 i4, .bool false, .bool false] 71 (0, 0)), WK gW a]) from wget_no (gW := gW) (id := i4) (wz := false) (pg := false) (o := 2) HL8.out (by simp) ⟨by omega, by omega⟩ (getQ _) ownS (i := 0) (s := slOwn 2 b4 9) (slotQ rfl) rfl notBi_own.bi (parQ _) (by simp only [ownB, slOwn, HN2.out, Bool.or_self, Bool.false_or]; exact H1.out))
  have p0 := cell_of_row w8 _ 0 _ _ _ g8
  have p1 := cell_of_row w8 _ 1 _ _ _ g8
  have p2 := cell_of_row w8 _ 2 _ _ _ g8
  clear hl7 hb8 g8 hw8 CA
  go_upto_region 12 with fail
  rw [← HW8.out]
  go_wp2_with fail
  refine CG.out.mono ?_
  rintro e w9 ⟨rfl, hl9⟩
  obtain ⟨wx, hwx⟩ : ∃ wx, wx = w9.alloc (.cells #[.int .i64 0, .int .i64 0, .string ⟨#[]⟩, .slice none 0 0] 33) := ⟨_, rfl⟩
  have hbx : Below w9.heap.size w9 wx := by rw [hwx]; exact (Below.refl _ _).alloc (Nat.le_refl _) _
  have gx : wx.heap[w9.heap.size]? = some (.cells #[.int .i64 0, .int .i64 0, .string ⟨#[]⟩, .slice none 0 0] 33 (0, 0)) := by rw [hwx]; exact heap_alloc_new w9 _
  have hlx := hl9.push hbx (Nat.le_refl _) gx
  have HLX := Lib.hid hlx
  have HWX := Lib.hid hwx
  have CV8 := Lib.hid (show ∀ W, Calls Tryz.prog 24 #[.int .i64 8] W (fun e w' => e = .returned (.agg #[.int .i64 0, .int .i64 8, .string ⟨#[]⟩, .slice none 0 0]) ∧ Below W.heap.size W w') from fun W => valI_c 8 W)
  have CP := Lib.hid (show ∀ W, Below wx.heap.size wx W → Calls Tryz.prog 36 #[.pointer (some ⟨gW, 0, none⟩), .agg #[.int .i64 i4, .bool false, .bool false], .int .i64 2, .string ⟨#[111, 119, 110]⟩, .agg #[.int .i64 0, .int .i64 8, .string ⟨#[]⟩, .slice none 0 0]] W (fun e w' => e = .returned (.int .i64 3) ∧ LS w2.heap.size w2 w' a m (roomQ (slOwn 2 b4 9)) 3 [(w9.heap.size, .cells #[.int .i64 0, .int .i64 0, .string ⟨#[]⟩, .slice none 0 0] 33 (0, 0)), (w7.heap.size, .cells #[.int .i64 i4, .bool false, .bool false] 71 (0, 0)), WK gW a]) from fun W hW => by
    have h := HLX.out.below hW
    refine (wput_no (gW := gW) (id := i4) (wz := false) (pg := false) (o := 2) h (by simp) ⟨by omega, by omega⟩ (getQ _) ownS (i := 0) (s := slOwn 2 b4 9) (slotQ rfl) rfl notBi_own (by simp only [ownB, slOwn, HN2.out, Bool.or_self, Bool.false_or]; exact H2.out) 8).mono ?_
    rintro e w' ⟨rfl, hb⟩
    exact ⟨rfl, h.below hb⟩)
  have gp := hlx.row (List.mem_cons_of_mem _ (List.mem_cons_self ..))
  have KS := Lib.hid (show ∀ W, LS w2.heap.size w2 W a m (roomQ (slOwn 2 b4 9)) 3 [(w9.heap.size, .cells #[.int .i64 0, .int .i64 0, .string ⟨#[]⟩, .slice none 0 0] 33 (0, 0)), (w7.heap.size, .cells #[.int .i64 i4, .bool false, .bool false] 71 (0, 0)), WK gW a] → (fun W => W.cell? ⟨w7.heap.size, 0, none⟩ = some (.int .i64 i4) ∧ W.cell? ⟨w7.heap.size, 1, none⟩ = some (.bool false) ∧ W.cell? ⟨w7.heap.size, 2, none⟩ = some (.bool false)) W from fun W hW => by
    have g := hW.row (List.mem_cons_of_mem _ (List.mem_cons_self ..))
    exact ⟨cell_of_row W _ 0 _ _ _ g, cell_of_row W _ 1 _ _ _ g, cell_of_row W _ 2 _ _ _ g⟩)
  have KX := Lib.hid (show ∀ W, Below wx.heap.size wx W → (fun W => W.cell? ⟨w7.heap.size, 0, none⟩ = some (.int .i64 i4) ∧ W.cell? ⟨w7.heap.size, 1, none⟩ = some (.bool false) ∧ W.cell? ⟨w7.heap.size, 2, none⟩ = some (.bool false)) W from fun W hW => by
    have g := (HLX.out.below hW).row (List.mem_cons_of_mem _ (List.mem_cons_self ..))
    exact ⟨cell_of_row W _ 0 _ _ _ g, cell_of_row W _ 1 _ _ _ g, cell_of_row W _ 2 _ _ _ g⟩)
  clear hl9 hbx gx hlx hwx gp CG p0 p1 p2
  go_upto_region 14 with fail
  rw [← HWX.out]
  refine wp_region_heldTo 4 (fun W => W.cell? ⟨w7.heap.size, 0, none⟩ = some (.int .i64 i4) ∧ W.cell? ⟨w7.heap.size, 1, none⟩ = some (.bool false) ∧ W.cell? ⟨w7.heap.size, 2, none⟩ = some (.bool false)) (by kernel_rfl) (by kernel_rfl) (KX.out _ ((Below.refl _ wx).drew)) (fun hSucc hHeld => ?_)
  refine heldTo_take (i := 0) (oi := _) (v := (.pointer (some ⟨gW, 0, none⟩))) hSucc rfl (by kernel_rfl) (by kernel_rfl) (by kernel_rfl) (by kernel_rfl) rfl (fun _ _ _ h => h) (Or.inl ⟨by rfl, fun W hSw => ?_⟩) (by with_reducible assumption) ?_
  · (try dsimp only at hSw); go_simp
  change heldTo _ _ _ _ _ _ _ _ (Act.put _ (some 59) _) _
  simp only [Act.put, List.setIfInBounds_toArray, List.set_cons_zero, List.set_cons_succ]
  refine heldTo_take (i := 1) (oi := _) (v := (.agg #[.int .i64 i4, .bool false, .bool false])) hSucc rfl (by kernel_rfl) (by kernel_rfl) (by kernel_rfl) (by kernel_rfl) rfl (fun _ _ _ h => h) (Or.inl ⟨by rfl, fun W hSw => ?_⟩) (by with_reducible assumption) ?_
  · (try dsimp only at hSw); go_simp
  change heldTo _ _ _ _ _ _ _ _ (Act.put _ (some 60) _) _
  simp only [Act.put, List.setIfInBounds_toArray, List.set_cons_zero, List.set_cons_succ]
  refine heldTo_one (i := 2) (o := _) (by kernel_rfl) rfl (fun K hK => ?_)
  go_simp
  go_at_call 24
  refine (CV8.out _).mono ?_
  rintro e wy ⟨rfl, hby⟩
  have HBY := Lib.hid (show Below wx.heap.size wx wy from ((Below.refl wx.heap.size wx).drew).trans hby)
  clear hby hHeld
  refine hK.out _ _ (KX.out _ HBY.out) (fun hHeld => ?_)
  clear hK K
  refine heldTo_one (i := 3) (o := _) (by kernel_rfl) rfl (fun K hK => ?_)
  go_simp
  go_at_call 36
  refine (CP.out _ HBY.out).mono ?_
  rintro e wq ⟨rfl, hlq⟩
  have HLQ := Lib.hid hlq
  clear hlq hHeld
  refine hK.out _ _ (KS.out _ HLQ.out) (fun hHeld => ?_)
  clear hK K
  refine heldTo_last (o := _) (by kernel_rfl) rfl (fun K hK => ?_)
  go_simp
  refine hK.out _ _ ?_
  clear hK K hHeld
  refine heldTo_done (by kernel_rfl) ?_ _
  have CC := Lib.hid (show Calls Tryz.prog 37 #[.pointer (some ⟨gW, 0, none⟩), .agg #[.int .i64 i4, .bool false, .bool false], .int .i64 2, .string ⟨#[111, 119, 110]⟩, .int .i64 2, .int .i64 b4] wq (fun e w' => e = .returned (.int .i64 3) ∧ LS w2.heap.size w2 w' a m (roomQ (slOwn 2 b4 9)) 3 [(w9.heap.size, .cells #[.int .i64 0, .int .i64 0, .string ⟨#[]⟩, .slice none 0 0] 33 (0, 0)), (w7.heap.size, .cells #[.int .i64 i4, .bool false, .bool false] 71 (0, 0)), WK gW a]) from by
    refine (winfo_no (gW := gW) (id := i4) (wz := false) (pg := false) (o := 2) HLQ.out (by simp) ⟨by omega, by omega⟩ (getQ _) ownS (i := 0) (s := slOwn 2 b4 9) (slotQ rfl) rfl 2 b4 (by simp only [ownB, slOwn, HN2.out, Bool.or_self, Bool.false_or]; exact and_zero_no HBB.out)).mono ?_
    rintro e w' ⟨rfl, hb⟩
    exact ⟨rfl, HLQ.out.below hb⟩)
  have gp := HLQ.out.row (List.mem_cons_of_mem _ (List.mem_cons_self ..))
  have p0 := cell_of_row wq _ 0 _ _ _ gp
  have p1 := cell_of_row wq _ 1 _ _ _ gp
  have p2 := cell_of_row wq _ 2 _ _ _ gp
  clear gp
  go_wp2_with fail
  refine CC.out.mono ?_
  rintro e wr ⟨rfl, hlr⟩
  have HLR := Lib.hid hlr
  have CD := Lib.hid (show Calls Tryz.prog 37 #[.pointer (some ⟨gW, 0, none⟩), .agg #[.int .i64 i4, .bool false, .bool false], .int .i64 2, .string ⟨#[111, 119, 110]⟩, .int .i64 3, .int .i64 b4] wr (fun e w' => e = .returned (.int .i64 3) ∧ LS w2.heap.size w2 w' a m (roomQ (slOwn 2 b4 9)) 3 [(w9.heap.size, .cells #[.int .i64 0, .int .i64 0, .string ⟨#[]⟩, .slice none 0 0] 33 (0, 0)), (w7.heap.size, .cells #[.int .i64 i4, .bool false, .bool false] 71 (0, 0)), WK gW a]) from by
    refine (winfo_no (gW := gW) (id := i4) (wz := false) (pg := false) (o := 2) HLR.out (by simp) ⟨by omega, by omega⟩ (getQ _) ownS (i := 0) (s := slOwn 2 b4 9) (slotQ rfl) rfl 3 b4 (by simp only [ownB, slOwn, HN2.out, Bool.or_self, Bool.false_or]; exact and_zero_no HBB.out)).mono ?_
    rintro e w' ⟨rfl, hb⟩
    exact ⟨rfl, HLR.out.below hb⟩)
  have gp := hlr.row (List.mem_cons_of_mem _ (List.mem_cons_self ..))
  have p0 := cell_of_row wr _ 0 _ _ _ gp
  have p1 := cell_of_row wr _ 1 _ _ _ gp
  have p2 := cell_of_row wr _ 2 _ _ _ gp
  clear gp hlr
  go_wp2_with fail
  refine CD.out.mono ?_
  rintro e ws ⟨rfl, hls⟩
  have gv := hls.row (List.mem_cons_self ..)
  have v1 := cell_of_row ws _ 1 _ _ _ gv
  have HF := Lib.hid (HB2.out.trans (hls.base.mono HB2.out.size))
  clear gv hls p0 p1 p2
  go_wp2_with fail
  go_ret
  exact ⟨rfl, HF.out⟩

set_option maxRecDepth 100000 in
set_option maxHeartbeats 4000000 in
theorem owners_n01 (bits0 id0 b4 i4 : Int) (w : World) (hb0 : I64 bits0) (hid : I64 id0) (hb4 : bits0 % 8 = b4) (hb : 0 ≤ b4 ∧ b4 < 8) (hid4 : id0 % 4 = i4) (hi : 0 ≤ i4 ∧ i4 < 4) (hn2 : (i4 == 2) = false) (h1 : (Go.bits .and .i64 b4 1 != 0) = false) (h2 : (Go.bits .and .i64 b4 2 != 0) = true) :
    Calls Tryz.prog 6 #[.int .i64 bits0, .int .i64 id0, .bool false] w fun e w' => e = .returned (.bool true) ∧ Below w.heap.size w w' := by
  have CF := Lib.hid (wfirst_c w)
  have CI := Lib.hid (fun W => onumber_c bits0 8 W hb0 (by omega) (by omega))
  rw [hb4] at CI
  have CT := Lib.hid (fun W => onumber_c id0 4 W hid (by omega) (by omega))
  rw [hid4] at CT
  have HBB := Lib.hid hb
  have HN2 := Lib.hid hn2
  have H1 := Lib.hid h1
  have H2 := Lib.hid h2
  clear hb0 hid hb4 hid4
  go_enter Tryz.func6, Tryz.ntmps6
  go_wp2_with fail
  refine CF.out.mono ?_
  rintro e w1 ⟨rfl, hb1⟩
  have HB1 := Lib.hid hb1
  clear hb1 CF
  go_wp2_with fail
  refine (CI.out _).mono ?_
  rintro e w2 ⟨rfl, rfl⟩
  go_wp2_with fail
  refine (CT.out _).mono ?_
  rintro e w2 ⟨rfl, rfl⟩
  have CRM := Lib.hid (room_c w1)
  go_wp2_with fail
  refine CRM.out.mono ?_
  rintro e w2 ⟨rfl, hin, hb2⟩
  have CN := Lib.hid (wnew_c w2 hin)
  have HB2 := Lib.hid (HB1.out.trans (hb2.mono HB1.out.size))
  clear hin hb2 CRM
  go_wp2_with fail
  refine CN.out.mono ?_
  rintro e w3 ⟨gW, a, m, rfl, hl3⟩
  have HL3 := Lib.hid hl3
  clear hl3 CN
  have CW := Lib.hid (who_W (gW := gW) (o := 2) HL3.out (by simp) ⟨by omega, by omega⟩ room2 (wz := false) (pg := true) (by decide) (by decide))
  go_wp2_with fail
  refine CW.out.mono ?_
  rintro e w4 ⟨rfl, hb4⟩
  have HL4 := Lib.hid (HL3.out.below hb4)
  clear hb4 CW
  have CV := Lib.hid (show ∀ W, Calls Tryz.prog 24 #[.int .i64 9] W (fun e w' => e = .returned (.agg #[.int .i64 0, .int .i64 9, .string ⟨#[]⟩, .slice none 0 0]) ∧ Below W.heap.size W w') from fun W => valI_c 9 W)
  go_wp2_with fail
  refine (CV.out _).mono ?_
  rintro e w5 ⟨rfl, hb5⟩
  have HL5 := Lib.hid (HL4.out.below hb5)
  clear hb5
  have CA := Lib.hid (show Calls Tryz.prog 33 #[.pointer (some ⟨gW, 0, none⟩), .agg #[.int .i64 2, .bool false, .bool true], .int .i64 2, .agg #[.string ⟨#[111, 119, 110]⟩, .int .i64 2, .int .i64 b4, .bool false, .int .i64 0, .int .i64 9, .string ⟨#[]⟩, .slice none 0 0]] w5 (fun e w' => e = .returned (.int .i64 0) ∧ LS w2.heap.size w2 w' a m (roomQ (slOwn 2 b4 9)) 3 [WK gW a]) from waddp_c (gW := gW) (id := 2) (wz := false) (pg := true) (o := 2) HL5.out (by simp) ⟨by omega, by omega⟩ room2 ownS b4 9 (by decide) nm_own notBi_own.bi slot_none2 below2 (t := slR2) rfl ⟨HBB.out.1, by have := HBB.out.2; show b4 ≤ 7; omega, rfl, rfl⟩ less_own ⟨by omega, by omega⟩ (by decide) HBB.out.1 (by have := HBB.out.2; omega) rfl (by decide))
  go_wp2_with fail
  refine CA.out.mono ?_
  rintro e w7 ⟨rfl, hl7⟩
  obtain ⟨w8, hw8⟩ : ∃ w8, w8 = w7.alloc (.cells #[.int .i64 i4, .bool false, .bool false] 71) := ⟨_, rfl⟩
  have hb8 : Below w7.heap.size w7 w8 := by rw [hw8]; exact (Below.refl _ _).alloc (Nat.le_refl _) _
  have g8 : w8.heap[w7.heap.size]? = some (.cells #[.int .i64 i4, .bool false, .bool false] 71 (0, 0)) := by rw [hw8]; exact heap_alloc_new w7 _
  have HL8 := Lib.hid (hl7.push hb8 (Nat.le_refl _) g8)
  have HW8 := Lib.hid hw8
  have CG := Lib.hid (show Calls Tryz.prog 35 #[.pointer (some ⟨gW, 0, none⟩), .agg #[.int .i64 i4, .bool false, .bool false], .int .i64 2, .string ⟨#[111, 119, 110]⟩] w8 (fun e w' => e = .returned (.tuple #[.agg #[.int .i64 0, .int .i64 0, .string ⟨#[]⟩, .slice none 0 0], .int .i64 3]) ∧ LS w2.heap.size w2 w' a m (roomQ (slOwn 2 b4 9)) 3 [(w7.heap.size, .cells #[.int .i64 i4, .bool false, .bool false] 71 (0, 0)), WK gW a]) from wget_no (gW := gW) (id := i4) (wz := false) (pg := false) (o := 2) HL8.out (by simp) ⟨by omega, by omega⟩ (getQ _) ownS (i := 0) (s := slOwn 2 b4 9) (slotQ rfl) rfl notBi_own.bi (parQ _) (by simp only [ownB, slOwn, HN2.out, Bool.or_self, Bool.false_or]; exact H1.out))
  have p0 := cell_of_row w8 _ 0 _ _ _ g8
  have p1 := cell_of_row w8 _ 1 _ _ _ g8
  have p2 := cell_of_row w8 _ 2 _ _ _ g8
  clear hl7 hb8 g8 hw8 CA
  go_upto_region 12 with fail
  rw [← HW8.out]
  go_wp2_with fail
  refine CG.out.mono ?_
  rintro e w9 ⟨rfl, hl9⟩
  obtain ⟨wx, hwx⟩ : ∃ wx, wx = w9.alloc (.cells #[.int .i64 0, .int .i64 0, .string ⟨#[]⟩, .slice none 0 0] 33) := ⟨_, rfl⟩
  have hbx : Below w9.heap.size w9 wx := by rw [hwx]; exact (Below.refl _ _).alloc (Nat.le_refl _) _
  have gx : wx.heap[w9.heap.size]? = some (.cells #[.int .i64 0, .int .i64 0, .string ⟨#[]⟩, .slice none 0 0] 33 (0, 0)) := by rw [hwx]; exact heap_alloc_new w9 _
  have hlx := hl9.push hbx (Nat.le_refl _) gx
  have HLX := Lib.hid hlx
  have HWX := Lib.hid hwx
  have CV8 := Lib.hid (show ∀ W, Calls Tryz.prog 24 #[.int .i64 8] W (fun e w' => e = .returned (.agg #[.int .i64 0, .int .i64 8, .string ⟨#[]⟩, .slice none 0 0]) ∧ Below W.heap.size W w') from fun W => valI_c 8 W)
  have CP := Lib.hid (show ∀ W, Below wx.heap.size wx W → Calls Tryz.prog 36 #[.pointer (some ⟨gW, 0, none⟩), .agg #[.int .i64 i4, .bool false, .bool false], .int .i64 2, .string ⟨#[111, 119, 110]⟩, .agg #[.int .i64 0, .int .i64 8, .string ⟨#[]⟩, .slice none 0 0]] W (fun e w' => e = .returned (.int .i64 0) ∧ LS w2.heap.size w2 w' a m (roomQ (slOwn 2 b4 8)) 3 [(w9.heap.size, .cells #[.int .i64 0, .int .i64 0, .string ⟨#[]⟩, .slice none 0 0] 33 (0, 0)), (w7.heap.size, .cells #[.int .i64 i4, .bool false, .bool false] 71 (0, 0)), WK gW a]) from fun W hW => by
    have h := HLX.out.below hW
    exact wput_yes (gW := gW) (id := i4) (wz := false) (pg := false) (o := 2) h (by simp) ⟨by omega, by omega⟩ (getQ _) ownS (i := 0) (s := slOwn 2 b4 9) (slotQ rfl) rfl notBi_own (by simp only [ownB, slOwn, HN2.out, Bool.or_self, Bool.false_or]; exact H2.out) 8)
  have gp := hlx.row (List.mem_cons_of_mem _ (List.mem_cons_self ..))
  have KS := Lib.hid (show ∀ W, LS w2.heap.size w2 W a m (roomQ (slOwn 2 b4 8)) 3 [(w9.heap.size, .cells #[.int .i64 0, .int .i64 0, .string ⟨#[]⟩, .slice none 0 0] 33 (0, 0)), (w7.heap.size, .cells #[.int .i64 i4, .bool false, .bool false] 71 (0, 0)), WK gW a] → (fun W => W.cell? ⟨w7.heap.size, 0, none⟩ = some (.int .i64 i4) ∧ W.cell? ⟨w7.heap.size, 1, none⟩ = some (.bool false) ∧ W.cell? ⟨w7.heap.size, 2, none⟩ = some (.bool false)) W from fun W hW => by
    have g := hW.row (List.mem_cons_of_mem _ (List.mem_cons_self ..))
    exact ⟨cell_of_row W _ 0 _ _ _ g, cell_of_row W _ 1 _ _ _ g, cell_of_row W _ 2 _ _ _ g⟩)
  have KX := Lib.hid (show ∀ W, Below wx.heap.size wx W → (fun W => W.cell? ⟨w7.heap.size, 0, none⟩ = some (.int .i64 i4) ∧ W.cell? ⟨w7.heap.size, 1, none⟩ = some (.bool false) ∧ W.cell? ⟨w7.heap.size, 2, none⟩ = some (.bool false)) W from fun W hW => by
    have g := (HLX.out.below hW).row (List.mem_cons_of_mem _ (List.mem_cons_self ..))
    exact ⟨cell_of_row W _ 0 _ _ _ g, cell_of_row W _ 1 _ _ _ g, cell_of_row W _ 2 _ _ _ g⟩)
  clear hl9 hbx gx hlx hwx gp CG p0 p1 p2
  go_upto_region 14 with fail
  rw [← HWX.out]
  refine wp_region_heldTo 4 (fun W => W.cell? ⟨w7.heap.size, 0, none⟩ = some (.int .i64 i4) ∧ W.cell? ⟨w7.heap.size, 1, none⟩ = some (.bool false) ∧ W.cell? ⟨w7.heap.size, 2, none⟩ = some (.bool false)) (by kernel_rfl) (by kernel_rfl) (KX.out _ ((Below.refl _ wx).drew)) (fun hSucc hHeld => ?_)
  refine heldTo_take (i := 0) (oi := _) (v := (.pointer (some ⟨gW, 0, none⟩))) hSucc rfl (by kernel_rfl) (by kernel_rfl) (by kernel_rfl) (by kernel_rfl) rfl (fun _ _ _ h => h) (Or.inl ⟨by rfl, fun W hSw => ?_⟩) (by with_reducible assumption) ?_
  · (try dsimp only at hSw); go_simp
  change heldTo _ _ _ _ _ _ _ _ (Act.put _ (some 59) _) _
  simp only [Act.put, List.setIfInBounds_toArray, List.set_cons_zero, List.set_cons_succ]
  refine heldTo_take (i := 1) (oi := _) (v := (.agg #[.int .i64 i4, .bool false, .bool false])) hSucc rfl (by kernel_rfl) (by kernel_rfl) (by kernel_rfl) (by kernel_rfl) rfl (fun _ _ _ h => h) (Or.inl ⟨by rfl, fun W hSw => ?_⟩) (by with_reducible assumption) ?_
  · (try dsimp only at hSw); go_simp
  change heldTo _ _ _ _ _ _ _ _ (Act.put _ (some 60) _) _
  simp only [Act.put, List.setIfInBounds_toArray, List.set_cons_zero, List.set_cons_succ]
  refine heldTo_one (i := 2) (o := _) (by kernel_rfl) rfl (fun K hK => ?_)
  go_simp
  go_at_call 24
  refine (CV8.out _).mono ?_
  rintro e wy ⟨rfl, hby⟩
  have HBY := Lib.hid (show Below wx.heap.size wx wy from ((Below.refl wx.heap.size wx).drew).trans hby)
  clear hby hHeld
  refine hK.out _ _ (KX.out _ HBY.out) (fun hHeld => ?_)
  clear hK K
  refine heldTo_one (i := 3) (o := _) (by kernel_rfl) rfl (fun K hK => ?_)
  go_simp
  go_at_call 36
  refine (CP.out _ HBY.out).mono ?_
  rintro e wq ⟨rfl, hlq⟩
  have HLQ := Lib.hid hlq
  clear hlq hHeld
  refine hK.out _ _ (KS.out _ HLQ.out) (fun hHeld => ?_)
  clear hK K
  refine heldTo_last (o := _) (by kernel_rfl) rfl (fun K hK => ?_)
  go_simp
  refine hK.out _ _ ?_
  clear hK K hHeld
  refine heldTo_done (by kernel_rfl) ?_ _
  have CC := Lib.hid (show Calls Tryz.prog 37 #[.pointer (some ⟨gW, 0, none⟩), .agg #[.int .i64 i4, .bool false, .bool false], .int .i64 2, .string ⟨#[111, 119, 110]⟩, .int .i64 2, .int .i64 b4] wq (fun e w' => e = .returned (.int .i64 3) ∧ LS w2.heap.size w2 w' a m (roomQ (slOwn 2 b4 8)) 3 [(w9.heap.size, .cells #[.int .i64 0, .int .i64 0, .string ⟨#[]⟩, .slice none 0 0] 33 (0, 0)), (w7.heap.size, .cells #[.int .i64 i4, .bool false, .bool false] 71 (0, 0)), WK gW a]) from by
    refine (winfo_no (gW := gW) (id := i4) (wz := false) (pg := false) (o := 2) HLQ.out (by simp) ⟨by omega, by omega⟩ (getQ _) ownS (i := 0) (s := slOwn 2 b4 8) (slotQ rfl) rfl 2 b4 (by simp only [ownB, slOwn, HN2.out, Bool.or_self, Bool.false_or]; exact and_zero_no HBB.out)).mono ?_
    rintro e w' ⟨rfl, hb⟩
    exact ⟨rfl, HLQ.out.below hb⟩)
  have gp := HLQ.out.row (List.mem_cons_of_mem _ (List.mem_cons_self ..))
  have p0 := cell_of_row wq _ 0 _ _ _ gp
  have p1 := cell_of_row wq _ 1 _ _ _ gp
  have p2 := cell_of_row wq _ 2 _ _ _ gp
  clear gp
  go_wp2_with fail
  refine CC.out.mono ?_
  rintro e wr ⟨rfl, hlr⟩
  have HLR := Lib.hid hlr
  have CD := Lib.hid (show Calls Tryz.prog 37 #[.pointer (some ⟨gW, 0, none⟩), .agg #[.int .i64 i4, .bool false, .bool false], .int .i64 2, .string ⟨#[111, 119, 110]⟩, .int .i64 3, .int .i64 b4] wr (fun e w' => e = .returned (.int .i64 3) ∧ LS w2.heap.size w2 w' a m (roomQ (slOwn 2 b4 8)) 3 [(w9.heap.size, .cells #[.int .i64 0, .int .i64 0, .string ⟨#[]⟩, .slice none 0 0] 33 (0, 0)), (w7.heap.size, .cells #[.int .i64 i4, .bool false, .bool false] 71 (0, 0)), WK gW a]) from by
    refine (winfo_no (gW := gW) (id := i4) (wz := false) (pg := false) (o := 2) HLR.out (by simp) ⟨by omega, by omega⟩ (getQ _) ownS (i := 0) (s := slOwn 2 b4 8) (slotQ rfl) rfl 3 b4 (by simp only [ownB, slOwn, HN2.out, Bool.or_self, Bool.false_or]; exact and_zero_no HBB.out)).mono ?_
    rintro e w' ⟨rfl, hb⟩
    exact ⟨rfl, HLR.out.below hb⟩)
  have gp := hlr.row (List.mem_cons_of_mem _ (List.mem_cons_self ..))
  have p0 := cell_of_row wr _ 0 _ _ _ gp
  have p1 := cell_of_row wr _ 1 _ _ _ gp
  have p2 := cell_of_row wr _ 2 _ _ _ gp
  clear gp hlr
  go_wp2_with fail
  refine CD.out.mono ?_
  rintro e ws ⟨rfl, hls⟩
  have gv := hls.row (List.mem_cons_self ..)
  have v1 := cell_of_row ws _ 1 _ _ _ gv
  have HF := Lib.hid (HB2.out.trans (hls.base.mono HB2.out.size))
  clear gv hls p0 p1 p2
  go_wp2_with fail
  go_ret
  exact ⟨rfl, HF.out⟩

set_option maxRecDepth 100000 in
set_option maxHeartbeats 4000000 in
theorem owners_n10 (bits0 id0 b4 i4 : Int) (w : World) (hb0 : I64 bits0) (hid : I64 id0) (hb4 : bits0 % 8 = b4) (hb : 0 ≤ b4 ∧ b4 < 8) (hid4 : id0 % 4 = i4) (hi : 0 ≤ i4 ∧ i4 < 4) (hn2 : (i4 == 2) = false) (h1 : (Go.bits .and .i64 b4 1 != 0) = true) (h2 : (Go.bits .and .i64 b4 2 != 0) = false) :
    Calls Tryz.prog 6 #[.int .i64 bits0, .int .i64 id0, .bool false] w fun e w' => e = .returned (.bool true) ∧ Below w.heap.size w w' := by
  have CF := Lib.hid (wfirst_c w)
  have CI := Lib.hid (fun W => onumber_c bits0 8 W hb0 (by omega) (by omega))
  rw [hb4] at CI
  have CT := Lib.hid (fun W => onumber_c id0 4 W hid (by omega) (by omega))
  rw [hid4] at CT
  have HBB := Lib.hid hb
  have HN2 := Lib.hid hn2
  have H1 := Lib.hid h1
  have H2 := Lib.hid h2
  clear hb0 hid hb4 hid4
  go_enter Tryz.func6, Tryz.ntmps6
  go_wp2_with fail
  refine CF.out.mono ?_
  rintro e w1 ⟨rfl, hb1⟩
  have HB1 := Lib.hid hb1
  clear hb1 CF
  go_wp2_with fail
  refine (CI.out _).mono ?_
  rintro e w2 ⟨rfl, rfl⟩
  go_wp2_with fail
  refine (CT.out _).mono ?_
  rintro e w2 ⟨rfl, rfl⟩
  have CRM := Lib.hid (room_c w1)
  go_wp2_with fail
  refine CRM.out.mono ?_
  rintro e w2 ⟨rfl, hin, hb2⟩
  have CN := Lib.hid (wnew_c w2 hin)
  have HB2 := Lib.hid (HB1.out.trans (hb2.mono HB1.out.size))
  clear hin hb2 CRM
  go_wp2_with fail
  refine CN.out.mono ?_
  rintro e w3 ⟨gW, a, m, rfl, hl3⟩
  have HL3 := Lib.hid hl3
  clear hl3 CN
  have CW := Lib.hid (who_W (gW := gW) (o := 2) HL3.out (by simp) ⟨by omega, by omega⟩ room2 (wz := false) (pg := true) (by decide) (by decide))
  go_wp2_with fail
  refine CW.out.mono ?_
  rintro e w4 ⟨rfl, hb4⟩
  have HL4 := Lib.hid (HL3.out.below hb4)
  clear hb4 CW
  have CV := Lib.hid (show ∀ W, Calls Tryz.prog 24 #[.int .i64 9] W (fun e w' => e = .returned (.agg #[.int .i64 0, .int .i64 9, .string ⟨#[]⟩, .slice none 0 0]) ∧ Below W.heap.size W w') from fun W => valI_c 9 W)
  go_wp2_with fail
  refine (CV.out _).mono ?_
  rintro e w5 ⟨rfl, hb5⟩
  have HL5 := Lib.hid (HL4.out.below hb5)
  clear hb5
  have CA := Lib.hid (show Calls Tryz.prog 33 #[.pointer (some ⟨gW, 0, none⟩), .agg #[.int .i64 2, .bool false, .bool true], .int .i64 2, .agg #[.string ⟨#[111, 119, 110]⟩, .int .i64 2, .int .i64 b4, .bool false, .int .i64 0, .int .i64 9, .string ⟨#[]⟩, .slice none 0 0]] w5 (fun e w' => e = .returned (.int .i64 0) ∧ LS w2.heap.size w2 w' a m (roomQ (slOwn 2 b4 9)) 3 [WK gW a]) from waddp_c (gW := gW) (id := 2) (wz := false) (pg := true) (o := 2) HL5.out (by simp) ⟨by omega, by omega⟩ room2 ownS b4 9 (by decide) nm_own notBi_own.bi slot_none2 below2 (t := slR2) rfl ⟨HBB.out.1, by have := HBB.out.2; show b4 ≤ 7; omega, rfl, rfl⟩ less_own ⟨by omega, by omega⟩ (by decide) HBB.out.1 (by have := HBB.out.2; omega) rfl (by decide))
  go_wp2_with fail
  refine CA.out.mono ?_
  rintro e w7 ⟨rfl, hl7⟩
  obtain ⟨w8, hw8⟩ : ∃ w8, w8 = w7.alloc (.cells #[.int .i64 i4, .bool false, .bool false] 71) := ⟨_, rfl⟩
  have hb8 : Below w7.heap.size w7 w8 := by rw [hw8]; exact (Below.refl _ _).alloc (Nat.le_refl _) _
  have g8 : w8.heap[w7.heap.size]? = some (.cells #[.int .i64 i4, .bool false, .bool false] 71 (0, 0)) := by rw [hw8]; exact heap_alloc_new w7 _
  have HL8 := Lib.hid (hl7.push hb8 (Nat.le_refl _) g8)
  have HW8 := Lib.hid hw8
  have CG := Lib.hid (show Calls Tryz.prog 35 #[.pointer (some ⟨gW, 0, none⟩), .agg #[.int .i64 i4, .bool false, .bool false], .int .i64 2, .string ⟨#[111, 119, 110]⟩] w8 (fun e w' => e = .returned (.tuple #[.agg #[.int .i64 0, .int .i64 9, .string ⟨#[]⟩, .slice none 0 0], .int .i64 0]) ∧ LS w2.heap.size w2 w' a m (roomQ (slOwn 2 b4 9)) 3 [(w7.heap.size, .cells #[.int .i64 i4, .bool false, .bool false] 71 (0, 0)), WK gW a]) from wget_yes (gW := gW) (id := i4) (wz := false) (pg := false) (o := 2) HL8.out (by simp) ⟨by omega, by omega⟩ (getQ _) ownS (i := 0) (s := slOwn 2 b4 9) (slotQ rfl) rfl notBi_own.bi (parQ _) (by simp only [ownB, slOwn, HN2.out, Bool.or_self, Bool.false_or]; exact H1.out) (gvQ rfl rfl))
  have p0 := cell_of_row w8 _ 0 _ _ _ g8
  have p1 := cell_of_row w8 _ 1 _ _ _ g8
  have p2 := cell_of_row w8 _ 2 _ _ _ g8
  clear hl7 hb8 g8 hw8 CA
  go_upto_region 12 with fail
  rw [← HW8.out]
  go_wp2_with fail
  refine CG.out.mono ?_
  rintro e w9 ⟨rfl, hl9⟩
  obtain ⟨wx, hwx⟩ : ∃ wx, wx = w9.alloc (.cells #[.int .i64 0, .int .i64 9, .string ⟨#[]⟩, .slice none 0 0] 33) := ⟨_, rfl⟩
  have hbx : Below w9.heap.size w9 wx := by rw [hwx]; exact (Below.refl _ _).alloc (Nat.le_refl _) _
  have gx : wx.heap[w9.heap.size]? = some (.cells #[.int .i64 0, .int .i64 9, .string ⟨#[]⟩, .slice none 0 0] 33 (0, 0)) := by rw [hwx]; exact heap_alloc_new w9 _
  have hlx := hl9.push hbx (Nat.le_refl _) gx
  have HLX := Lib.hid hlx
  have HWX := Lib.hid hwx
  have CV8 := Lib.hid (show ∀ W, Calls Tryz.prog 24 #[.int .i64 8] W (fun e w' => e = .returned (.agg #[.int .i64 0, .int .i64 8, .string ⟨#[]⟩, .slice none 0 0]) ∧ Below W.heap.size W w') from fun W => valI_c 8 W)
  have CP := Lib.hid (show ∀ W, Below wx.heap.size wx W → Calls Tryz.prog 36 #[.pointer (some ⟨gW, 0, none⟩), .agg #[.int .i64 i4, .bool false, .bool false], .int .i64 2, .string ⟨#[111, 119, 110]⟩, .agg #[.int .i64 0, .int .i64 8, .string ⟨#[]⟩, .slice none 0 0]] W (fun e w' => e = .returned (.int .i64 3) ∧ LS w2.heap.size w2 w' a m (roomQ (slOwn 2 b4 9)) 3 [(w9.heap.size, .cells #[.int .i64 0, .int .i64 9, .string ⟨#[]⟩, .slice none 0 0] 33 (0, 0)), (w7.heap.size, .cells #[.int .i64 i4, .bool false, .bool false] 71 (0, 0)), WK gW a]) from fun W hW => by
    have h := HLX.out.below hW
    refine (wput_no (gW := gW) (id := i4) (wz := false) (pg := false) (o := 2) h (by simp) ⟨by omega, by omega⟩ (getQ _) ownS (i := 0) (s := slOwn 2 b4 9) (slotQ rfl) rfl notBi_own (by simp only [ownB, slOwn, HN2.out, Bool.or_self, Bool.false_or]; exact H2.out) 8).mono ?_
    rintro e w' ⟨rfl, hb⟩
    exact ⟨rfl, h.below hb⟩)
  have gp := hlx.row (List.mem_cons_of_mem _ (List.mem_cons_self ..))
  have KS := Lib.hid (show ∀ W, LS w2.heap.size w2 W a m (roomQ (slOwn 2 b4 9)) 3 [(w9.heap.size, .cells #[.int .i64 0, .int .i64 9, .string ⟨#[]⟩, .slice none 0 0] 33 (0, 0)), (w7.heap.size, .cells #[.int .i64 i4, .bool false, .bool false] 71 (0, 0)), WK gW a] → (fun W => W.cell? ⟨w7.heap.size, 0, none⟩ = some (.int .i64 i4) ∧ W.cell? ⟨w7.heap.size, 1, none⟩ = some (.bool false) ∧ W.cell? ⟨w7.heap.size, 2, none⟩ = some (.bool false)) W from fun W hW => by
    have g := hW.row (List.mem_cons_of_mem _ (List.mem_cons_self ..))
    exact ⟨cell_of_row W _ 0 _ _ _ g, cell_of_row W _ 1 _ _ _ g, cell_of_row W _ 2 _ _ _ g⟩)
  have KX := Lib.hid (show ∀ W, Below wx.heap.size wx W → (fun W => W.cell? ⟨w7.heap.size, 0, none⟩ = some (.int .i64 i4) ∧ W.cell? ⟨w7.heap.size, 1, none⟩ = some (.bool false) ∧ W.cell? ⟨w7.heap.size, 2, none⟩ = some (.bool false)) W from fun W hW => by
    have g := (HLX.out.below hW).row (List.mem_cons_of_mem _ (List.mem_cons_self ..))
    exact ⟨cell_of_row W _ 0 _ _ _ g, cell_of_row W _ 1 _ _ _ g, cell_of_row W _ 2 _ _ _ g⟩)
  clear hl9 hbx gx hlx hwx gp CG p0 p1 p2
  go_upto_region 14 with fail
  rw [← HWX.out]
  refine wp_region_heldTo 4 (fun W => W.cell? ⟨w7.heap.size, 0, none⟩ = some (.int .i64 i4) ∧ W.cell? ⟨w7.heap.size, 1, none⟩ = some (.bool false) ∧ W.cell? ⟨w7.heap.size, 2, none⟩ = some (.bool false)) (by kernel_rfl) (by kernel_rfl) (KX.out _ ((Below.refl _ wx).drew)) (fun hSucc hHeld => ?_)
  refine heldTo_take (i := 0) (oi := _) (v := (.pointer (some ⟨gW, 0, none⟩))) hSucc rfl (by kernel_rfl) (by kernel_rfl) (by kernel_rfl) (by kernel_rfl) rfl (fun _ _ _ h => h) (Or.inl ⟨by rfl, fun W hSw => ?_⟩) (by with_reducible assumption) ?_
  · (try dsimp only at hSw); go_simp
  change heldTo _ _ _ _ _ _ _ _ (Act.put _ (some 59) _) _
  simp only [Act.put, List.setIfInBounds_toArray, List.set_cons_zero, List.set_cons_succ]
  refine heldTo_take (i := 1) (oi := _) (v := (.agg #[.int .i64 i4, .bool false, .bool false])) hSucc rfl (by kernel_rfl) (by kernel_rfl) (by kernel_rfl) (by kernel_rfl) rfl (fun _ _ _ h => h) (Or.inl ⟨by rfl, fun W hSw => ?_⟩) (by with_reducible assumption) ?_
  · (try dsimp only at hSw); go_simp
  change heldTo _ _ _ _ _ _ _ _ (Act.put _ (some 60) _) _
  simp only [Act.put, List.setIfInBounds_toArray, List.set_cons_zero, List.set_cons_succ]
  refine heldTo_one (i := 2) (o := _) (by kernel_rfl) rfl (fun K hK => ?_)
  go_simp
  go_at_call 24
  refine (CV8.out _).mono ?_
  rintro e wy ⟨rfl, hby⟩
  have HBY := Lib.hid (show Below wx.heap.size wx wy from ((Below.refl wx.heap.size wx).drew).trans hby)
  clear hby hHeld
  refine hK.out _ _ (KX.out _ HBY.out) (fun hHeld => ?_)
  clear hK K
  refine heldTo_one (i := 3) (o := _) (by kernel_rfl) rfl (fun K hK => ?_)
  go_simp
  go_at_call 36
  refine (CP.out _ HBY.out).mono ?_
  rintro e wq ⟨rfl, hlq⟩
  have HLQ := Lib.hid hlq
  clear hlq hHeld
  refine hK.out _ _ (KS.out _ HLQ.out) (fun hHeld => ?_)
  clear hK K
  refine heldTo_last (o := _) (by kernel_rfl) rfl (fun K hK => ?_)
  go_simp
  refine hK.out _ _ ?_
  clear hK K hHeld
  refine heldTo_done (by kernel_rfl) ?_ _
  have CC := Lib.hid (show Calls Tryz.prog 37 #[.pointer (some ⟨gW, 0, none⟩), .agg #[.int .i64 i4, .bool false, .bool false], .int .i64 2, .string ⟨#[111, 119, 110]⟩, .int .i64 2, .int .i64 b4] wq (fun e w' => e = .returned (.int .i64 3) ∧ LS w2.heap.size w2 w' a m (roomQ (slOwn 2 b4 9)) 3 [(w9.heap.size, .cells #[.int .i64 0, .int .i64 9, .string ⟨#[]⟩, .slice none 0 0] 33 (0, 0)), (w7.heap.size, .cells #[.int .i64 i4, .bool false, .bool false] 71 (0, 0)), WK gW a]) from by
    refine (winfo_no (gW := gW) (id := i4) (wz := false) (pg := false) (o := 2) HLQ.out (by simp) ⟨by omega, by omega⟩ (getQ _) ownS (i := 0) (s := slOwn 2 b4 9) (slotQ rfl) rfl 2 b4 (by simp only [ownB, slOwn, HN2.out, Bool.or_self, Bool.false_or]; exact and_zero_no HBB.out)).mono ?_
    rintro e w' ⟨rfl, hb⟩
    exact ⟨rfl, HLQ.out.below hb⟩)
  have gp := HLQ.out.row (List.mem_cons_of_mem _ (List.mem_cons_self ..))
  have p0 := cell_of_row wq _ 0 _ _ _ gp
  have p1 := cell_of_row wq _ 1 _ _ _ gp
  have p2 := cell_of_row wq _ 2 _ _ _ gp
  clear gp
  go_wp2_with fail
  refine CC.out.mono ?_
  rintro e wr ⟨rfl, hlr⟩
  have HLR := Lib.hid hlr
  have CD := Lib.hid (show Calls Tryz.prog 37 #[.pointer (some ⟨gW, 0, none⟩), .agg #[.int .i64 i4, .bool false, .bool false], .int .i64 2, .string ⟨#[111, 119, 110]⟩, .int .i64 3, .int .i64 b4] wr (fun e w' => e = .returned (.int .i64 3) ∧ LS w2.heap.size w2 w' a m (roomQ (slOwn 2 b4 9)) 3 [(w9.heap.size, .cells #[.int .i64 0, .int .i64 9, .string ⟨#[]⟩, .slice none 0 0] 33 (0, 0)), (w7.heap.size, .cells #[.int .i64 i4, .bool false, .bool false] 71 (0, 0)), WK gW a]) from by
    refine (winfo_no (gW := gW) (id := i4) (wz := false) (pg := false) (o := 2) HLR.out (by simp) ⟨by omega, by omega⟩ (getQ _) ownS (i := 0) (s := slOwn 2 b4 9) (slotQ rfl) rfl 3 b4 (by simp only [ownB, slOwn, HN2.out, Bool.or_self, Bool.false_or]; exact and_zero_no HBB.out)).mono ?_
    rintro e w' ⟨rfl, hb⟩
    exact ⟨rfl, HLR.out.below hb⟩)
  have gp := hlr.row (List.mem_cons_of_mem _ (List.mem_cons_self ..))
  have p0 := cell_of_row wr _ 0 _ _ _ gp
  have p1 := cell_of_row wr _ 1 _ _ _ gp
  have p2 := cell_of_row wr _ 2 _ _ _ gp
  clear gp hlr
  go_wp2_with fail
  refine CD.out.mono ?_
  rintro e ws ⟨rfl, hls⟩
  have gv := hls.row (List.mem_cons_self ..)
  have v1 := cell_of_row ws _ 1 _ _ _ gv
  have HF := Lib.hid (HB2.out.trans (hls.base.mono HB2.out.size))
  clear gv hls p0 p1 p2
  go_wp2_with fail
  go_ret
  exact ⟨rfl, HF.out⟩

set_option maxRecDepth 100000 in
set_option maxHeartbeats 4000000 in
theorem owners_n11 (bits0 id0 b4 i4 : Int) (w : World) (hb0 : I64 bits0) (hid : I64 id0) (hb4 : bits0 % 8 = b4) (hb : 0 ≤ b4 ∧ b4 < 8) (hid4 : id0 % 4 = i4) (hi : 0 ≤ i4 ∧ i4 < 4) (hn2 : (i4 == 2) = false) (h1 : (Go.bits .and .i64 b4 1 != 0) = true) (h2 : (Go.bits .and .i64 b4 2 != 0) = true) :
    Calls Tryz.prog 6 #[.int .i64 bits0, .int .i64 id0, .bool false] w fun e w' => e = .returned (.bool true) ∧ Below w.heap.size w w' := by
  have CF := Lib.hid (wfirst_c w)
  have CI := Lib.hid (fun W => onumber_c bits0 8 W hb0 (by omega) (by omega))
  rw [hb4] at CI
  have CT := Lib.hid (fun W => onumber_c id0 4 W hid (by omega) (by omega))
  rw [hid4] at CT
  have HBB := Lib.hid hb
  have HN2 := Lib.hid hn2
  have H1 := Lib.hid h1
  have H2 := Lib.hid h2
  clear hb0 hid hb4 hid4
  go_enter Tryz.func6, Tryz.ntmps6
  go_wp2_with fail
  refine CF.out.mono ?_
  rintro e w1 ⟨rfl, hb1⟩
  have HB1 := Lib.hid hb1
  clear hb1 CF
  go_wp2_with fail
  refine (CI.out _).mono ?_
  rintro e w2 ⟨rfl, rfl⟩
  go_wp2_with fail
  refine (CT.out _).mono ?_
  rintro e w2 ⟨rfl, rfl⟩
  have CRM := Lib.hid (room_c w1)
  go_wp2_with fail
  refine CRM.out.mono ?_
  rintro e w2 ⟨rfl, hin, hb2⟩
  have CN := Lib.hid (wnew_c w2 hin)
  have HB2 := Lib.hid (HB1.out.trans (hb2.mono HB1.out.size))
  clear hin hb2 CRM
  go_wp2_with fail
  refine CN.out.mono ?_
  rintro e w3 ⟨gW, a, m, rfl, hl3⟩
  have HL3 := Lib.hid hl3
  clear hl3 CN
  have CW := Lib.hid (who_W (gW := gW) (o := 2) HL3.out (by simp) ⟨by omega, by omega⟩ room2 (wz := false) (pg := true) (by decide) (by decide))
  go_wp2_with fail
  refine CW.out.mono ?_
  rintro e w4 ⟨rfl, hb4⟩
  have HL4 := Lib.hid (HL3.out.below hb4)
  clear hb4 CW
  have CV := Lib.hid (show ∀ W, Calls Tryz.prog 24 #[.int .i64 9] W (fun e w' => e = .returned (.agg #[.int .i64 0, .int .i64 9, .string ⟨#[]⟩, .slice none 0 0]) ∧ Below W.heap.size W w') from fun W => valI_c 9 W)
  go_wp2_with fail
  refine (CV.out _).mono ?_
  rintro e w5 ⟨rfl, hb5⟩
  have HL5 := Lib.hid (HL4.out.below hb5)
  clear hb5
  have CA := Lib.hid (show Calls Tryz.prog 33 #[.pointer (some ⟨gW, 0, none⟩), .agg #[.int .i64 2, .bool false, .bool true], .int .i64 2, .agg #[.string ⟨#[111, 119, 110]⟩, .int .i64 2, .int .i64 b4, .bool false, .int .i64 0, .int .i64 9, .string ⟨#[]⟩, .slice none 0 0]] w5 (fun e w' => e = .returned (.int .i64 0) ∧ LS w2.heap.size w2 w' a m (roomQ (slOwn 2 b4 9)) 3 [WK gW a]) from waddp_c (gW := gW) (id := 2) (wz := false) (pg := true) (o := 2) HL5.out (by simp) ⟨by omega, by omega⟩ room2 ownS b4 9 (by decide) nm_own notBi_own.bi slot_none2 below2 (t := slR2) rfl ⟨HBB.out.1, by have := HBB.out.2; show b4 ≤ 7; omega, rfl, rfl⟩ less_own ⟨by omega, by omega⟩ (by decide) HBB.out.1 (by have := HBB.out.2; omega) rfl (by decide))
  go_wp2_with fail
  refine CA.out.mono ?_
  rintro e w7 ⟨rfl, hl7⟩
  obtain ⟨w8, hw8⟩ : ∃ w8, w8 = w7.alloc (.cells #[.int .i64 i4, .bool false, .bool false] 71) := ⟨_, rfl⟩
  have hb8 : Below w7.heap.size w7 w8 := by rw [hw8]; exact (Below.refl _ _).alloc (Nat.le_refl _) _
  have g8 : w8.heap[w7.heap.size]? = some (.cells #[.int .i64 i4, .bool false, .bool false] 71 (0, 0)) := by rw [hw8]; exact heap_alloc_new w7 _
  have HL8 := Lib.hid (hl7.push hb8 (Nat.le_refl _) g8)
  have HW8 := Lib.hid hw8
  have CG := Lib.hid (show Calls Tryz.prog 35 #[.pointer (some ⟨gW, 0, none⟩), .agg #[.int .i64 i4, .bool false, .bool false], .int .i64 2, .string ⟨#[111, 119, 110]⟩] w8 (fun e w' => e = .returned (.tuple #[.agg #[.int .i64 0, .int .i64 9, .string ⟨#[]⟩, .slice none 0 0], .int .i64 0]) ∧ LS w2.heap.size w2 w' a m (roomQ (slOwn 2 b4 9)) 3 [(w7.heap.size, .cells #[.int .i64 i4, .bool false, .bool false] 71 (0, 0)), WK gW a]) from wget_yes (gW := gW) (id := i4) (wz := false) (pg := false) (o := 2) HL8.out (by simp) ⟨by omega, by omega⟩ (getQ _) ownS (i := 0) (s := slOwn 2 b4 9) (slotQ rfl) rfl notBi_own.bi (parQ _) (by simp only [ownB, slOwn, HN2.out, Bool.or_self, Bool.false_or]; exact H1.out) (gvQ rfl rfl))
  have p0 := cell_of_row w8 _ 0 _ _ _ g8
  have p1 := cell_of_row w8 _ 1 _ _ _ g8
  have p2 := cell_of_row w8 _ 2 _ _ _ g8
  clear hl7 hb8 g8 hw8 CA
  go_upto_region 12 with fail
  rw [← HW8.out]
  go_wp2_with fail
  refine CG.out.mono ?_
  rintro e w9 ⟨rfl, hl9⟩
  obtain ⟨wx, hwx⟩ : ∃ wx, wx = w9.alloc (.cells #[.int .i64 0, .int .i64 9, .string ⟨#[]⟩, .slice none 0 0] 33) := ⟨_, rfl⟩
  have hbx : Below w9.heap.size w9 wx := by rw [hwx]; exact (Below.refl _ _).alloc (Nat.le_refl _) _
  have gx : wx.heap[w9.heap.size]? = some (.cells #[.int .i64 0, .int .i64 9, .string ⟨#[]⟩, .slice none 0 0] 33 (0, 0)) := by rw [hwx]; exact heap_alloc_new w9 _
  have hlx := hl9.push hbx (Nat.le_refl _) gx
  have HLX := Lib.hid hlx
  have HWX := Lib.hid hwx
  have CV8 := Lib.hid (show ∀ W, Calls Tryz.prog 24 #[.int .i64 8] W (fun e w' => e = .returned (.agg #[.int .i64 0, .int .i64 8, .string ⟨#[]⟩, .slice none 0 0]) ∧ Below W.heap.size W w') from fun W => valI_c 8 W)
  have CP := Lib.hid (show ∀ W, Below wx.heap.size wx W → Calls Tryz.prog 36 #[.pointer (some ⟨gW, 0, none⟩), .agg #[.int .i64 i4, .bool false, .bool false], .int .i64 2, .string ⟨#[111, 119, 110]⟩, .agg #[.int .i64 0, .int .i64 8, .string ⟨#[]⟩, .slice none 0 0]] W (fun e w' => e = .returned (.int .i64 0) ∧ LS w2.heap.size w2 w' a m (roomQ (slOwn 2 b4 8)) 3 [(w9.heap.size, .cells #[.int .i64 0, .int .i64 9, .string ⟨#[]⟩, .slice none 0 0] 33 (0, 0)), (w7.heap.size, .cells #[.int .i64 i4, .bool false, .bool false] 71 (0, 0)), WK gW a]) from fun W hW => by
    have h := HLX.out.below hW
    exact wput_yes (gW := gW) (id := i4) (wz := false) (pg := false) (o := 2) h (by simp) ⟨by omega, by omega⟩ (getQ _) ownS (i := 0) (s := slOwn 2 b4 9) (slotQ rfl) rfl notBi_own (by simp only [ownB, slOwn, HN2.out, Bool.or_self, Bool.false_or]; exact H2.out) 8)
  have gp := hlx.row (List.mem_cons_of_mem _ (List.mem_cons_self ..))
  have KS := Lib.hid (show ∀ W, LS w2.heap.size w2 W a m (roomQ (slOwn 2 b4 8)) 3 [(w9.heap.size, .cells #[.int .i64 0, .int .i64 9, .string ⟨#[]⟩, .slice none 0 0] 33 (0, 0)), (w7.heap.size, .cells #[.int .i64 i4, .bool false, .bool false] 71 (0, 0)), WK gW a] → (fun W => W.cell? ⟨w7.heap.size, 0, none⟩ = some (.int .i64 i4) ∧ W.cell? ⟨w7.heap.size, 1, none⟩ = some (.bool false) ∧ W.cell? ⟨w7.heap.size, 2, none⟩ = some (.bool false)) W from fun W hW => by
    have g := hW.row (List.mem_cons_of_mem _ (List.mem_cons_self ..))
    exact ⟨cell_of_row W _ 0 _ _ _ g, cell_of_row W _ 1 _ _ _ g, cell_of_row W _ 2 _ _ _ g⟩)
  have KX := Lib.hid (show ∀ W, Below wx.heap.size wx W → (fun W => W.cell? ⟨w7.heap.size, 0, none⟩ = some (.int .i64 i4) ∧ W.cell? ⟨w7.heap.size, 1, none⟩ = some (.bool false) ∧ W.cell? ⟨w7.heap.size, 2, none⟩ = some (.bool false)) W from fun W hW => by
    have g := (HLX.out.below hW).row (List.mem_cons_of_mem _ (List.mem_cons_self ..))
    exact ⟨cell_of_row W _ 0 _ _ _ g, cell_of_row W _ 1 _ _ _ g, cell_of_row W _ 2 _ _ _ g⟩)
  clear hl9 hbx gx hlx hwx gp CG p0 p1 p2
  go_upto_region 14 with fail
  rw [← HWX.out]
  refine wp_region_heldTo 4 (fun W => W.cell? ⟨w7.heap.size, 0, none⟩ = some (.int .i64 i4) ∧ W.cell? ⟨w7.heap.size, 1, none⟩ = some (.bool false) ∧ W.cell? ⟨w7.heap.size, 2, none⟩ = some (.bool false)) (by kernel_rfl) (by kernel_rfl) (KX.out _ ((Below.refl _ wx).drew)) (fun hSucc hHeld => ?_)
  refine heldTo_take (i := 0) (oi := _) (v := (.pointer (some ⟨gW, 0, none⟩))) hSucc rfl (by kernel_rfl) (by kernel_rfl) (by kernel_rfl) (by kernel_rfl) rfl (fun _ _ _ h => h) (Or.inl ⟨by rfl, fun W hSw => ?_⟩) (by with_reducible assumption) ?_
  · (try dsimp only at hSw); go_simp
  change heldTo _ _ _ _ _ _ _ _ (Act.put _ (some 59) _) _
  simp only [Act.put, List.setIfInBounds_toArray, List.set_cons_zero, List.set_cons_succ]
  refine heldTo_take (i := 1) (oi := _) (v := (.agg #[.int .i64 i4, .bool false, .bool false])) hSucc rfl (by kernel_rfl) (by kernel_rfl) (by kernel_rfl) (by kernel_rfl) rfl (fun _ _ _ h => h) (Or.inl ⟨by rfl, fun W hSw => ?_⟩) (by with_reducible assumption) ?_
  · (try dsimp only at hSw); go_simp
  change heldTo _ _ _ _ _ _ _ _ (Act.put _ (some 60) _) _
  simp only [Act.put, List.setIfInBounds_toArray, List.set_cons_zero, List.set_cons_succ]
  refine heldTo_one (i := 2) (o := _) (by kernel_rfl) rfl (fun K hK => ?_)
  go_simp
  go_at_call 24
  refine (CV8.out _).mono ?_
  rintro e wy ⟨rfl, hby⟩
  have HBY := Lib.hid (show Below wx.heap.size wx wy from ((Below.refl wx.heap.size wx).drew).trans hby)
  clear hby hHeld
  refine hK.out _ _ (KX.out _ HBY.out) (fun hHeld => ?_)
  clear hK K
  refine heldTo_one (i := 3) (o := _) (by kernel_rfl) rfl (fun K hK => ?_)
  go_simp
  go_at_call 36
  refine (CP.out _ HBY.out).mono ?_
  rintro e wq ⟨rfl, hlq⟩
  have HLQ := Lib.hid hlq
  clear hlq hHeld
  refine hK.out _ _ (KS.out _ HLQ.out) (fun hHeld => ?_)
  clear hK K
  refine heldTo_last (o := _) (by kernel_rfl) rfl (fun K hK => ?_)
  go_simp
  refine hK.out _ _ ?_
  clear hK K hHeld
  refine heldTo_done (by kernel_rfl) ?_ _
  have CC := Lib.hid (show Calls Tryz.prog 37 #[.pointer (some ⟨gW, 0, none⟩), .agg #[.int .i64 i4, .bool false, .bool false], .int .i64 2, .string ⟨#[111, 119, 110]⟩, .int .i64 2, .int .i64 b4] wq (fun e w' => e = .returned (.int .i64 3) ∧ LS w2.heap.size w2 w' a m (roomQ (slOwn 2 b4 8)) 3 [(w9.heap.size, .cells #[.int .i64 0, .int .i64 9, .string ⟨#[]⟩, .slice none 0 0] 33 (0, 0)), (w7.heap.size, .cells #[.int .i64 i4, .bool false, .bool false] 71 (0, 0)), WK gW a]) from by
    refine (winfo_no (gW := gW) (id := i4) (wz := false) (pg := false) (o := 2) HLQ.out (by simp) ⟨by omega, by omega⟩ (getQ _) ownS (i := 0) (s := slOwn 2 b4 8) (slotQ rfl) rfl 2 b4 (by simp only [ownB, slOwn, HN2.out, Bool.or_self, Bool.false_or]; exact and_zero_no HBB.out)).mono ?_
    rintro e w' ⟨rfl, hb⟩
    exact ⟨rfl, HLQ.out.below hb⟩)
  have gp := HLQ.out.row (List.mem_cons_of_mem _ (List.mem_cons_self ..))
  have p0 := cell_of_row wq _ 0 _ _ _ gp
  have p1 := cell_of_row wq _ 1 _ _ _ gp
  have p2 := cell_of_row wq _ 2 _ _ _ gp
  clear gp
  go_wp2_with fail
  refine CC.out.mono ?_
  rintro e wr ⟨rfl, hlr⟩
  have HLR := Lib.hid hlr
  have CD := Lib.hid (show Calls Tryz.prog 37 #[.pointer (some ⟨gW, 0, none⟩), .agg #[.int .i64 i4, .bool false, .bool false], .int .i64 2, .string ⟨#[111, 119, 110]⟩, .int .i64 3, .int .i64 b4] wr (fun e w' => e = .returned (.int .i64 3) ∧ LS w2.heap.size w2 w' a m (roomQ (slOwn 2 b4 8)) 3 [(w9.heap.size, .cells #[.int .i64 0, .int .i64 9, .string ⟨#[]⟩, .slice none 0 0] 33 (0, 0)), (w7.heap.size, .cells #[.int .i64 i4, .bool false, .bool false] 71 (0, 0)), WK gW a]) from by
    refine (winfo_no (gW := gW) (id := i4) (wz := false) (pg := false) (o := 2) HLR.out (by simp) ⟨by omega, by omega⟩ (getQ _) ownS (i := 0) (s := slOwn 2 b4 8) (slotQ rfl) rfl 3 b4 (by simp only [ownB, slOwn, HN2.out, Bool.or_self, Bool.false_or]; exact and_zero_no HBB.out)).mono ?_
    rintro e w' ⟨rfl, hb⟩
    exact ⟨rfl, HLR.out.below hb⟩)
  have gp := hlr.row (List.mem_cons_of_mem _ (List.mem_cons_self ..))
  have p0 := cell_of_row wr _ 0 _ _ _ gp
  have p1 := cell_of_row wr _ 1 _ _ _ gp
  have p2 := cell_of_row wr _ 2 _ _ _ gp
  clear gp hlr
  go_wp2_with fail
  refine CD.out.mono ?_
  rintro e ws ⟨rfl, hls⟩
  have gv := hls.row (List.mem_cons_self ..)
  have v1 := cell_of_row ws _ 1 _ _ _ gv
  have HF := Lib.hid (HB2.out.trans (hls.base.mono HB2.out.size))
  clear gv hls p0 p1 p2
  go_wp2_with fail
  go_ret
  exact ⟨rfl, HF.out⟩
end Go.Proofs.YtnphgcbknfmapaaGreatDoor
