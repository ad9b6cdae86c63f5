/- Contracts of the functions that the statement reaches, and the plain mathematics beneath: several texts joined. -/
import Derived.Test.YtnphgcbknfmapaaGreatDoorWmvAL
import Derived.Test.YtnphgcbknfmapaaGreatDoorWmvAJ
namespace Go.Proofs.YtnphgcbknfmapaaGreatDoor
open Go.RowKit Go.Lib
set_option linter.unusedVariables false
set_option linter.unusedSimpArgs false

theorem conFS_none (c : Nat) (fv : Value) (w : World) : Calls Tryz.prog 98 #[.slice none 0 c, fv] w fun e w' => e = .returned (.bool false) ∧ w = w' := by
  have C1 : Calls Tryz.prog 110 #[.slice none 0 c, fv] w fun e w' => e = .returned (.int .i64 (-1)) ∧ w = w' := by
    go_enter Tryz.func110, Tryz.ntmps110
    go_wp2_with fail
    refine wp_loop_rounds 1 ?_
    rw [rounds_succ]
    go_wp2_with fail
    go_ret
    exact ⟨rfl, rfl⟩
  go_enter Tryz.func98, Tryz.ntmps98
  go_wp2_with fail
  refine C1.mono ?_
  rintro e w' ⟨rfl, rfl⟩
  go_wp2_with fail
  go_ret
  exact ⟨rfl, rfl⟩

set_option maxRecDepth 100000 in
set_option maxHeartbeats 4000000 in
theorem under_b {w : World} {B a m : Nat} {T : List OM} {mx o p : Int} (h : TS w B a m T mx) (ho : I64 o) (hp : I64 p) {x0 y0 : OM} (hx0 : findT T o = some x0) (hb : belowO (obT T) o = some [o]) (hd : x0.o.defs = []) (hs0 : x0.o.slots = []) (hy0 : findT T p = some y0) (hpo : ¬ p = o) {s1 : SL} (hy1 : y0.o.slots = [s1]) (hi : o ∉ rowO (obT T) OB.parent p) :
    Calls Tryz.prog 53 #[.pointer (some ⟨a, 0, none⟩), .int .i64 o, .int .i64 p] w fun e w' => e = .returned (.tuple #[]) ∧ ∃ T', StS w w' B a m T T' mx mx ∧ obT T' = repO (obT T) o { x0.o with parent := p, slots := [freshO s1 x0.o.owner] } := by
  obtain ⟨i0, hi0, hz0, hz1, hz2⟩ := info_parts slot_info
  have CB := Lib.hid (below_c h.tab ho hb (fun x hx => by simp at hx; rw [hx]; exact ho) (by simp))
  have H := Lib.hid h
  have HX0 := Lib.hid hx0
  have HY0 := Lib.hid hy0
  have HY1 := Lib.hid hy1
  have hxm := (findT_some hx0).1
  have hym := (findT_some hy0).1
  have HSN := Lib.hid ((h.bare x0 hxm).1 hs0)
  have hok1 : OkS (repO (obT T) o { x0.o with parent := p }) mx := okS_par h.ok (getO_some' hx0) (.inr (findT_has hy0)) (by rw [row_bare _ OB.parent (fun _ => rfl)]; exact hi) rfl
  have HOK1 := Lib.hid hok1
  have hmm := @run_makeMap Tryz.prog
  clear h hb hx0 hy0 hy1 hok1 hi
  go_enter Tryz.func53, Tryz.ntmps53
  go_wp2_with fail
  refine CB.out.mono ?_
  rintro e w1 ⟨v, rfl, hrow, hb1⟩
  obtain ⟨A, c, rfl, hnc, hcm, hA, hcell⟩ := own_formO hrow
  obtain ⟨g1, rfl, hc1⟩ := hcell 0 (.int .i64 o) rfl
  have hg1 := hrow.lt g1 rfl
  have HB1 := Lib.hid hb1
  have hs1 := hb1.size
  clear hb1 hrow hcell CB
  obtain ⟨w2, hw2⟩ : ∃ w2, w2 = w1.alloc (.map #[] 0) := ⟨_, rfl⟩
  have hm0 : w2.ownsMap Tryz.prog 3 anyR w1.heap.size 0 (.map []) := by rw [hw2]; exact World.ownsMap_made w1 _ _ _
  have hb2 : Below w1.heap.size w1 w2 := by rw [hw2]; exact (Below.refl _ _).alloc (Nat.le_refl _) _
  have hz2w : w2.heap.size = w1.heap.size + 1 := by rw [hw2]; simp
  have hcr : w2.cell? ⟨g1, 0, none⟩ = some (.int .i64 o) := (hb2.cell (p := ⟨g1, 0, none⟩) hg1.2).trans hc1
  have HM0 := Lib.hid hm0
  have HB2 := Lib.hid hb2
  have HW2 := Lib.hid hw2
  have HZ2 := Lib.hid hz2w
  clear hm0 hb2 hw2 hz2w
  go_wp2_with fail
  rw [← HW2.out]
  refine wp_loop_rounds 2 ?_
  rw [rounds_succ]
  go_wp2_with (at_mapUpdate; refine wpList_mapUpdate_own _ rfl _ _ _ 133 rfl 3 134 tkeyed Tryz.underlying133 anyR w1.heap.size 0 (.map []) rfl (HM0.out.alloc _) (by unfold maxLen; omega) _ _ (.int .i64 o) rfl rfl (tkey_of ho) (.lit (.bool true)) [] rfl ?_
               intro w5 hown5 hgrow5
               have hb5 := Below.grown (HB2.out.alloc (by have := HZ2.out; omega) (.map #[] 0)) hgrow5 (by have := HZ2.out; simp; omega) (fun k hk => by injection hk with hk; omega)
               have HB5 := Lib.hid hb5
               have ht := H.out.tab.below (HB1.out.trans (hb5.mono hs1))
               have c0 := ht.c0
               have hl := ht.look ho
               rw [ptrT_some HX0.out] at hl
               have h8 : w5.cell? ⟨x0.g, 8, none⟩ = some (.slice none 0 0) := by rw [← HSN.out]; exact cellX H.out.tab (HB1.out.trans (hb5.mono hs1)) hxm 8
               have hob := ht.objs x0 hxm
               have f1 : w5.frozen? ⟨x0.g, 1, none⟩ = false := hob.free 1
               have k1 : w5.cell? ⟨x0.g, 1, none⟩ = some (.int .i64 x0.o.parent) := hob.cell 1
               clear hb5 hown5 ht hgrow5 hob)
  refine wp_loop_rounds 1 ?_
  rw [rounds_succ]
  have hbw5 : Below w.heap.size w w5 := HB1.out.trans (HB5.out.mono hs1)
  obtain ⟨w3, hw3⟩ : ∃ w3, w3 = w5.setCell ⟨x0.g, 1, none⟩ (.int .i64 p) := ⟨_, rfl⟩
  have hst1 := (H.out.keep hbw5).field HX0.out 1 (.int .i64 p) { x0.o with parent := p } rfl rfl rfl rfl HOK1.out
  rw [← hw3] at hst1
  obtain ⟨x1, hx1⟩ : ∃ x1 : OM, x1 = ⟨{ x0.o with parent := p }, x0.g, x0.dv, x0.sv⟩ := ⟨_, rfl⟩
  rw [← hx1] at hst1
  have hf1 : findT (repT T o x1) o = some x1 := findT_rep_eq (by rw [hx1]; exact (findT_some HX0.out).2) HX0.out
  have hfp : findT (repT T o x1) p = some y0 := by rw [findT_rep_ne (by rw [hx1]; exact (findT_some HX0.out).2) hpo]; exact HY0.out
  have hgx : x0.g < w.heap.size := H.out.tab.lt x0.g (List.mem_cons_of_mem _ (List.mem_cons_of_mem _ (List.mem_flatMap.2 ⟨x0, hxm, OM.mem_blocks.2 (.inl rfl)⟩)))
  have hr3 : w3.cell? ⟨g1, 0, none⟩ = some (.int .i64 o) := by
    rw [hw3]
    exact (World.cell?_of_block (a := ⟨g1, 0, none⟩) (Below.heap_setCell _ _ _ _ (by show g1 ≠ x0.g; omega))).trans ((HB5.out.cell (p := ⟨g1, 0, none⟩) hg1.2).trans hc1)
  have hz35 : w3.heap.size = w5.heap.size := by rw [hw3]; simp [World.setCell]
  obtain ⟨T1, hT1⟩ : ∃ T1, T1 = repT T o x1 := ⟨_, rfl⟩
  rw [← hT1] at hst1 hf1 hfp
  have ht1 := hst1.ts.tab
  have c01 := ht1.c0
  have hl1 := ht1.look ho
  rw [ptrT_some hf1, hx1] at hl1
  dsimp only at hl1
  have hx1m := (findT_some hf1).1
  have hob1 := ht1.objs x1 hx1m
  have e1 : w3.cell? ⟨x0.g, 1, none⟩ = some (.int .i64 p) := by have := hob1.cell 1; rw [hx1] at this; exact this
  have e2 : w3.cell? ⟨x0.g, 2, none⟩ = some (.int .i64 x0.o.owner) := by have := hob1.cell 2; rw [hx1] at this; exact this
  have e8 : w3.cell? ⟨x0.g, 8, none⟩ = some (.slice none 0 0) := by have := hob1.cell 8; rw [hx1] at this; rw [← HSN.out]; exact this
  have hlp : ∀ W, Below w3.heap.size w3 W → (W.cell? ⟨a, 0, none⟩ = some (.map (some m)) ∧ W.cell? ⟨x0.g, 1, none⟩ = some (.int .i64 p) ∧ (Instr.lookup 82 (.map (some m)) (.int .i64 p) false).run Tryz.prog W = .ok (.pointer (some ⟨y0.g, 0, none⟩)) W) := by
    intro W hW
    have h1 := ht1.below hW
    have h2 := h1.look hp
    rw [ptrT_some hfp] at h2
    exact ⟨h1.c0, (hW.cell (p := ⟨x0.g, 1, none⟩) (by show x0.g < _; have := HB5.out.size; omega)).trans e1, h2⟩
  have K1 := hlp w3.drew ((Below.refl _ w3).drew)
  have K2 := hlp w3 (Below.refl _ w3)
  obtain ⟨Ay, cy, hysv⟩ : ∃ A C, y0.sv = .slice A 1 C := by
    have h1 := (ht1.objs y0 (findT_some hfp).1).slots
    rw [HY1.out] at h1
    obtain ⟨A, C, e, _⟩ := own_formO h1
    exact ⟨A, C, e⟩
  have hys := (ht1.objs y0 (findT_some hfp).1).slots
  rw [HY1.out, hysv] at hys
  obtain ⟨gy, rfl, hgy, hry⟩ := row_at (W := w3.drew) (i := 0) (s := s1) hys rfl ((Below.refl _ w3).drew)
  simp only [Nat.zero_mul, Nat.zero_add] at hry
  have y8 : w3.drew.cell? ⟨y0.g, 8, none⟩ = some (.slice (some ⟨gy, 0, none⟩) 1 cy) := by rw [← hysv]; exact (ht1.objs y0 (findT_some hfp).1).cell 8
  have r0 := hry 0 (by omega) (.string s1.name) rfl
  have r1 := hry 1 (by omega) (.int .i64 s1.owner) rfl
  have r2 := hry 2 (by omega) (.int .i64 s1.bits) rfl
  have r3 := hry 3 (by omega) (.bool s1.clear) rfl
  have r4 := hry 4 (by omega) (.int .i64 s1.kind) rfl
  have r5 := hry 5 (by omega) (.int .i64 s1.num) rfl
  have r6 := hry 6 (by omega) (.string s1.text) rfl
  have r7 := hry 7 (by omega) (.slice none 0 0) rfl
  have hfl1 := H.out.flat y0 hym s1 (by rw [HY1.out]; exact List.mem_cons_self ..)
  obtain ⟨f, hf⟩ : ∃ f, f = freshO s1 x0.o.owner := ⟨_, rfl⟩
  have FR := Lib.hid (show ∀ W, Calls Tryz.prog 46 #[.agg #[.string s1.name, .int .i64 s1.owner, .int .i64 s1.bits, .bool s1.clear, .int .i64 s1.kind, .int .i64 s1.num, .string s1.text, .slice none 0 0], .int .i64 x0.o.owner] W fun e w' => e = .returned (.agg #[.string f.name, .int .i64 f.owner, .int .i64 f.bits, .bool f.clear, .int .i64 f.kind, .int .i64 f.num, .string f.text, .slice none 0 0]) ∧ Below W.heap.size W w' from fun W => by rw [hf]; exact fresh_c s1 x0.o.owner W hfl1.1 hfl1.2.1)
  have hff : FlatS f := by rw [hf]; exact hfl1.fresh _
  obtain ⟨wx, hwx⟩ : ∃ wx, wx = (w3.alloc (.cells #[.string s1.name, .int .i64 s1.owner, .int .i64 s1.bits, .bool s1.clear, .int .i64 s1.kind, .int .i64 s1.num, .string s1.text, .slice none 0 0] 35)).drew := ⟨_, rfl⟩
  have hbx : Below w3.heap.size w3 wx := by rw [hwx]; exact ((Below.refl _ w3).alloc (Nat.le_refl _) _).drew
  have hxz : wx.heap.size = w3.heap.size + 1 := by rw [hwx]; simp
  have hgxx : wx.heap[w5.heap.size]? = some (.cells #[.string s1.name, .int .i64 s1.owner, .int .i64 s1.bits, .bool s1.clear, .int .i64 s1.kind, .int .i64 s1.num, .string s1.text, .slice none 0 0] 35 (0, 0)) := by rw [hwx, ← hz35]; exact heap_alloc_new w3 _
  have hgx3 : x0.g < w3.heap.size := by have := hbw5.size; omega
  have HKS := Lib.hid (show ∀ W : World, Below wx.heap.size wx W → (fun W => W.cell? ⟨w5.heap.size, 0, none⟩ = some (.string s1.name) ∧ W.cell? ⟨w5.heap.size, 1, none⟩ = some (.int .i64 s1.owner) ∧ W.cell? ⟨w5.heap.size, 2, none⟩ = some (.int .i64 s1.bits) ∧ W.cell? ⟨w5.heap.size, 3, none⟩ = some (.bool s1.clear) ∧ W.cell? ⟨w5.heap.size, 4, none⟩ = some (.int .i64 s1.kind) ∧ W.cell? ⟨w5.heap.size, 5, none⟩ = some (.int .i64 s1.num) ∧ W.cell? ⟨w5.heap.size, 6, none⟩ = some (.string s1.text) ∧ W.cell? ⟨w5.heap.size, 7, none⟩ = some (.slice none 0 0) ∧ W.cell? ⟨x0.g, 2, none⟩ = some (.int .i64 x0.o.owner)) W from fun W hW => by
    have hg := (hW.block w5.heap.size (by omega)).trans hgxx
    exact ⟨cell_of_row W _ 0 _ _ _ hg, cell_of_row W _ 1 _ _ _ hg, cell_of_row W _ 2 _ _ _ hg, cell_of_row W _ 3 _ _ _ hg, cell_of_row W _ 4 _ _ _ hg, cell_of_row W _ 5 _ _ _ hg, cell_of_row W _ 6 _ _ _ hg, cell_of_row W _ 7 _ _ _ hg, ((hbx.trans (hW.mono hbx.size)).cell (p := ⟨x0.g, 2, none⟩) hgx3).trans e2⟩)
  have HST1 := Lib.hid hst1
  have HF1 := Lib.hid hf1
  have HX1 := Lib.hid hx1
  have HT1 := Lib.hid hT1
  have HW3 := Lib.hid hw3
  have HFQ := Lib.hid hf
  have HFF := Lib.hid hff
  have HBX := Lib.hid hbx
  have HWX := Lib.hid hwx
  have HXZ := Lib.hid hxz
  have HBW5 := Lib.hid hbw5
  have HLP := Lib.hid hlp
  clear hst1 hf1 hfp hx1 hT1 hw3 hf hff hbx hwx hxz hbw5 hlp ht1 hob1 hys hry hgxx hysv hx1m
  go_wp2_with fail
  rw [rounds_succ]
  go_wp2_with fail
  rw [← HW3.out]
  clear c0 hl h8 f1 k1
  refine wp_loop_rounds 2 ?_
  rw [rounds_succ]
  go_wp2_with fail
  refine wp_loop_rounds 1 ?_
  rw [rounds_succ]
  go_wp2_with fail
  go_region_held3 (fun W => W.cell? ⟨a, 0, none⟩ = some (.map (some m)) ∧ W.cell? ⟨x0.g, 1, none⟩ = some (.int .i64 p) ∧ (Instr.lookup 82 (.map (some m)) (.int .i64 p) false).run Tryz.prog W = .ok (.pointer (some ⟨y0.g, 0, none⟩)) W)
    (first | (with_reducible exact K1) | (with_reducible exact K2))
    (fail)
  clear K1 K2
  go_wp2_with fail
  refine wp_loop_rounds 2 ?_
  rw [rounds_succ]
  go_upto_region 29 with fail
  rw [← HWX.out]
  clear r0 r1 r2 r3 r4 r5 r6 r7 y8
  go_wp2_with fail
  refine (conFS_none 0 _ _).mono ?_
  rintro e w8 ⟨rfl, rfl⟩
  go_upto_region 30 with fail
  refine wp_region_heldTo 9 (fun W => W.cell? ⟨w5.heap.size, 0, none⟩ = some (.string s1.name) ∧ W.cell? ⟨w5.heap.size, 1, none⟩ = some (.int .i64 s1.owner) ∧ W.cell? ⟨w5.heap.size, 2, none⟩ = some (.int .i64 s1.bits) ∧ W.cell? ⟨w5.heap.size, 3, none⟩ = some (.bool s1.clear) ∧ W.cell? ⟨w5.heap.size, 4, none⟩ = some (.int .i64 s1.kind) ∧ W.cell? ⟨w5.heap.size, 5, none⟩ = some (.int .i64 s1.num) ∧ W.cell? ⟨w5.heap.size, 6, none⟩ = some (.string s1.text) ∧ W.cell? ⟨w5.heap.size, 7, none⟩ = some (.slice none 0 0) ∧ W.cell? ⟨x0.g, 2, none⟩ = some (.int .i64 x0.o.owner)) (by kernel_rfl) (by kernel_rfl) (HKS.out _ ((Below.refl _ wx).drew)) (fun hSucc hHeld => ?_)
  refine heldTo_take (i := 0) (oi := _) (v := (.slice none 0 0)) hSucc rfl (by kernel_rfl) (by kernel_rfl) (by kernel_rfl) (by kernel_rfl) rfl (fun _ _ _ h => h) (Or.inl ⟨by rfl, fun W hSw => ?_⟩) (by with_reducible assumption) ?_
  · (try dsimp only at hSw); go_simp
  change heldTo _ _ _ _ _ _ _ _ (Act.put _ (some 140) _) _
  simp only [Act.put, List.setIfInBounds_toArray, List.set_cons_zero, List.set_cons_succ]
  refine heldTo_take (i := 1) (oi := _) (v := (.agg #[.string s1.name, .int .i64 s1.owner, .int .i64 s1.bits, .bool s1.clear, .int .i64 s1.kind, .int .i64 s1.num, .string s1.text, .slice none 0 0])) hSucc rfl (by kernel_rfl) (by kernel_rfl) (by kernel_rfl) (by kernel_rfl) rfl (fun _ _ _ h => h) (Or.inl ⟨by rfl, fun W hSw => ?_⟩) (by with_reducible assumption) ?_
  · (try dsimp only at hSw); go_simp
  change heldTo _ _ _ _ _ _ _ _ (Act.put _ (some 141) _) _
  simp only [Act.put, List.setIfInBounds_toArray, List.set_cons_zero, List.set_cons_succ]
  refine heldTo_take (i := 2) (oi := _) (v := (.pointer (some ⟨x0.g, 0, none⟩))) hSucc rfl (by kernel_rfl) (by kernel_rfl) (by kernel_rfl) (by kernel_rfl) rfl (fun _ _ _ h => h) (Or.inl ⟨by rfl, fun W hSw => ?_⟩) (by with_reducible assumption) ?_
  · (try dsimp only at hSw); go_simp
  change heldTo _ _ _ _ _ _ _ _ (Act.put _ (some 142) _) _
  simp only [Act.put, List.setIfInBounds_toArray, List.set_cons_zero, List.set_cons_succ]
  refine heldTo_take (i := 3) (oi := _) (v := (.pointer (some ⟨x0.g, 0, none⟩))) hSucc rfl (by kernel_rfl) (by kernel_rfl) (by kernel_rfl) (by kernel_rfl) rfl (fun _ _ _ h => h) (Or.inl ⟨by rfl, fun W hSw => ?_⟩) (by with_reducible assumption) ?_
  · (try dsimp only at hSw); go_simp
  change heldTo _ _ _ _ _ _ _ _ (Act.put _ (some 143) _) _
  simp only [Act.put, List.setIfInBounds_toArray, List.set_cons_zero, List.set_cons_succ]
  refine heldTo_take (i := 4) (oi := _) (v := (.pointer (some ⟨x0.g, 2, none⟩))) hSucc rfl (by kernel_rfl) (by kernel_rfl) (by kernel_rfl) (by kernel_rfl) rfl (fun _ _ _ h => h) (Or.inl ⟨by rfl, fun W hSw => ?_⟩) (by with_reducible assumption) ?_
  · (try dsimp only at hSw); go_simp
  change heldTo _ _ _ _ _ _ _ _ (Act.put _ (some 144) _) _
  simp only [Act.put, List.setIfInBounds_toArray, List.set_cons_zero, List.set_cons_succ]
  refine heldTo_take (i := 5) (oi := _) (v := (.int .i64 x0.o.owner)) hSucc rfl (by kernel_rfl) (by kernel_rfl) (by kernel_rfl) (by kernel_rfl) rfl (fun _ _ _ h => h) (Or.inl ⟨by rfl, fun W hSw => ?_⟩) (by with_reducible assumption) ?_
  · (try dsimp only at hSw); go_simp
  change heldTo _ _ _ _ _ _ _ _ (Act.put _ (some 145) _) _
  simp only [Act.put, List.setIfInBounds_toArray, List.set_cons_zero, List.set_cons_succ]
  refine heldTo_one (i := 6) (o := _) (by kernel_rfl) rfl (fun K hK => ?_)
  go_simp
  go_at_call 46
  refine (FR.out _).mono ?_
  rintro e w8 ⟨rfl, hb8⟩
  have HB8 := Lib.hid (show Below wx.heap.size wx w8 from ((Below.refl wx.heap.size wx).drew).trans hb8)
  clear hb8 hHeld
  refine hK.out _ _ (HKS.out _ HB8.out) (fun hHeld => ?_)
  clear hK K
  obtain ⟨wb, hwb⟩ : ∃ wb, wb = w8.alloc (.cells #[.string f.name, .int .i64 f.owner, .int .i64 f.bits, .bool f.clear, .int .i64 f.kind, .int .i64 f.num, .string f.text, .slice none 0 0] 35) := ⟨_, rfl⟩
  have HBB := Lib.hid (show Below wx.heap.size wx wb by rw [hwb]; exact HB8.out.alloc HB8.out.size _)
  have HWB := Lib.hid hwb
  clear hwb
  refine heldTo_one (i := 7) (o := _) (by kernel_rfl) rfl (fun K hK => ?_)
  go_simp
  rw [← HWB.out]
  clear hHeld
  refine hK.out _ _ (HKS.out _ HBB.out) (fun hHeld => ?_)
  clear hK K
  refine heldTo_one (i := 8) (o := _) (by kernel_rfl) rfl (fun K hK => ?_)
  refine step_append_lies _ (by rfl) (.tmp 140) (.tmp 147) 26 (by rfl) w3.heap.size 35 i0 _ 8 96 Tryz.underlying26 hi0 hz0 hz1 hz2 rfl (by decide) (.slice none 0 0) 0 [] (by rfl) (World.ownsRow_nil _ _ _ _) ⟨w8.heap.size, 0, none⟩ 1 1 [.string f.name, .int .i64 f.owner, .int .i64 f.bits, .bool f.clear, .int .i64 f.kind, .int .i64 f.num, .string f.text, .slice none 0 0] (by rfl) rfl (by rw [HWB.out]; exact news8 _ _ _ _ _ _ _ _ _ _) (one8 _ _ _ _ _ _ _) (by decide) (by decide) (by decide) (by have := HBB.out.size; have := HXZ.out; omega) _ rfl ?_
  intro g9 cap w9 hown9 hg9 hat hlt9
  have HB9 := Lib.hid (show Below wx.heap.size wx w9 from Below.grown HBB.out hg9 HBB.out.size (fun k hk => by cases hk))
  clear hHeld
  refine hK.out _ _ (HKS.out _ HB9.out) (fun hHeld => ?_)
  clear hK K
  refine heldTo_last (o := _) (by kernel_rfl) rfl (fun K hK => ?_)
  go_simp
  refine hK.out _ _ ?_
  clear hK K hHeld
  refine heldTo_done (by kernel_rfl) ?_ _
  have hb39 : Below w3.heap.size w3 wb := HBX.out.trans (HBB.out.mono HBX.out.size)
  have HASL := fun w6 (hb6 : Below w9.heap.size (w9.setCell ⟨x1.g, 8, none⟩ (.slice (some ⟨g9, 0, none⟩) 1 cap)) w6) => add_slot HST1.out.ts HF1.out hb39 (by rw [HX1.out]; exact HSN.out) hg9 hown9 hb6 HFF.out
  have h3w : ∀ b, b < w3.heap.size → w9.heap[b]? = w3.heap[b]? := fun b hb => (hg9.block b (by have := hb39.size; omega) (by simp [Value.ownBlock])).trans (hb39.block b hb)
  have hob9 := (HST1.out.ts.tab.objs x1 (findT_some HF1.out).1).keep (fun b hb => h3w b ((HST1.out.ts.tab.objs x1 (findT_some HF1.out).1).lt b hb))
  rw [HX1.out] at hob9
  have k98 : w9.cell? ⟨x0.g, 8, none⟩ = some (.slice none 0 0) := by rw [← HSN.out]; exact hob9.cell 8
  have f98 : w9.frozen? ⟨x0.g, 8, none⟩ = false := hob9.free 8
  have hbf := HASL (w9.setCell ⟨x1.g, 8, none⟩ (.slice (some ⟨g9, 0, none⟩) 1 cap)) (Below.refl _ _)
  have hst := ((StS.of_below H.out HBW5.out).trans HST1.out).trans hbf
  have hoT : obT (repT T1 o ⟨{ x1.o with slots := [f] }, x1.g, x1.dv, .slice (some ⟨g9, 0, none⟩) 1 cap⟩) = repO (obT T) o { x0.o with parent := p, slots := [f] } := by
    rw [obT_rep, HT1.out, obT_rep, HX1.out]
    exact repO_twice _ _ _ _ (findT_some HX0.out).2
  rw [HX1.out] at hst hoT
  dsimp only at hst hoT
  have HST := Lib.hid hst
  have HOT := Lib.hid hoT
  clear HASL hob9 hbf hst hoT hb39 h3w hg9 hown9 hat hlt9
  go_wp2_with fail
  rw [rounds_succ]
  go_wp2_with fail
  refine (sortSlots_1 _ 1 cap _ (by omega)).mono ?_
  rintro e w10 ⟨rfl, rfl⟩
  go_wp2_with fail
  rw [rounds_succ]
  go_wp2_with fail
  go_end0
  rw [← HFQ.out]
  exact ⟨rfl, _, HST.out, HOT.out⟩
end Go.Proofs.YtnphgcbknfmapaaGreatDoor
namespace Go.Proofs.YtnphgcbknfmapaaGreatDoor
open Go.RowKit Go.Lib
set_option linter.unusedVariables false
set_option linter.unusedSimpArgs false
section
variable {B a m gW : Nat} {w0 w w' : World} {l l' : List OB} {mx mx' o : Int} {K : List (Nat × Obj)} {T : List OM} {x : OM} {id : Int} {wz pg : Bool}
set_option maxRecDepth 100000 in
set_option maxHeartbeats 4000000 in
theorem put_flS (h : TS w B a m T mx) (hx : findT T o = some x) (n : ByteArray) (hn : NotNm n) (fl fl' q : Int) (hf : x.o.flags = fl) (CF : ∀ W, Calls Tryz.prog 101 #[.string n] W fun e w' => e = .returned (.int .i64 q) ∧ W = w') (hA : Go.bits .andNot .i64 fl q = fl') :
    Calls Tryz.prog 56 #[.pointer (some ⟨a, 0, none⟩), .pointer (some ⟨x.g, 0, none⟩), .string n, .agg #[.int .i64 0, .int .i64 0, .string ⟨#[]⟩, .slice none 0 0]] w fun e w' => e = .returned (.int .i64 0) ∧ ∃ T', StS w w' B a m T T' mx mx ∧ obT T' = repO (obT T) o { x.o with flags := fl' } := by
  have hxm := (findT_some hx).1
  have hob := h.tab.objs x hxm
  have hxz := hob.lt x.g (OM.mem_blocks.2 (.inl rfl))
  have hne : ¬ x.g = w.heap.size := by omega
  have hne2 : ¬ w.heap.size = x.g := by omega
  obtain ⟨n1, n2, n3, n4⟩ := hn
  have CFL := Lib.hid CF
  have CTR := Lib.hid (true_b false)
  have x4 : w.cell? ⟨x.g, 4, none⟩ = some (.int .i64 fl) := by rw [← hf]; exact hob.cell 4
  obtain ⟨w1, hw1⟩ : ∃ w1, w1 = w.alloc (.cells #[.int .i64 0, .int .i64 (0), .string ⟨#[]⟩, .slice none 0 0] 33) := ⟨_, rfl⟩
  have hb1 : Below w.heap.size w w1 := by rw [hw1]; exact (Below.refl _ _).alloc (Nat.le_refl _) _
  have hr1 : w1.heap[w.heap.size]? = some (.cells #[.int .i64 0, .int .i64 (0), .string ⟨#[]⟩, .slice none 0 0] 33 (0, 0)) := by rw [hw1]; exact heap_alloc_new _ _
  have hx1 : w1.heap[x.g]? = some (.cells x.cells 29 (0, 0)) := (hb1.block x.g hxz).trans hob.blk
  have c4 : w1.cell? ⟨x.g, 4, none⟩ = some (.int .i64 fl) := (hb1.cell (p := ⟨x.g, 4, none⟩) hxz).trans x4
  have f4 : w1.frozen? ⟨x.g, 4, none⟩ = false := frozen_of_row w1 x.g 4 _ _ hx1
  have v0 := cell_of_row w1 w.heap.size 0 _ _ _ hr1
  have v1 := cell_of_row w1 w.heap.size 1 _ _ _ hr1
  have v2 := cell_of_row w1 w.heap.size 2 _ _ _ hr1
  have v3 := cell_of_row w1 w.heap.size 3 _ _ _ hr1
  have HS1 := Lib.hid ((h.keep hb1).field hx 4 (.int .i64 fl') { x.o with flags := fl' } rfl rfl rfl rfl (okS_upd h.ok (getO_some' hx) (fun y => { y with flags := fl' }) rfl (fun _ => rfl) (fun _ => rfl) (fun _ => rfl) (fun _ => rfl) (fun _ => rfl)))
  have HP1 := Lib.hid (StS.of_below h hb1)
  have HX1 := Lib.hid hx1
  have HW1 := Lib.hid hw1
  have HX := Lib.hid hx
  have HXM := Lib.hid hxm
  clear h hx hf hob hxm hb1 hr1 x4 hxz CF hx1 hw1
  go_enter Tryz.func56, Tryz.ntmps56
  go_upto_region 19 with fail
  rw [← HW1.out]
  refine wp_region_heldTo 9 (fun W => W.cell? ⟨x.g, 4, none⟩ = some (.int .i64 fl)) (by kernel_rfl) (by kernel_rfl) c4 (fun hSucc hHeld => ?_)
  refine heldTo_take (i := 0) (oi := _) (v := (.pointer (some ⟨x.g, 0, none⟩))) hSucc rfl (by kernel_rfl) (by kernel_rfl) (by kernel_rfl) (by kernel_rfl) rfl (fun _ _ _ h => h) (Or.inl ⟨by rfl, fun W hSw => ?_⟩) (by with_reducible assumption) ?_
  · (try dsimp only at hSw); go_simp
  change heldTo _ _ _ _ _ _ _ _ (Act.put _ (some 52) _) _
  simp only [Act.put, List.setIfInBounds_toArray, List.set_cons_zero, List.set_cons_succ]
  refine heldTo_take (i := 1) (oi := _) (v := (.pointer (some ⟨x.g, 0, none⟩))) hSucc rfl (by kernel_rfl) (by kernel_rfl) (by kernel_rfl) (by kernel_rfl) rfl (fun _ _ _ h => h) (Or.inl ⟨by rfl, fun W hSw => ?_⟩) (by with_reducible assumption) ?_
  · (try dsimp only at hSw); go_simp
  change heldTo _ _ _ _ _ _ _ _ (Act.put _ (some 53) _) _
  simp only [Act.put, List.setIfInBounds_toArray, List.set_cons_zero, List.set_cons_succ]
  refine heldTo_take (i := 2) (oi := _) (v := (.pointer (some ⟨x.g, 4, none⟩))) hSucc rfl (by kernel_rfl) (by kernel_rfl) (by kernel_rfl) (by kernel_rfl) rfl (fun _ _ _ h => h) (Or.inl ⟨by rfl, fun W hSw => ?_⟩) (by with_reducible assumption) ?_
  · (try dsimp only at hSw); go_simp
  change heldTo _ _ _ _ _ _ _ _ (Act.put _ (some 54) _) _
  simp only [Act.put, List.setIfInBounds_toArray, List.set_cons_zero, List.set_cons_succ]
  refine heldTo_take (i := 3) (oi := _) (v := (.int .i64 fl)) hSucc rfl (by kernel_rfl) (by kernel_rfl) (by kernel_rfl) (by kernel_rfl) rfl (fun _ _ _ h => h) (Or.inl ⟨by rfl, fun W hSw => ?_⟩) (by with_reducible assumption) ?_
  · (try dsimp only at hSw); go_simp
  change heldTo _ _ _ _ _ _ _ _ (Act.put _ (some 55) _) _
  simp only [Act.put, List.setIfInBounds_toArray, List.set_cons_zero, List.set_cons_succ]
  refine heldTo_take (i := 4) (oi := _) (v := (.string n)) hSucc rfl (by kernel_rfl) (by kernel_rfl) (by kernel_rfl) (by kernel_rfl) rfl (fun _ _ _ h => h) (Or.inl ⟨by rfl, fun W hSw => ?_⟩) (by with_reducible assumption) ?_
  · (try dsimp only at hSw); go_simp
  change heldTo _ _ _ _ _ _ _ _ (Act.put _ (some 56) _) _
  simp only [Act.put, List.setIfInBounds_toArray, List.set_cons_zero, List.set_cons_succ]
  refine heldTo_one (i := 5) (o := _) (by kernel_rfl) rfl (fun K hK => ?_)
  go_simp
  go_at_call 101
  refine (CFL.out _).mono ?_
  rintro e w7 ⟨rfl, rfl⟩
  refine hK.out _ _ hHeld (fun hHeld => ?_)
  clear hK K
  refine heldTo_take (i := 6) (oi := _) (v := (.int .i64 fl')) hSucc rfl (by kernel_rfl) (by kernel_rfl) (by kernel_rfl) (by kernel_rfl) rfl (fun _ _ _ h => h) (Or.inl ⟨by rfl, fun W hSw => ?_⟩) (by with_reducible assumption) ?_
  · (try dsimp only at hSw); go_simp
  change heldTo _ _ _ _ _ _ _ _ (Act.put _ (some 58) _) _
  simp only [Act.put, List.setIfInBounds_toArray, List.set_cons_zero, List.set_cons_succ]
  refine heldTo_take (i := 7) (oi := _) (v := (.pointer (some ⟨x.g, 0, none⟩))) hSucc rfl (by kernel_rfl) (by kernel_rfl) (by kernel_rfl) (by kernel_rfl) rfl (fun _ _ _ h => h) (Or.inl ⟨by rfl, fun W hSw => ?_⟩) (by with_reducible assumption) ?_
  · (try dsimp only at hSw); go_simp
  change heldTo _ _ _ _ _ _ _ _ (Act.put _ (some 59) _) _
  simp only [Act.put, List.setIfInBounds_toArray, List.set_cons_zero, List.set_cons_succ]
  refine heldTo_take (i := 8) (oi := _) (v := (.pointer (some ⟨x.g, 4, none⟩))) hSucc rfl (by kernel_rfl) (by kernel_rfl) (by kernel_rfl) (by kernel_rfl) rfl (fun _ _ _ h => h) (Or.inl ⟨by rfl, fun W hSw => ?_⟩) (by with_reducible assumption) ?_
  · (try dsimp only at hSw); go_simp
  change heldTo _ _ _ _ _ _ _ _ (Act.put _ (some 60) _) _
  simp only [Act.put, List.setIfInBounds_toArray, List.set_cons_zero, List.set_cons_succ]
  refine heldTo_last (o := _) (by kernel_rfl) rfl (fun K hK => ?_)
  go_simp
  refine hK.out _ _ ?_
  clear hK K hHeld
  refine heldTo_done (by kernel_rfl) ?_ _
  go_wp2_with fail
  refine (CTR.out _).mono ?_
  rintro e w3 ⟨rfl, hb3⟩
  obtain ⟨w2, hw2⟩ : ∃ w2, w2 = w1.setCell ⟨x.g, 4, none⟩ (.int .i64 fl') := ⟨_, rfl⟩
  have hx2 : w2.heap[x.g]? = some (.cells (x.cells.setIfInBounds 4 (.int .i64 fl')) 29 (0, 0)) := by rw [hw2]; exact heap_setCell_same w1 x.g 4 _ _ _ HX1.out
  rw [← hw2] at hb3 HS1
  replace hb3 : Below w2.heap.size w2 w3 := (Below.refl w2.heap.size w2).drew.trans hb3
  have hx3 := (hb3.block x.g (Array.getElem?_eq_some_iff.1 hx2).1).trans hx2
  have g4 : w3.cell? ⟨x.g, 4, none⟩ = some (.int .i64 fl') := cell_of_row w3 x.g 4 _ _ _ hx3
  have fg4 : w3.frozen? ⟨x.g, 4, none⟩ = false := frozen_of_row w3 x.g 4 _ _ hx3
  have HS3 := Lib.hid ((HP1.out.trans HS1.out).behind hb3)
  clear hb3 hx2 hx3 hw2 HS1 HP1 c4 f4 v0 v1 v2 v3
  go_wp2_with fail
  go_ret
  exact ⟨rfl, _, HS3.out, obT_rep T o _⟩
theorem put_viaT (h : Tab w B a m T mx) (ho : I64 o) (hx : findT T o = some x) (n : ByteArray) (hi : biB n = true) (k v : Int) (s : ByteArray) (c : Int) {R : World → World → Prop} (CP : ∀ W, Below w.heap.size w W → Calls Tryz.prog 56 #[.pointer (some ⟨a, 0, none⟩), .pointer (some ⟨x.g, 0, none⟩), .string n, .agg #[.int .i64 k, .int .i64 v, .string s, .slice none 0 0]] W fun e w' => e = .returned (.int .i64 c) ∧ R W w') :
    Calls Tryz.prog 19 #[.pointer (some ⟨a, 0, none⟩), .int .i64 o, .string n, .agg #[.int .i64 k, .int .i64 v, .string s, .slice none 0 0]] w fun e w' => e = .returned (.int .i64 c) ∧ ∃ W, Below w.heap.size w W ∧ R W w' := by
  have hb0 : Below w.heap.size w (w.alloc (.cells #[.int .i64 k, .int .i64 v, .string s, .slice none 0 0] 33)) := (Below.refl _ _).alloc (Nat.le_refl _) _
  have CR := Lib.hid (ref_c (h.below hb0) ho)
  rw [ptrT_some hx] at CR
  have CB := Lib.hid (fun W => pbuiltin_c n W)
  rw [hi] at CB
  have CPH := Lib.hid CP
  have HB0 := Lib.hid hb0
  clear h hx hb0 CP hi
  go_enter Tryz.func19, Tryz.ntmps19
  go_wp2_with fail
  refine CR.out.mono ?_
  rintro e w1 ⟨rfl, rfl⟩
  go_wp2_with fail
  refine (CB.out _).mono ?_
  rintro e w2 ⟨rfl, hb2⟩
  have hr2 := (hb2.block w.heap.size (by simp)).trans (heap_alloc_new w _)
  have v0 := cell_of_row w2 w.heap.size 0 _ _ _ hr2
  have v1 := cell_of_row w2 w.heap.size 1 _ _ _ hr2
  have v2 := cell_of_row w2 w.heap.size 2 _ _ _ hr2
  have v3 := cell_of_row w2 w.heap.size 3 _ _ _ hr2
  have HB2 := Lib.hid (HB0.out.trans (hb2.mono HB0.out.size))
  clear hb2 hr2 CR CB
  go_wp2_with fail
  refine (CPH.out _ HB2.out).mono ?_
  rintro e w3 ⟨rfl, hr⟩
  have HR := Lib.hid hr
  clear hr
  go_wp2_with fail
  go_ret
  exact ⟨rfl, _, HB2.out, HR.out⟩
end
section
variable {B a m gW : Nat} {w0 w w' : World} {l l' : List OB} {mx mx' o : Int} {K : List (Nat × Obj)} {x y : OB} {id : Int} {wz pg : Bool}
def fS : ByteArray := ⟨#[102]⟩
theorem fS_bi : biB fS = true := by decide +kernel
theorem putf_L (h : LS B w0 w a m l mx K) (ho : I64 o) (hx : getO l o = some x) (fl' : Int) (hA : Go.bits .andNot .i64 x.flags 32 = fl') :
    Calls Tryz.prog 19 #[.pointer (some ⟨a, 0, none⟩), .int .i64 o, .string fS, .agg #[.int .i64 0, .int .i64 0, .string ⟨#[]⟩, .slice none 0 0]] w fun e w' => e = .returned (.int .i64 0) ∧ LS B w0 w' a m (repO l o { x with flags := fl' }) mx K := by
  obtain ⟨T, ht, rfl, h0, hK⟩ := h
  obtain ⟨y, hy, rfl⟩ := findT_of_getO hx
  have CF := fun W => flag_c 5 (by omega) W
  refine (put_viaT ht.tab ho hy fS fS_bi 0 0 ⟨#[]⟩ 0 (R := fun W w' => ∃ T', StS W w' B a m T T' mx mx ∧ obT T' = repO (obT T) o { y.o with flags := fl' }) fun W hW => put_flS (ht.keep hW) hy fS (flN_not (i := 5) (by omega)) y.o.flags fl' 32 rfl CF hA).mono ?_
  rintro e w' ⟨rfl, W, hW, T', hs, ho'⟩
  exact ⟨rfl, ls_at ht h0 hK hW hs ho'⟩
theorem moveS_L (h : LS B w0 w a m l mx K) (ho : I64 o) {p : Int} (hp : I64 p) (hx : getO l o = some x) (hpp : p = -1 ∨ hasO l p = true) (hi : o ∉ rowO l OB.place p) :
    Calls Tryz.prog 18 #[.pointer (some ⟨a, 0, none⟩), .int .i64 o, .int .i64 p] w fun e w' => e = .returned (.int .i64 0) ∧ LS B w0 w' a m (repO l o { x with place := p }) mx K := by
  obtain ⟨T, ht, rfl, h0, hK⟩ := h
  obtain ⟨y, hy, rfl⟩ := findT_of_getO hx
  refine (move_S ht ho hp hy hpp hi).mono ?_
  rintro e w' ⟨rfl, T', hs, ho'⟩
  exact ⟨rfl, ls_step ht h0 hK hs ho'⟩
theorem chparP_L (h : LS B w0 w a m l mx K) (ho : I64 o) {p : Int} (hp : I64 p) (hx : getO l o = some x) (hy : getO l p = some y) (hpo : ¬ p = o) (hb : belowO l o = some [o]) (hd : x.defs = []) (hs0 : x.slots = []) {s1 : SL} (hy1 : y.slots = [s1]) (hi : isO l p o = false) (hsm : (nmO l p).length ≤ 100000) (hri : RiseS (nmO l p)) :
    Calls Tryz.prog 14 #[.pointer (some ⟨a, 0, none⟩), .int .i64 o, .int .i64 p] w fun e w' => e = .returned (.int .i64 0) ∧ LS B w0 w' a m (repO l o { x with parent := p, slots := [freshO s1 x.owner] }) mx K := by
  obtain ⟨T, ht, rfl, h0, hK⟩ := h
  obtain ⟨z, hz, rfl⟩ := findT_of_getO hx
  obtain ⟨u, hu, rfl⟩ := findT_of_getO hy
  have hpi : ParI T := okS_parI ht.ok ht.tab.mxr.2
  refine (chpar_ap (R := fun W w' => ∃ T', StS W w' B a m T T' mx mx ∧ obT T' = repO (obT T) o { z.o with parent := p, slots := [freshO s1 z.o.owner] }) ht ho hp hz (findT_has hu) hb hd hpi hi hsm hri fun W hW => under_b (ht.keep hW) ho hp hz hb hd hs0 hu hpo hy1 (isO_row hi)).mono ?_
  rintro e w' ⟨rfl, W, hW, T', hs, ho'⟩
  exact ⟨rfl, ls_at ht h0 hK hW hs ho'⟩
end
end Go.Proofs.YtnphgcbknfmapaaGreatDoor
namespace Go.Proofs.YtnphgcbknfmapaaGreatDoor
open Go.RowKit Go.Lib
set_option linter.unusedVariables false
set_option linter.unusedSimpArgs false
section
variable {B a m gW : Nat} {w0 w w' : World} {l l' : List OB} {mx mx' o : Int} {K : List (Nat × Obj)} {x y : OB} {id : Int} {wz pg : Bool}
theorem hasB_L (h : LS B w0 w a m l mx K) (ho : I64 o) {r : Bool} (hr : hasO l o = r) : Calls Tryz.prog 45 #[.pointer (some ⟨a, 0, none⟩), .int .i64 o] w fun e w' => e = .returned (.bool r) ∧ w = w' := by
  obtain ⟨T, ht, rfl, h0, hK⟩ := h
  subst hr
  exact has_c ht.tab ho

theorem LS.neg (h : LS B w0 w a m l mx K) : getO l (-1) = none := by
  obtain ⟨T, ht, rfl, h0, hK⟩ := h
  exact getO_none' ht.tab.neg

set_option maxRecDepth 100000 in
set_option maxHeartbeats 2000000 in
theorem wmove_nn (h : LS B w0 w a m l mx K) (hW : WK gW a ∈ K) (ho : I64 o) (hx : getO l o = some x) (hr : ownB id wz x.owner = false) :
    Calls Tryz.prog 38 #[.pointer (some ⟨gW, 0, none⟩), .agg #[.int .i64 id, .bool wz, .bool pg], .int .i64 o, .int .i64 (-1)] w fun e w' => e = .returned (.int .i64 3) ∧ Below w.heap.size w w' := by
  obtain ⟨w3, hw3⟩ : ∃ w3, w3 = w.alloc (.cells #[.int .i64 id, .bool wz, .bool pg] 71) := ⟨_, rfl⟩
  have hb3 : Below w.heap.size w w3 := by rw [hw3]; exact (Below.refl _ _).alloc (Nat.le_refl _) _
  have hz3 : w3.heap.size = w.heap.size + 1 := by rw [hw3]; simp
  have g4 : w3.heap[w.heap.size]? = some (.cells #[.int .i64 id, .bool wz, .bool pg] 71 (0, 0)) := by
    rw [hw3]
    exact heap_alloc_new w _
  have h3 := h.below hb3
  obtain ⟨gx, A1, n1, A2, n2, hgx, hR, hcx⟩ := ref_B h3 ho hx
  have HK := Lib.hid (fun W (hb : Below w3.heap.size w3 W) => (h3.below hb).wk hW)
  have k3 := HK.out w3 (Below.refl _ _)
  have CR := Lib.hid (fun W (hb : Below w3.heap.size w3 W) => hR W hb)
  have p0 := cell_of_row w3 _ 0 _ _ _ g4
  have p1 := cell_of_row w3 _ 1 _ _ _ g4
  have p2 := cell_of_row w3 _ 2 _ _ _ g4
  have q0 := hcx w3 (Below.refl _ _) 0
  have q1 := hcx w3 (Below.refl _ _) 1
  have q2 := hcx w3 (Below.refl _ _) 2
  have q3 := hcx w3 (Below.refl _ _) 3
  have q4 := hcx w3 (Below.refl _ _) 4
  have q5 := hcx w3 (Below.refl _ _) 5
  have q6 := hcx w3 (Below.refl _ _) 6
  have q7 := hcx w3 (Below.refl _ _) 7
  have q8 := hcx w3 (Below.refl _ _) 8
  have q9 := hcx w3 (Below.refl _ _) 9
  have CO := Lib.hid (fun W => pobj12_c (id := id) (wz := wz) (pg := pg) (A1 := A1) (A2 := A2) (n1 := x.defs.length) (n2 := x.slots.length) (c1 := n1) (c2 := n2) x W)
  rw [hr] at CO
  have HB3 := Lib.hid hb3
  have HW3 := Lib.hid hw3
  clear h h3 hb3 g4 hz3 hw3 hx hR hcx hr
  go_enter Tryz.func38, Tryz.ntmps38
  go_upto_region 1 with fail
  rw [← HW3.out]
  go_wp2_with fail
  refine (CR.out _ (Below.refl _ _)).mono ?_
  rintro e w4 ⟨rfl, rfl⟩
  go_upto_region 4 with fail
  go_still_tail 4, (by kernel_rfl)
  change wpList _ _ _ _ _ w3.drew
  go_wp2_with fail
  refine (CO.out _).mono ?_
  rintro e w5 ⟨rfl, hb5⟩
  have HB5 := Lib.hid (show Below w3.heap.size w3 w5 from ((Below.refl w3.heap.size w3).drew).trans hb5)
  have k5 := HK.out w5 HB5.out
  clear hb5 p0 p1 p2 q0 q1 q2 q3 q4 q5 q6 q7 q8 q9 k3
  have HF := Lib.hid (HB3.out.trans (HB5.out.mono HB3.out.size))
  go_wp2_with fail
  go_ret
  exact ⟨rfl, HF.out⟩

set_option maxRecDepth 100000 in
set_option maxHeartbeats 2000000 in
theorem wmove_ny (h : LS B w0 w a m l mx K) (hW : WK gW a ∈ K) (ho : I64 o) (hx : getO l o = some x) (hr : ownB id wz x.owner = true) :
    Calls Tryz.prog 38 #[.pointer (some ⟨gW, 0, none⟩), .agg #[.int .i64 id, .bool wz, .bool pg], .int .i64 o, .int .i64 (-1)] w fun e w' => e = .returned (.int .i64 0) ∧ LS B w0 w' a m (repO l o { x with place := (-1) }) mx K := by
  obtain ⟨w3, hw3⟩ : ∃ w3, w3 = w.alloc (.cells #[.int .i64 id, .bool wz, .bool pg] 71) := ⟨_, rfl⟩
  have hb3 : Below w.heap.size w w3 := by rw [hw3]; exact (Below.refl _ _).alloc (Nat.le_refl _) _
  have hz3 : w3.heap.size = w.heap.size + 1 := by rw [hw3]; simp
  have g4 : w3.heap[w.heap.size]? = some (.cells #[.int .i64 id, .bool wz, .bool pg] 71 (0, 0)) := by
    rw [hw3]
    exact heap_alloc_new w _
  have h3 := h.below hb3
  obtain ⟨gx, A1, n1, A2, n2, hgx, hR, hcx⟩ := ref_B h3 ho hx
  have HK := Lib.hid (fun W (hb : Below w3.heap.size w3 W) => (h3.below hb).wk hW)
  have k3 := HK.out w3 (Below.refl _ _)
  have CR := Lib.hid (fun W (hb : Below w3.heap.size w3 W) => hR W hb)
  have p0 := cell_of_row w3 _ 0 _ _ _ g4
  have p1 := cell_of_row w3 _ 1 _ _ _ g4
  have p2 := cell_of_row w3 _ 2 _ _ _ g4
  have q0 := hcx w3 (Below.refl _ _) 0
  have q1 := hcx w3 (Below.refl _ _) 1
  have q2 := hcx w3 (Below.refl _ _) 2
  have q3 := hcx w3 (Below.refl _ _) 3
  have q4 := hcx w3 (Below.refl _ _) 4
  have q5 := hcx w3 (Below.refl _ _) 5
  have q6 := hcx w3 (Below.refl _ _) 6
  have q7 := hcx w3 (Below.refl _ _) 7
  have q8 := hcx w3 (Below.refl _ _) 8
  have q9 := hcx w3 (Below.refl _ _) 9
  have CO := Lib.hid (fun W => pobj12_c (id := id) (wz := wz) (pg := pg) (A1 := A1) (A2 := A2) (n1 := x.defs.length) (n2 := x.slots.length) (c1 := n1) (c2 := n2) x W)
  rw [hr] at CO
  have CM := Lib.hid (fun W (hb : Below w3.heap.size w3 W) => moveS_L (p := (-1)) (h3.below hb) ho ⟨by omega, by omega⟩ hx (.inl rfl) (by rw [row_none (h3.neg)]; simp))
  have HB3 := Lib.hid hb3
  have HW3 := Lib.hid hw3
  clear h h3 hb3 g4 hz3 hw3 hx hR hcx hr
  go_enter Tryz.func38, Tryz.ntmps38
  go_upto_region 1 with fail
  rw [← HW3.out]
  go_wp2_with fail
  refine (CR.out _ (Below.refl _ _)).mono ?_
  rintro e w4 ⟨rfl, rfl⟩
  go_upto_region 4 with fail
  go_still_tail 4, (by kernel_rfl)
  change wpList _ _ _ _ _ w3.drew
  go_wp2_with fail
  refine (CO.out _).mono ?_
  rintro e w5 ⟨rfl, hb5⟩
  have HB5 := Lib.hid (show Below w3.heap.size w3 w5 from ((Below.refl w3.heap.size w3).drew).trans hb5)
  have k5 := HK.out w5 HB5.out
  clear hb5 p0 p1 p2 q0 q1 q2 q3 q4 q5 q6 q7 q8 q9 k3
  go_wp2_with fail
  refine (CM.out _ HB5.out).mono ?_
  rintro e w6 ⟨rfl, hl6⟩
  have HL6 := Lib.hid hl6
  clear hl6
  go_wp2_with fail
  go_ret
  exact ⟨rfl, HL6.out⟩

set_option maxRecDepth 100000 in
set_option maxHeartbeats 2000000 in
theorem wmove_pn (h : LS B w0 w a m l mx K) (hW : WK gW a ∈ K) (ho : I64 o) (hx : getO l o = some x) {p : Int} (hp : I64 p) (hpn : ¬ p = -1) (hpp : hasO l p = true) (hr : ownB id wz x.owner = false) :
    Calls Tryz.prog 38 #[.pointer (some ⟨gW, 0, none⟩), .agg #[.int .i64 id, .bool wz, .bool pg], .int .i64 o, .int .i64 p] w fun e w' => e = .returned (.int .i64 3) ∧ Below w.heap.size w w' := by
  obtain ⟨w3, hw3⟩ : ∃ w3, w3 = w.alloc (.cells #[.int .i64 id, .bool wz, .bool pg] 71) := ⟨_, rfl⟩
  have hb3 : Below w.heap.size w w3 := by rw [hw3]; exact (Below.refl _ _).alloc (Nat.le_refl _) _
  have hz3 : w3.heap.size = w.heap.size + 1 := by rw [hw3]; simp
  have g4 : w3.heap[w.heap.size]? = some (.cells #[.int .i64 id, .bool wz, .bool pg] 71 (0, 0)) := by
    rw [hw3]
    exact heap_alloc_new w _
  have h3 := h.below hb3
  obtain ⟨gx, A1, n1, A2, n2, hgx, hR, hcx⟩ := ref_B h3 ho hx
  have HK := Lib.hid (fun W (hb : Below w3.heap.size w3 W) => (h3.below hb).wk hW)
  have k3 := HK.out w3 (Below.refl _ _)
  have CR := Lib.hid (fun W (hb : Below w3.heap.size w3 W) => hR W hb)
  have p0 := cell_of_row w3 _ 0 _ _ _ g4
  have p1 := cell_of_row w3 _ 1 _ _ _ g4
  have p2 := cell_of_row w3 _ 2 _ _ _ g4
  have q0 := hcx w3 (Below.refl _ _) 0
  have q1 := hcx w3 (Below.refl _ _) 1
  have q2 := hcx w3 (Below.refl _ _) 2
  have q3 := hcx w3 (Below.refl _ _) 3
  have q4 := hcx w3 (Below.refl _ _) 4
  have q5 := hcx w3 (Below.refl _ _) 5
  have q6 := hcx w3 (Below.refl _ _) 6
  have q7 := hcx w3 (Below.refl _ _) 7
  have q8 := hcx w3 (Below.refl _ _) 8
  have q9 := hcx w3 (Below.refl _ _) 9
  have CO := Lib.hid (fun W => pobj12_c (id := id) (wz := wz) (pg := pg) (A1 := A1) (A2 := A2) (n1 := x.defs.length) (n2 := x.slots.length) (c1 := n1) (c2 := n2) x W)
  rw [hr] at CO
  have CH := Lib.hid (hasB_L h3 hp hpp)
  have hpn' : ((p == -1) = false) := by simpa using hpn
  have HB3 := Lib.hid hb3
  have HW3 := Lib.hid hw3
  clear h h3 hb3 g4 hz3 hw3 hx hR hcx hr hpp
  go_enter Tryz.func38, Tryz.ntmps38
  go_upto_region 1 with fail
  rw [← HW3.out]
  go_wp2_with fail
  refine (CR.out _ (Below.refl _ _)).mono ?_
  rintro e w4 ⟨rfl, rfl⟩
  go_wp2_with fail
  refine CH.out.mono ?_
  rintro e w4 ⟨rfl, rfl⟩
  go_upto_region 4 with fail
  go_still_tail 4, (by kernel_rfl)
  change wpList _ _ _ _ _ w3.drew
  go_wp2_with fail
  refine (CO.out _).mono ?_
  rintro e w5 ⟨rfl, hb5⟩
  have HB5 := Lib.hid (show Below w3.heap.size w3 w5 from ((Below.refl w3.heap.size w3).drew).trans hb5)
  have k5 := HK.out w5 HB5.out
  clear hb5 p0 p1 p2 q0 q1 q2 q3 q4 q5 q6 q7 q8 q9 k3
  have HF := Lib.hid (HB3.out.trans (HB5.out.mono HB3.out.size))
  go_wp2_with fail
  go_ret
  exact ⟨rfl, HF.out⟩

set_option maxRecDepth 100000 in
set_option maxHeartbeats 2000000 in
theorem wmove_py (h : LS B w0 w a m l mx K) (hW : WK gW a ∈ K) (ho : I64 o) (hx : getO l o = some x) {p : Int} (hp : I64 p) (hpn : ¬ p = -1) (hpp : hasO l p = true) (hi : o ∉ rowO l OB.place p) (hr : ownB id wz x.owner = true) :
    Calls Tryz.prog 38 #[.pointer (some ⟨gW, 0, none⟩), .agg #[.int .i64 id, .bool wz, .bool pg], .int .i64 o, .int .i64 p] w fun e w' => e = .returned (.int .i64 0) ∧ LS B w0 w' a m (repO l o { x with place := p }) mx K := by
  obtain ⟨w3, hw3⟩ : ∃ w3, w3 = w.alloc (.cells #[.int .i64 id, .bool wz, .bool pg] 71) := ⟨_, rfl⟩
  have hb3 : Below w.heap.size w w3 := by rw [hw3]; exact (Below.refl _ _).alloc (Nat.le_refl _) _
  have hz3 : w3.heap.size = w.heap.size + 1 := by rw [hw3]; simp
  have g4 : w3.heap[w.heap.size]? = some (.cells #[.int .i64 id, .bool wz, .bool pg] 71 (0, 0)) := by
    rw [hw3]
    exact heap_alloc_new w _
  have h3 := h.below hb3
  obtain ⟨gx, A1, n1, A2, n2, hgx, hR, hcx⟩ := ref_B h3 ho hx
  have HK := Lib.hid (fun W (hb : Below w3.heap.size w3 W) => (h3.below hb).wk hW)
  have k3 := HK.out w3 (Below.refl _ _)
  have CR := Lib.hid (fun W (hb : Below w3.heap.size w3 W) => hR W hb)
  have p0 := cell_of_row w3 _ 0 _ _ _ g4
  have p1 := cell_of_row w3 _ 1 _ _ _ g4
  have p2 := cell_of_row w3 _ 2 _ _ _ g4
  have q0 := hcx w3 (Below.refl _ _) 0
  have q1 := hcx w3 (Below.refl _ _) 1
  have q2 := hcx w3 (Below.refl _ _) 2
  have q3 := hcx w3 (Below.refl _ _) 3
  have q4 := hcx w3 (Below.refl _ _) 4
  have q5 := hcx w3 (Below.refl _ _) 5
  have q6 := hcx w3 (Below.refl _ _) 6
  have q7 := hcx w3 (Below.refl _ _) 7
  have q8 := hcx w3 (Below.refl _ _) 8
  have q9 := hcx w3 (Below.refl _ _) 9
  have CO := Lib.hid (fun W => pobj12_c (id := id) (wz := wz) (pg := pg) (A1 := A1) (A2 := A2) (n1 := x.defs.length) (n2 := x.slots.length) (c1 := n1) (c2 := n2) x W)
  rw [hr] at CO
  have CH := Lib.hid (hasB_L h3 hp hpp)
  have hpn' : ((p == -1) = false) := by simpa using hpn
  have CM := Lib.hid (fun W (hb : Below w3.heap.size w3 W) => moveS_L (p := p) (h3.below hb) ho hp hx (.inr hpp) hi)
  have HB3 := Lib.hid hb3
  have HW3 := Lib.hid hw3
  clear h h3 hb3 g4 hz3 hw3 hx hR hcx hr hpp
  go_enter Tryz.func38, Tryz.ntmps38
  go_upto_region 1 with fail
  rw [← HW3.out]
  go_wp2_with fail
  refine (CR.out _ (Below.refl _ _)).mono ?_
  rintro e w4 ⟨rfl, rfl⟩
  go_wp2_with fail
  refine CH.out.mono ?_
  rintro e w4 ⟨rfl, rfl⟩
  go_upto_region 4 with fail
  go_still_tail 4, (by kernel_rfl)
  change wpList _ _ _ _ _ w3.drew
  go_wp2_with fail
  refine (CO.out _).mono ?_
  rintro e w5 ⟨rfl, hb5⟩
  have HB5 := Lib.hid (show Below w3.heap.size w3 w5 from ((Below.refl w3.heap.size w3).drew).trans hb5)
  have k5 := HK.out w5 HB5.out
  clear hb5 p0 p1 p2 q0 q1 q2 q3 q4 q5 q6 q7 q8 q9 k3
  go_wp2_with fail
  refine (CM.out _ HB5.out).mono ?_
  rintro e w6 ⟨rfl, hl6⟩
  have HL6 := Lib.hid hl6
  clear hl6
  go_wp2_with fail
  go_ret
  exact ⟨rfl, HL6.out⟩

set_option maxRecDepth 100000 in
set_option maxHeartbeats 2000000 in
theorem wchp_n (h : LS B w0 w a m l mx K) (hW : WK gW a ∈ K) (ho : I64 o) (hx : getO l o = some x) {p : Int} (hp : I64 p) (hpn : ¬ p = -1) (hy : getO l p = some y) (hr : (ownB id wz x.owner && ((Go.bits .and .i64 y.flags 32 != 0) || ownB id wz y.owner)) = false) :
    Calls Tryz.prog 39 #[.pointer (some ⟨gW, 0, none⟩), .agg #[.int .i64 id, .bool wz, .bool pg], .int .i64 o, .int .i64 p] w fun e w' => e = .returned (.int .i64 3) ∧ Below w.heap.size w w' := by
  obtain ⟨w3, hw3⟩ : ∃ w3, w3 = w.alloc (.cells #[.int .i64 id, .bool wz, .bool pg] 71) := ⟨_, rfl⟩
  have hb3 : Below w.heap.size w w3 := by rw [hw3]; exact (Below.refl _ _).alloc (Nat.le_refl _) _
  have hz3 : w3.heap.size = w.heap.size + 1 := by rw [hw3]; simp
  have g4 : w3.heap[w.heap.size]? = some (.cells #[.int .i64 id, .bool wz, .bool pg] 71 (0, 0)) := by
    rw [hw3]
    exact heap_alloc_new w _
  have h3 := h.below hb3
  obtain ⟨gx, A1, n1, A2, n2, hgx, hR, hcx⟩ := ref_B h3 ho hx
  have HK := Lib.hid (fun W (hb : Below w3.heap.size w3 W) => (h3.below hb).wk hW)
  have k3 := HK.out w3 (Below.refl _ _)
  have CR := Lib.hid (fun W (hb : Below w3.heap.size w3 W) => hR W hb)
  have p0 := cell_of_row w3 _ 0 _ _ _ g4
  have p1 := cell_of_row w3 _ 1 _ _ _ g4
  have p2 := cell_of_row w3 _ 2 _ _ _ g4
  have q0 := hcx w3 (Below.refl _ _) 0
  have q1 := hcx w3 (Below.refl _ _) 1
  have q2 := hcx w3 (Below.refl _ _) 2
  have q3 := hcx w3 (Below.refl _ _) 3
  have q4 := hcx w3 (Below.refl _ _) 4
  have q5 := hcx w3 (Below.refl _ _) 5
  have q6 := hcx w3 (Below.refl _ _) 6
  have q7 := hcx w3 (Below.refl _ _) 7
  have q8 := hcx w3 (Below.refl _ _) 8
  have q9 := hcx w3 (Below.refl _ _) 9
  obtain ⟨gy, B1, m1, B2, m2, hgy, hRy, hcy⟩ := ref_B h3 hp hy
  have CRY := Lib.hid (fun W (hb : Below w3.heap.size w3 W) => hRy W hb)
  have CC := Lib.hid (fun W => controls_c (id := id) (wz := wz) (pg := pg) (A1 := A1) (A2 := A2) (n1 := x.defs.length) (n2 := x.slots.length) (c1 := n1) (c2 := n2) x W)
  have CT := Lib.hid (fun W => two11_c (id := id) (wz := wz) (pg := pg) (A1 := A1) (A2 := A2) (n1 := x.defs.length) (n2 := x.slots.length) (c1 := n1) (c2 := n2) (B1 := B1) (B2 := B2) (m1 := y.defs.length) (m2 := y.slots.length) (e1 := m1) (e2 := m2) x y W hr)
  have CH := Lib.hid (hasB_L h3 hp (hasO_of_get hy))
  have hpn' : ((p == -1) = false) := by simpa using hpn
  have HKC := Lib.hid (show ∀ W, Below w3.heap.size w3 W → ∀ j, W.cell? ⟨w.heap.size, j, none⟩ = (#[.int .i64 id, .bool wz, .bool pg] : Array Value)[j]? ∧ W.cell? ⟨gx, j, none⟩ = (#[.int .i64 x.id, .int .i64 x.parent, .int .i64 x.owner, .int .i64 x.place, .int .i64 x.flags, .int .i64 x.quota, .string x.name, .slice A1 x.defs.length n1, .slice A2 x.slots.length n2, .slice none 0 0] : Array Value)[j]? ∧ W.cell? ⟨gy, j, none⟩ = (#[.int .i64 y.id, .int .i64 y.parent, .int .i64 y.owner, .int .i64 y.place, .int .i64 y.flags, .int .i64 y.quota, .string y.name, .slice B1 y.defs.length m1, .slice B2 y.slots.length m2, .slice none 0 0] : Array Value)[j]? from fun W hb j => ⟨cell_of_row W _ j _ _ _ ((hb.block _ (by omega)).trans g4), hcx W hb j, hcy W hb j⟩)
  have HB3 := Lib.hid hb3
  have HW3 := Lib.hid hw3
  clear h h3 hb3 g4 hz3 hw3 hx hR hcx hr hRy hcy hy
  go_enter Tryz.func39, Tryz.ntmps39
  go_upto_region 1 with fail
  rw [← HW3.out]
  go_wp2_with fail
  refine (CR.out _ (Below.refl _ _)).mono ?_
  rintro e w4 ⟨rfl, rfl⟩
  go_wp2_with fail
  refine CH.out.mono ?_
  rintro e w4 ⟨rfl, rfl⟩
  go_upto_region 4 with fail
  go_still_tail 4, (by kernel_rfl)
  change wpList _ _ _ _ _ w3.drew
  go_wp2_with fail
  refine (CC.out _).mono ?_
  rintro e w5 ⟨rfl, hb5⟩
  have HB5 := Lib.hid (show Below w3.heap.size w3 w5 from ((Below.refl w3.heap.size w3).drew).trans hb5)
  have k5 := HK.out w5 HB5.out
  clear hb5 p0 p1 p2 q0 q1 q2 q3 q4 q5 q6 q7 q8 q9 k3
  obtain ⟨p0, q0, t0⟩ := HKC.out w5 HB5.out 0
  obtain ⟨p1, q1, t1⟩ := HKC.out w5 HB5.out 1
  obtain ⟨p2, q2, t2⟩ := HKC.out w5 HB5.out 2
  obtain ⟨_, q3, t3⟩ := HKC.out w5 HB5.out 3
  obtain ⟨_, q4, t4⟩ := HKC.out w5 HB5.out 4
  obtain ⟨_, q5, t5⟩ := HKC.out w5 HB5.out 5
  obtain ⟨_, q6, t6⟩ := HKC.out w5 HB5.out 6
  obtain ⟨_, q7, t7⟩ := HKC.out w5 HB5.out 7
  obtain ⟨_, q8, t8⟩ := HKC.out w5 HB5.out 8
  obtain ⟨_, q9, t9⟩ := HKC.out w5 HB5.out 9
  go_wp2_with fail
  refine (CRY.out _ HB5.out).mono ?_
  rintro e w6 ⟨rfl, rfl⟩
  go_upto_region 7 with fail
  go_still_tail 7, (by kernel_rfl)
  change wpList _ _ _ _ _ w5.drew
  go_wp2_with fail
  refine (CT.out _).mono ?_
  rintro e w7 ⟨rfl, hb7⟩
  have HB7 := Lib.hid (show Below w3.heap.size w3 w7 from HB5.out.trans ((((Below.refl w5.heap.size w5).drew).trans hb7).mono HB5.out.size))
  have k7 := HK.out w7 HB7.out
  clear hb7 p0 p1 p2 q0 q1 q2 q3 q4 q5 q6 q7 q8 q9 t0 t1 t2 t3 t4 t5 t6 t7 t8 t9 k5
  have HF := Lib.hid (HB3.out.trans (HB7.out.mono HB3.out.size))
  go_wp2_with fail
  go_ret
  exact ⟨rfl, HF.out⟩

set_option maxRecDepth 100000 in
set_option maxHeartbeats 2000000 in
theorem wchp_y (h : LS B w0 w a m l mx K) (hW : WK gW a ∈ K) (ho : I64 o) (hx : getO l o = some x) {p : Int} (hp : I64 p) (hpn : ¬ p = -1) (hy : getO l p = some y) (hpo : ¬ p = o) (hbl : belowO l o = some [o]) (hd : x.defs = []) (hs0 : x.slots = []) {s1 : SL} (hy1 : y.slots = [s1]) (hi : isO l p o = false) (hsm : (nmO l p).length ≤ 100000) (hri : RiseS (nmO l p)) (hr : (ownB id wz x.owner && ((Go.bits .and .i64 y.flags 32 != 0) || ownB id wz y.owner)) = true) :
    Calls Tryz.prog 39 #[.pointer (some ⟨gW, 0, none⟩), .agg #[.int .i64 id, .bool wz, .bool pg], .int .i64 o, .int .i64 p] w fun e w' => e = .returned (.int .i64 0) ∧ LS B w0 w' a m (repO l o { x with parent := p, slots := [freshO s1 x.owner] }) mx K := by
  obtain ⟨w3, hw3⟩ : ∃ w3, w3 = w.alloc (.cells #[.int .i64 id, .bool wz, .bool pg] 71) := ⟨_, rfl⟩
  have hb3 : Below w.heap.size w w3 := by rw [hw3]; exact (Below.refl _ _).alloc (Nat.le_refl _) _
  have hz3 : w3.heap.size = w.heap.size + 1 := by rw [hw3]; simp
  have g4 : w3.heap[w.heap.size]? = some (.cells #[.int .i64 id, .bool wz, .bool pg] 71 (0, 0)) := by
    rw [hw3]
    exact heap_alloc_new w _
  have h3 := h.below hb3
  obtain ⟨gx, A1, n1, A2, n2, hgx, hR, hcx⟩ := ref_B h3 ho hx
  have HK := Lib.hid (fun W (hb : Below w3.heap.size w3 W) => (h3.below hb).wk hW)
  have k3 := HK.out w3 (Below.refl _ _)
  have CR := Lib.hid (fun W (hb : Below w3.heap.size w3 W) => hR W hb)
  have p0 := cell_of_row w3 _ 0 _ _ _ g4
  have p1 := cell_of_row w3 _ 1 _ _ _ g4
  have p2 := cell_of_row w3 _ 2 _ _ _ g4
  have q0 := hcx w3 (Below.refl _ _) 0
  have q1 := hcx w3 (Below.refl _ _) 1
  have q2 := hcx w3 (Below.refl _ _) 2
  have q3 := hcx w3 (Below.refl _ _) 3
  have q4 := hcx w3 (Below.refl _ _) 4
  have q5 := hcx w3 (Below.refl _ _) 5
  have q6 := hcx w3 (Below.refl _ _) 6
  have q7 := hcx w3 (Below.refl _ _) 7
  have q8 := hcx w3 (Below.refl _ _) 8
  have q9 := hcx w3 (Below.refl _ _) 9
  obtain ⟨gy, B1, m1, B2, m2, hgy, hRy, hcy⟩ := ref_B h3 hp hy
  have CRY := Lib.hid (fun W (hb : Below w3.heap.size w3 W) => hRy W hb)
  have CC := Lib.hid (fun W => controls_c (id := id) (wz := wz) (pg := pg) (A1 := A1) (A2 := A2) (n1 := x.defs.length) (n2 := x.slots.length) (c1 := n1) (c2 := n2) x W)
  have CT := Lib.hid (fun W => two11_c (id := id) (wz := wz) (pg := pg) (A1 := A1) (A2 := A2) (n1 := x.defs.length) (n2 := x.slots.length) (c1 := n1) (c2 := n2) (B1 := B1) (B2 := B2) (m1 := y.defs.length) (m2 := y.slots.length) (e1 := m1) (e2 := m2) x y W hr)
  have CH := Lib.hid (hasB_L h3 hp (hasO_of_get hy))
  have hpn' : ((p == -1) = false) := by simpa using hpn
  have HKC := Lib.hid (show ∀ W, Below w3.heap.size w3 W → ∀ j, W.cell? ⟨w.heap.size, j, none⟩ = (#[.int .i64 id, .bool wz, .bool pg] : Array Value)[j]? ∧ W.cell? ⟨gx, j, none⟩ = (#[.int .i64 x.id, .int .i64 x.parent, .int .i64 x.owner, .int .i64 x.place, .int .i64 x.flags, .int .i64 x.quota, .string x.name, .slice A1 x.defs.length n1, .slice A2 x.slots.length n2, .slice none 0 0] : Array Value)[j]? ∧ W.cell? ⟨gy, j, none⟩ = (#[.int .i64 y.id, .int .i64 y.parent, .int .i64 y.owner, .int .i64 y.place, .int .i64 y.flags, .int .i64 y.quota, .string y.name, .slice B1 y.defs.length m1, .slice B2 y.slots.length m2, .slice none 0 0] : Array Value)[j]? from fun W hb j => ⟨cell_of_row W _ j _ _ _ ((hb.block _ (by omega)).trans g4), hcx W hb j, hcy W hb j⟩)
  have CM := Lib.hid (fun W (hb : Below w3.heap.size w3 W) => chparP_L (h3.below hb) ho hp hx hy hpo hbl hd hs0 hy1 hi hsm hri)
  have HB3 := Lib.hid hb3
  have HW3 := Lib.hid hw3
  clear h h3 hb3 g4 hz3 hw3 hx hR hcx hr hRy hcy hy hd hs0 hy1 hbl hi hsm hri hpo
  go_enter Tryz.func39, Tryz.ntmps39
  go_upto_region 1 with fail
  rw [← HW3.out]
  go_wp2_with fail
  refine (CR.out _ (Below.refl _ _)).mono ?_
  rintro e w4 ⟨rfl, rfl⟩
  go_wp2_with fail
  refine CH.out.mono ?_
  rintro e w4 ⟨rfl, rfl⟩
  go_upto_region 4 with fail
  go_still_tail 4, (by kernel_rfl)
  change wpList _ _ _ _ _ w3.drew
  go_wp2_with fail
  refine (CC.out _).mono ?_
  rintro e w5 ⟨rfl, hb5⟩
  have HB5 := Lib.hid (show Below w3.heap.size w3 w5 from ((Below.refl w3.heap.size w3).drew).trans hb5)
  have k5 := HK.out w5 HB5.out
  clear hb5 p0 p1 p2 q0 q1 q2 q3 q4 q5 q6 q7 q8 q9 k3
  obtain ⟨p0, q0, t0⟩ := HKC.out w5 HB5.out 0
  obtain ⟨p1, q1, t1⟩ := HKC.out w5 HB5.out 1
  obtain ⟨p2, q2, t2⟩ := HKC.out w5 HB5.out 2
  obtain ⟨_, q3, t3⟩ := HKC.out w5 HB5.out 3
  obtain ⟨_, q4, t4⟩ := HKC.out w5 HB5.out 4
  obtain ⟨_, q5, t5⟩ := HKC.out w5 HB5.out 5
  obtain ⟨_, q6, t6⟩ := HKC.out w5 HB5.out 6
  obtain ⟨_, q7, t7⟩ := HKC.out w5 HB5.out 7
  obtain ⟨_, q8, t8⟩ := HKC.out w5 HB5.out 8
  obtain ⟨_, q9, t9⟩ := HKC.out w5 HB5.out 9
  go_wp2_with fail
  refine (CRY.out _ HB5.out).mono ?_
  rintro e w6 ⟨rfl, rfl⟩
  go_upto_region 7 with fail
  go_still_tail 7, (by kernel_rfl)
  change wpList _ _ _ _ _ w5.drew
  go_wp2_with fail
  refine (CT.out _).mono ?_
  rintro e w7 ⟨rfl, hb7⟩
  have HB7 := Lib.hid (show Below w3.heap.size w3 w7 from HB5.out.trans ((((Below.refl w5.heap.size w5).drew).trans hb7).mono HB5.out.size))
  have k7 := HK.out w7 HB7.out
  clear hb7 p0 p1 p2 q0 q1 q2 q3 q4 q5 q6 q7 q8 q9 t0 t1 t2 t3 t4 t5 t6 t7 t8 t9 k5
  go_wp2_with fail
  refine (CM.out _ HB7.out).mono ?_
  rintro e w8 ⟨rfl, hl8⟩
  have HL8 := Lib.hid hl8
  clear hl8
  go_wp2_with fail
  go_ret
  exact ⟨rfl, HL8.out⟩

set_option maxRecDepth 100000 in
set_option maxHeartbeats 2000000 in
theorem mayputf_c (h : LS B w0 w a m l mx K) (hW : WK gW a ∈ K) (ho : I64 o) (hx : getO l o = some x) (hr : ownB id wz x.owner = true) :
    Calls Tryz.prog 76 #[.pointer (some ⟨gW, 0, none⟩), .agg #[.int .i64 id, .bool wz, .bool pg], .int .i64 o, .string ⟨#[102]⟩] w fun e w' => e = .returned (.int .i64 0) ∧ Below w.heap.size w w' := by
  obtain ⟨w3, hw3⟩ : ∃ w3, w3 = w.alloc (.cells #[.int .i64 id, .bool wz, .bool pg] 71) := ⟨_, rfl⟩
  have hb3 : Below w.heap.size w w3 := by rw [hw3]; exact (Below.refl _ _).alloc (Nat.le_refl _) _
  have hz3 : w3.heap.size = w.heap.size + 1 := by rw [hw3]; simp
  have g4 : w3.heap[w.heap.size]? = some (.cells #[.int .i64 id, .bool wz, .bool pg] 71 (0, 0)) := by
    rw [hw3]
    exact heap_alloc_new w _
  have h3 := h.below hb3
  obtain ⟨gx, A1, n1, A2, n2, hgx, hR, hcx⟩ := ref_B h3 ho hx
  have HK := Lib.hid (fun W (hb : Below w3.heap.size w3 W) => (h3.below hb).wk hW)
  have k3 := HK.out w3 (Below.refl _ _)
  have CR := Lib.hid (fun W (hb : Below w3.heap.size w3 W) => hR W hb)
  have p0 := cell_of_row w3 _ 0 _ _ _ g4
  have p1 := cell_of_row w3 _ 1 _ _ _ g4
  have p2 := cell_of_row w3 _ 2 _ _ _ g4
  have q0 := hcx w3 (Below.refl _ _) 0
  have q1 := hcx w3 (Below.refl _ _) 1
  have q2 := hcx w3 (Below.refl _ _) 2
  have q3 := hcx w3 (Below.refl _ _) 3
  have q4 := hcx w3 (Below.refl _ _) 4
  have q5 := hcx w3 (Below.refl _ _) 5
  have q6 := hcx w3 (Below.refl _ _) 6
  have q7 := hcx w3 (Below.refl _ _) 7
  have q8 := hcx w3 (Below.refl _ _) 8
  have q9 := hcx w3 (Below.refl _ _) 9
  have CO := Lib.hid (fun W => pobj14_c (id := id) (wz := wz) (pg := pg) (A1 := A1) (A2 := A2) (n1 := x.defs.length) (n2 := x.slots.length) (c1 := n1) (c2 := n2) x W)
  rw [hr] at CO
  have HB3 := Lib.hid hb3
  have HW3 := Lib.hid hw3
  clear h h3 hb3 g4 hz3 hw3 hx hR hcx hr
  go_enter Tryz.func76, Tryz.ntmps76
  go_upto_region 1 with fail
  rw [← HW3.out]
  go_wp2_with fail
  refine (CR.out _ (Below.refl _ _)).mono ?_
  rintro e w4 ⟨rfl, rfl⟩
  go_upto_region 21 with fail
  go_still_tail 4, (by kernel_rfl)
  change wpList _ _ _ _ _ w3.drew
  go_wp2_with fail
  refine (CO.out _).mono ?_
  rintro e w5 ⟨rfl, hb5⟩
  have HF := Lib.hid (HB3.out.trans ((show Below w3.heap.size w3 w5 from ((Below.refl w3.heap.size w3).drew).trans hb5).mono HB3.out.size))
  clear hb5 p0 p1 p2 q0 q1 q2 q3 q4 q5 q6 q7 q8 q9 k3
  go_wp2_with fail
  go_ret
  exact ⟨rfl, HF.out⟩

set_option maxRecDepth 100000 in
set_option maxHeartbeats 2000000 in
theorem wputf_y (h : LS B w0 w a m l mx K) (hW : WK gW a ∈ K) (ho : I64 o) (hx : getO l o = some x) (hr : ownB id wz x.owner = true) (fl' : Int) (hA : Go.bits .andNot .i64 x.flags 32 = fl') :
    Calls Tryz.prog 36 #[.pointer (some ⟨gW, 0, none⟩), .agg #[.int .i64 id, .bool wz, .bool pg], .int .i64 o, .string ⟨#[102]⟩, .agg #[.int .i64 0, .int .i64 0, .string ⟨#[]⟩, .slice none 0 0]] w fun e w' => e = .returned (.int .i64 0) ∧ LS B w0 w' a m (repO l o { x with flags := fl' }) mx K := by
  obtain ⟨w3, hw3⟩ : ∃ w3, w3 = (w.alloc (.cells #[.int .i64 id, .bool wz, .bool pg] 71)).alloc (.cells #[.int .i64 0, .int .i64 0, .string ⟨#[]⟩, .slice none 0 0] 33) := ⟨_, rfl⟩
  have hb3 : Below w.heap.size w w3 := by rw [hw3]; exact ((Below.refl _ _).alloc (Nat.le_refl _) _).alloc (by simp) _
  have hz3 : w3.heap.size = w.heap.size + 2 := by rw [hw3]; simp
  have g4 : w3.heap[w.heap.size]? = some (.cells #[.int .i64 id, .bool wz, .bool pg] 71 (0, 0)) := by
    rw [hw3]
    exact (Below.heap_alloc _ _ _ (by simp)).trans (heap_alloc_new w _)
  have g5 : w3.heap[w.heap.size + 1]? = some (.cells #[.int .i64 0, .int .i64 0, .string ⟨#[]⟩, .slice none 0 0] 33 (0, 0)) := by
    rw [hw3]
    exact heap_alloc2_new w _ _
  have h3 := h.below hb3
  have CM := Lib.hid (mayputf_c (id := id) (wz := wz) (pg := pg) h3 hW ho hx hr)
  have p0 := cell_of_row w3 _ 0 _ _ _ g4
  have p1 := cell_of_row w3 _ 1 _ _ _ g4
  have p2 := cell_of_row w3 _ 2 _ _ _ g4
  have HH := Lib.hid h3
  have HB3 := Lib.hid hb3
  have HG5 := Lib.hid g5
  have HZ3 := Lib.hid hz3
  have HW3 := Lib.hid hw3
  have HX := Lib.hid hx
  have HA := Lib.hid hA
  clear h h3 hb3 g4 g5 hz3 hw3 hx hA hr
  go_enter Tryz.func36, Tryz.ntmps36
  go_upto_region 1 with fail
  rw [← HW3.out]
  go_wp2_with fail
  refine CM.out.mono ?_
  rintro e w4 ⟨rfl, hb4⟩
  have h4 := HH.out.below hb4
  have k4 := h4.wk hW
  have g54 := (hb4.block (w.heap.size + 1) (by have := HZ3.out; omega)).trans HG5.out
  have r0 := cell_of_row w4 _ 0 _ _ _ g54
  have r1 := cell_of_row w4 _ 1 _ _ _ g54
  have r2 := cell_of_row w4 _ 2 _ _ _ g54
  have r3 := cell_of_row w4 _ 3 _ _ _ g54
  have CP := Lib.hid (fun W (hb : Below w4.heap.size w4 W) => putf_L (h4.below hb) ho HX.out fl' HA.out)
  clear hb4 h4 g54 p0 p1 p2
  go_upto_region 4 with fail
  go_still_tail 7, (by kernel_rfl)
  change wpList _ _ _ _ _ w4.drew
  go_wp2_with fail
  refine (CP.out _ (Below.refl _ w4).drew).mono ?_
  rintro e w5 ⟨rfl, hl5⟩
  have HL5 := Lib.hid hl5
  clear hl5
  go_wp2_with fail
  go_ret
  exact ⟨rfl, HL5.out⟩

end
end Go.Proofs.YtnphgcbknfmapaaGreatDoor
