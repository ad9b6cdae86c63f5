/- Contracts of the functions that the statement reaches, and the plain mathematics beneath: several texts joined. -/
import Derived.LaidEqlPtr
import Derived.Test.YtnphgcbknfmapaaGreatDoorWquAI
import Derived.Test.YtnphgcbknfmapaaGreatDoorWquAB
import Derived.Test.YtnphgcbknfmapaaGreatDoorWquAF
import Derived.Test.YtnphgcbknfmapaaGreatDoorWquAE
namespace Go.Proofs.YtnphgcbknfmapaaGreatDoor
open Go.RowKit Go.Lib
set_option linter.unusedVariables false
set_option linter.unusedSimpArgs false
section
variable {B a m gW : Nat} {w0 w w' : World} {l l' : List OB} {mx mx' o : Int} {K : List (Nat × Obj)} {x : OB}

/-- A world's block. -/
def WK (g a : Nat) : Nat × Obj := (g, .cells #[.pointer (some ⟨a, 0, none⟩)] 114 (0, 0))
theorem LS.wk (h : LS B w0 w a m l mx K) (hW : WK gW a ∈ K) : w.cell? ⟨gW, 0, none⟩ = some (.pointer (some ⟨a, 0, none⟩)) := cell_of_row w gW 0 _ _ _ (h.row hW)
theorem LS.wlt (h : LS B w0 w a m l mx K) (hW : WK gW a ∈ K) : gW < w.heap.size := (Array.getElem?_eq_some_iff.1 (h.row hW)).1
set_option maxHeartbeats 1000000 in
theorem wnew_c {g0 : Nat} (w : World) (hin : RowsIn w (g0 + 3) (roomT g0)) :
    Calls Tryz.prog 31 #[.slice (some ⟨g0 + 3, 0, none⟩) 4 4] w fun e w' => ∃ gW a m, e = .returned (.tuple #[.pointer (some ⟨gW, 0, none⟩), .nilIface]) ∧ LS w.heap.size w w' a m roomL 3 [WK gW a] := by
  have CL := Lib.hid (load_L (w := w) (gl := g0 + 3) (cap := 4) (mx := 3) (roomT g0) hin (by simp [roomT]) ok_room rfl (by omega) (fun x hx => fair_room (by have h1 : x.o ∈ obT (roomT g0) := List.mem_map_of_mem hx; rw [roomT_ob] at h1; exact h1)))
  clear hin
  go_enter Tryz.func31, Tryz.ntmps31
  go_wp2_with fail
  refine CL.out.mono ?_
  rintro e w1 ⟨a, m, rfl, hl⟩
  have HL := Lib.hid (hl.push ((Below.refl _ w1).alloc (Nat.le_refl _) _) (Nat.le_refl _) (heap_alloc_new w1 (.cells #[.pointer (some ⟨a, 0, none⟩)] 114)))
  clear hl
  go_wp2_with fail
  go_ret2
  exact ⟨_, _, _, rfl, HL.out⟩

set_option maxRecDepth 100000 in
set_option maxHeartbeats 2000000 in
theorem who_W (h : LS B w0 w a m l mx K) (hW : WK gW a ∈ K) (ho : I64 o) (hx : getO l o = some x) {wz pg : Bool} (h4 : (Go.bits .and .i64 x.flags 4 != 0) = wz) (h2 : (Go.bits .and .i64 x.flags 2 != 0) = pg) :
    Calls Tryz.prog 34 #[.pointer (some ⟨gW, 0, none⟩), .int .i64 o] w fun e w' => e = .returned (.agg #[.int .i64 o, .bool wz, .bool pg]) ∧ Below w.heap.size w w' := by
  have hk := h.wk hW
  have hgl := h.wlt hW
  obtain ⟨T, ht, rfl, h0, hK⟩ := h
  obtain ⟨y, hy, rfl⟩ := findT_of_getO hx
  have hym := (findT_some hy).1
  obtain ⟨w3, hw3⟩ : ∃ w3, w3 = (w.alloc (.cells #[.int .i64 0, .bool false, .bool false] 71)).alloc (.cells #[.int .i64 o, .bool false, .bool false] 71) := ⟨_, rfl⟩
  have hb3 : Below w.heap.size w w3 := by rw [hw3]; exact ((Below.refl _ _).alloc (Nat.le_refl _) _).alloc (by simp) _
  have hz3 : w3.heap.size = w.heap.size + 2 := by rw [hw3]; simp
  have g4 : w3.heap[w.heap.size]? = some (.cells #[.int .i64 0, .bool false, .bool false] 71 (0, 0)) := by
    rw [hw3]
    exact (Below.heap_alloc _ _ _ (by simp)).trans (heap_alloc_new w _)
  have g5 : w3.heap[w.heap.size + 1]? = some (.cells #[.int .i64 o, .bool false, .bool false] 71 (0, 0)) := by
    rw [hw3]
    exact heap_alloc2_new w _ _
  have CR := Lib.hid (ref_c (ht.tab.below hb3) ho)
  rw [ptrT_some hy] at CR
  have k3 : w3.cell? ⟨gW, 0, none⟩ = some (.pointer (some ⟨a, 0, none⟩)) := (hb3.cell (p := ⟨gW, 0, none⟩) hgl).trans hk
  have hfl : w3.cell? ⟨y.g, 4, none⟩ = some (.int .i64 y.o.flags) := cellX ht.tab hb3 hym 4
  have hyz : y.g < w.heap.size := ht.tab.lt y.g (List.mem_cons_of_mem _ (List.mem_cons_of_mem _ (List.mem_flatMap.2 ⟨y, hym, OM.mem_blocks.2 (.inl rfl)⟩)))
  have c1 : w3.cell? ⟨w.heap.size + 1, 1, none⟩ = some (.bool false) := cell_of_row w3 _ 1 _ _ _ g5
  have f1 : w3.frozen? ⟨w.heap.size + 1, 1, none⟩ = false := frozen_of_row w3 _ 1 _ _ g5
  have c2 : w3.cell? ⟨w.heap.size + 1, 2, none⟩ = some (.bool false) := cell_of_row w3 _ 2 _ _ _ g5
  have f2 : w3.frozen? ⟨w.heap.size + 1, 2, none⟩ = false := frozen_of_row w3 _ 2 _ _ g5
  obtain ⟨fl, hfq⟩ : ∃ fl, fl = y.o.flags := ⟨_, rfl⟩
  rw [← hfq] at h4 h2 hfl
  obtain ⟨w5, hw5⟩ : ∃ w5, w5 = ((w3.setCell ⟨w.heap.size + 1, 1, none⟩ (.bool wz)).setCell ⟨w.heap.size + 1, 2, none⟩ (.bool pg)).drew := ⟨_, rfl⟩
  have g55d : ((w3.setCell ⟨w.heap.size + 1, 1, none⟩ (.bool wz)).setCell ⟨w.heap.size + 1, 2, none⟩ (.bool pg)).heap[w.heap.size + 1]? = some (.cells #[.int .i64 o, .bool wz, .bool pg] 71 (0, 0)) := heap_setCell_same _ _ 2 _ _ _ (heap_setCell_same w3 _ 1 _ _ _ g5)
  have g55 : w5.heap[w.heap.size + 1]? = some (.cells #[.int .i64 o, .bool wz, .bool pg] 71 (0, 0)) := by
    rw [hw5]
    exact g55d
  have g54 : w5.heap[w.heap.size]? = some (.cells #[.int .i64 0, .bool false, .bool false] 71 (0, 0)) := by
    rw [hw5]
    exact (Below.heap_setCell _ _ _ _ (by simp)).trans ((Below.heap_setCell _ _ _ _ (by simp)).trans g4)
  have hb5 : Below w.heap.size w w5 := by rw [hw5]; exact ((hb3.setCell (by simp) _).setCell (by simp) _).drew
  have p0 : ((w3.setCell ⟨w.heap.size + 1, 1, none⟩ (.bool wz)).setCell ⟨w.heap.size + 1, 2, none⟩ (.bool pg)).cell? ⟨w.heap.size + 1, 0, none⟩ = some (.int .i64 o) := cell_of_row _ _ 0 _ _ _ g55d
  have p1 : ((w3.setCell ⟨w.heap.size + 1, 1, none⟩ (.bool wz)).setCell ⟨w.heap.size + 1, 2, none⟩ (.bool pg)).cell? ⟨w.heap.size + 1, 1, none⟩ = some (.bool wz) := cell_of_row _ _ 1 _ _ _ g55d
  have p2 : ((w3.setCell ⟨w.heap.size + 1, 1, none⟩ (.bool wz)).setCell ⟨w.heap.size + 1, 2, none⟩ (.bool pg)).cell? ⟨w.heap.size + 1, 2, none⟩ = some (.bool pg) := cell_of_row _ _ 2 _ _ _ g55d
  have G54 := Lib.hid g54
  have HW5 := Lib.hid hw5
  have HW3 := Lib.hid hw3
  have HROW := Lib.hid (setRow_heap w5 w.heap.size _ #[.int .i64 o, .bool wz, .bool pg] _ _ g54)
  have HBR := Lib.hid (below_setRow hb5 (g := w.heap.size) (Nat.le_refl _) #[.int .i64 o, .bool wz, .bool pg])
  have HKS := Lib.hid (show ∀ W : World, W.heap[y.g]? = w3.heap[y.g]? → (fun W => W.cell? ⟨y.g, 4, none⟩ = some (.int .i64 fl)) W from fun W h1 => (World.cell?_of_block (a := ⟨y.g, 4, none⟩) h1).trans hfl)
  clear hw3 hb3 g4 g5 hw5 g55 g55d g54 hb5 ht h0 hK hx hy hk hfq hfl
  go_enter Tryz.func34, Tryz.ntmps34
  go_upto_region 2 with fail
  rw [← HW3.out]
  go_wp2_with fail
  refine CR.out.mono ?_
  rintro e w4 ⟨rfl, rfl⟩
  go_upto_region 4 with fail
  refine wp_region_heldTo 15 (fun W => W.cell? ⟨y.g, 4, none⟩ = some (.int .i64 fl)) (by kernel_rfl) (by kernel_rfl) (HKS.out _ rfl) (fun hSucc hHeld => ?_)
  refine heldTo_take (i := 0) (oi := _) (v := (.pointer (some ⟨y.g, 0, none⟩))) hSucc rfl (by kernel_rfl) (by kernel_rfl) (by kernel_rfl) (by kernel_rfl) rfl (fun _ _ _ h => h) (Or.inl ⟨by rfl, fun W hSw => ?_⟩) (by with_reducible assumption) ?_
  · (try dsimp only at hSw); go_simp
  change heldTo _ _ _ _ _ _ _ _ (Act.put _ (some 17) _) _
  simp only [Act.put, List.setIfInBounds_toArray, List.set_cons_zero, List.set_cons_succ]
  refine heldTo_take (i := 1) (oi := _) (v := (.pointer (some ⟨y.g, 0, none⟩))) hSucc rfl (by kernel_rfl) (by kernel_rfl) (by kernel_rfl) (by kernel_rfl) rfl (fun _ _ _ h => h) (Or.inl ⟨by rfl, fun W hSw => ?_⟩) (by with_reducible assumption) ?_
  · (try dsimp only at hSw); go_simp
  change heldTo _ _ _ _ _ _ _ _ (Act.put _ (some 18) _) _
  simp only [Act.put, List.setIfInBounds_toArray, List.set_cons_zero, List.set_cons_succ]
  refine heldTo_take (i := 2) (oi := _) (v := (.pointer (some ⟨y.g, 4, none⟩))) hSucc rfl (by kernel_rfl) (by kernel_rfl) (by kernel_rfl) (by kernel_rfl) rfl (fun _ _ _ h => h) (Or.inl ⟨by rfl, fun W hSw => ?_⟩) (by with_reducible assumption) ?_
  · (try dsimp only at hSw); go_simp
  change heldTo _ _ _ _ _ _ _ _ (Act.put _ (some 19) _) _
  simp only [Act.put, List.setIfInBounds_toArray, List.set_cons_zero, List.set_cons_succ]
  refine heldTo_take (i := 3) (oi := _) (v := (.int .i64 fl)) hSucc rfl (by kernel_rfl) (by kernel_rfl) (by kernel_rfl) (by kernel_rfl) rfl (fun _ _ _ h => h) (Or.inl ⟨by rfl, fun W hSw => ?_⟩) (by with_reducible assumption) ?_
  · (try dsimp only at hSw); go_simp
  change heldTo _ _ _ _ _ _ _ _ (Act.put _ (some 20) _) _
  simp only [Act.put, List.setIfInBounds_toArray, List.set_cons_zero, List.set_cons_succ]
  refine heldTo_take (i := 4) (oi := _) (v := (.int .i64 (Go.bits .and .i64 fl 4))) hSucc rfl (by kernel_rfl) (by kernel_rfl) (by kernel_rfl) (by kernel_rfl) rfl (fun _ _ _ h => h) (Or.inl ⟨by rfl, fun W hSw => ?_⟩) (by with_reducible assumption) ?_
  · (try dsimp only at hSw); go_simp
  change heldTo _ _ _ _ _ _ _ _ (Act.put _ (some 21) _) _
  simp only [Act.put, List.setIfInBounds_toArray, List.set_cons_zero, List.set_cons_succ]
  refine heldTo_take (i := 5) (oi := _) (v := (.bool wz)) hSucc rfl (by kernel_rfl) (by kernel_rfl) (by kernel_rfl) (by kernel_rfl) rfl (fun _ _ _ h => h) (Or.inl ⟨by rfl, fun W hSw => ?_⟩) (by with_reducible assumption) ?_
  · (try dsimp only at hSw); (first | go_simp | (go_simp; rw [h4]))
  change heldTo _ _ _ _ _ _ _ _ (Act.put _ (some 22) _) _
  simp only [Act.put, List.setIfInBounds_toArray, List.set_cons_zero, List.set_cons_succ]
  refine heldTo_take (i := 6) (oi := _) (v := (.pointer (some ⟨y.g, 0, none⟩))) hSucc rfl (by kernel_rfl) (by kernel_rfl) (by kernel_rfl) (by kernel_rfl) rfl (fun _ _ _ h => h) (Or.inl ⟨by rfl, fun W hSw => ?_⟩) (by with_reducible assumption) ?_
  · (try dsimp only at hSw); go_simp
  change heldTo _ _ _ _ _ _ _ _ (Act.put _ (some 23) _) _
  simp only [Act.put, List.setIfInBounds_toArray, List.set_cons_zero, List.set_cons_succ]
  refine heldTo_take (i := 12) (oi := _) (v := (.pointer (some ⟨w.heap.size + 1, 1, none⟩))) hSucc rfl (by kernel_rfl) (by kernel_rfl) (by kernel_rfl) (by kernel_rfl) rfl (fun _ _ _ h => h) (Or.inl ⟨by rfl, fun W hSw => ?_⟩) (by with_reducible assumption) ?_
  · (try dsimp only at hSw); go_simp
  change heldTo _ _ _ _ _ _ _ _ (Act.put _ (some 29) _) _
  simp only [Act.put, List.setIfInBounds_toArray, List.set_cons_zero, List.set_cons_succ]
  refine heldTo_two (i := 7) (j := 13) (o := _) (p := _) (by kernel_rfl) rfl rfl (fun K hK => ?_) (fun K hK => ?_)
  · (try dsimp only at hHeld)
    go_simp
    clear hHeld
    refine hK.out _ _ (HKS.out _ rfl) (fun hHeld => ?_)
    clear hK K
    refine heldTo_take (i := 8) (oi := _) (v := (.pointer (some ⟨y.g, 4, none⟩))) hSucc rfl (by kernel_rfl) (by kernel_rfl) (by kernel_rfl) (by kernel_rfl) rfl (fun _ _ _ h => h) (Or.inl ⟨by rfl, fun W hSw => ?_⟩) (by with_reducible assumption) ?_
    · (try dsimp only at hSw); go_simp
    change heldTo _ _ _ _ _ _ _ _ (Act.put _ (some 25) _) _
    simp only [Act.put, List.setIfInBounds_toArray, List.set_cons_zero, List.set_cons_succ]
    refine heldTo_two (i := 9) (j := 13) (o := _) (p := _) (by kernel_rfl) rfl rfl (fun K hK => ?_) (fun K hK => ?_)
    · (try dsimp only at hHeld)
      go_simp
      clear hHeld
      refine hK.out _ _ (HKS.out _ rfl) (fun hHeld => ?_)
      clear hK K
      refine heldTo_take (i := 10) (oi := _) (v := (.int .i64 (Go.bits .and .i64 fl 2))) hSucc rfl (by kernel_rfl) (by kernel_rfl) (by kernel_rfl) (by kernel_rfl) rfl (fun _ _ _ h => h) (Or.inl ⟨by rfl, fun W hSw => ?_⟩) (by with_reducible assumption) ?_
      · (try dsimp only at hSw); go_simp
      change heldTo _ _ _ _ _ _ _ _ (Act.put _ (some 27) _) _
      simp only [Act.put, List.setIfInBounds_toArray, List.set_cons_zero, List.set_cons_succ]
      refine heldTo_take (i := 11) (oi := _) (v := (.bool pg)) hSucc rfl (by kernel_rfl) (by kernel_rfl) (by kernel_rfl) (by kernel_rfl) rfl (fun _ _ _ h => h) (Or.inl ⟨by rfl, fun W hSw => ?_⟩) (by with_reducible assumption) ?_
      · (try dsimp only at hSw); (first | go_simp | (go_simp; rw [h2]))
      change heldTo _ _ _ _ _ _ _ _ (Act.put _ (some 28) _) _
      simp only [Act.put, List.setIfInBounds_toArray, List.set_cons_zero, List.set_cons_succ]
      refine heldTo_one (i := 13) (o := _) (by kernel_rfl) rfl (fun K hK => ?_)
      go_simp
      clear hHeld
      refine hK.out _ _ (HKS.out _ (Below.heap_setCell _ _ _ _ (by show y.g ≠ w.heap.size + 1; omega))) (fun hHeld => ?_)
      clear hK K
      refine heldTo_take (i := 14) (oi := _) (v := (.pointer (some ⟨w.heap.size + 1, 2, none⟩))) hSucc rfl (by kernel_rfl) (by kernel_rfl) (by kernel_rfl) (by kernel_rfl) rfl (fun _ _ _ h => h) (Or.inl ⟨by rfl, fun W hSw => ?_⟩) (by with_reducible assumption) ?_
      · (try dsimp only at hSw); go_simp
      change heldTo _ _ _ _ _ _ _ _ (Act.put _ (some 30) _) _
      simp only [Act.put, List.setIfInBounds_toArray, List.set_cons_zero, List.set_cons_succ]
      refine heldTo_last (o := _) (by kernel_rfl) rfl (fun K hK => ?_)
      go_simp
      refine hK.out _ _ ?_
      clear hK K hHeld
      refine heldTo_done (by kernel_rfl) ?_ _
      go_wp2_with (rw [← HW5.out]; refine wpList_store_row rfl 71 (.tmp 4) (.tmp 31) rfl w.heap.size #[.int .i64 o, .bool wz, .bool pg] rfl rfl _ _ G54.out (by kernel_rfl) rfl (by simp [Value.oneCell']) ?_)
      exact bodyPost_ret (results_cell_row (P := Tryz.prog) rfl _ _ w.heap.size _ _ _ _ rfl HROW.out Tryz.underlying71 rfl (by kernel_rfl)) rfl ⟨rfl, HBR.out⟩
    · clear hHeld
      go_simp
      refine hK.out _ _ (HKS.out _ (Below.heap_setCell _ _ _ _ (by show y.g ≠ w.heap.size + 1; omega))) (fun hHeld => ?_)
      clear hK K
      refine heldTo_take (i := 9) (oi := _) (v := (.int .i64 fl)) hSucc rfl (by kernel_rfl) (by kernel_rfl) (by kernel_rfl) (by kernel_rfl) rfl (fun _ _ _ h => h) (Or.inl ⟨by rfl, fun W hSw => ?_⟩) (by with_reducible assumption) ?_
      · (try dsimp only at hSw); go_simp
      change heldTo _ _ _ _ _ _ _ _ (Act.put _ (some 26) _) _
      simp only [Act.put, List.setIfInBounds_toArray, List.set_cons_zero, List.set_cons_succ]
      refine heldTo_take (i := 10) (oi := _) (v := (.int .i64 (Go.bits .and .i64 fl 2))) hSucc rfl (by kernel_rfl) (by kernel_rfl) (by kernel_rfl) (by kernel_rfl) rfl (fun _ _ _ h => h) (Or.inl ⟨by rfl, fun W hSw => ?_⟩) (by with_reducible assumption) ?_
      · (try dsimp only at hSw); go_simp
      change heldTo _ _ _ _ _ _ _ _ (Act.put _ (some 27) _) _
      simp only [Act.put, List.setIfInBounds_toArray, List.set_cons_zero, List.set_cons_succ]
      refine heldTo_take (i := 11) (oi := _) (v := (.bool pg)) hSucc rfl (by kernel_rfl) (by kernel_rfl) (by kernel_rfl) (by kernel_rfl) rfl (fun _ _ _ h => h) (Or.inl ⟨by rfl, fun W hSw => ?_⟩) (by with_reducible assumption) ?_
      · (try dsimp only at hSw); (first | go_simp | (go_simp; rw [h2]))
      change heldTo _ _ _ _ _ _ _ _ (Act.put _ (some 28) _) _
      simp only [Act.put, List.setIfInBounds_toArray, List.set_cons_zero, List.set_cons_succ]
      refine heldTo_take (i := 14) (oi := _) (v := (.pointer (some ⟨w.heap.size + 1, 2, none⟩))) hSucc rfl (by kernel_rfl) (by kernel_rfl) (by kernel_rfl) (by kernel_rfl) rfl (fun _ _ _ h => h) (Or.inl ⟨by rfl, fun W hSw => ?_⟩) (by with_reducible assumption) ?_
      · (try dsimp only at hSw); go_simp
      change heldTo _ _ _ _ _ _ _ _ (Act.put _ (some 30) _) _
      simp only [Act.put, List.setIfInBounds_toArray, List.set_cons_zero, List.set_cons_succ]
      refine heldTo_last (o := _) (by kernel_rfl) rfl (fun K hK => ?_)
      go_simp
      refine hK.out _ _ ?_
      clear hK K hHeld
      refine heldTo_done (by kernel_rfl) ?_ _
      go_wp2_with (rw [← HW5.out]; refine wpList_store_row rfl 71 (.tmp 4) (.tmp 31) rfl w.heap.size #[.int .i64 o, .bool wz, .bool pg] rfl rfl _ _ G54.out (by kernel_rfl) rfl (by simp [Value.oneCell']) ?_)
      exact bodyPost_ret (results_cell_row (P := Tryz.prog) rfl _ _ w.heap.size _ _ _ _ rfl HROW.out Tryz.underlying71 rfl (by kernel_rfl)) rfl ⟨rfl, HBR.out⟩
  · clear hHeld
    go_simp
    refine hK.out _ _ (HKS.out _ (Below.heap_setCell _ _ _ _ (by show y.g ≠ w.heap.size + 1; omega))) (fun hHeld => ?_)
    clear hK K
    refine heldTo_take (i := 7) (oi := _) (v := (.pointer (some ⟨y.g, 0, none⟩))) hSucc rfl (by kernel_rfl) (by kernel_rfl) (by kernel_rfl) (by kernel_rfl) rfl (fun _ _ _ h => h) (Or.inl ⟨by rfl, fun W hSw => ?_⟩) (by with_reducible assumption) ?_
    · (try dsimp only at hSw); go_simp
    change heldTo _ _ _ _ _ _ _ _ (Act.put _ (some 24) _) _
    simp only [Act.put, List.setIfInBounds_toArray, List.set_cons_zero, List.set_cons_succ]
    refine heldTo_take (i := 8) (oi := _) (v := (.pointer (some ⟨y.g, 4, none⟩))) hSucc rfl (by kernel_rfl) (by kernel_rfl) (by kernel_rfl) (by kernel_rfl) rfl (fun _ _ _ h => h) (Or.inl ⟨by rfl, fun W hSw => ?_⟩) (by with_reducible assumption) ?_
    · (try dsimp only at hSw); go_simp
    change heldTo _ _ _ _ _ _ _ _ (Act.put _ (some 25) _) _
    simp only [Act.put, List.setIfInBounds_toArray, List.set_cons_zero, List.set_cons_succ]
    refine heldTo_take (i := 9) (oi := _) (v := (.int .i64 fl)) hSucc rfl (by kernel_rfl) (by kernel_rfl) (by kernel_rfl) (by kernel_rfl) rfl (fun _ _ _ h => h) (Or.inl ⟨by rfl, fun W hSw => ?_⟩) (by with_reducible assumption) ?_
    · (try dsimp only at hSw); go_simp
    change heldTo _ _ _ _ _ _ _ _ (Act.put _ (some 26) _) _
    simp only [Act.put, List.setIfInBounds_toArray, List.set_cons_zero, List.set_cons_succ]
    refine heldTo_take (i := 10) (oi := _) (v := (.int .i64 (Go.bits .and .i64 fl 2))) hSucc rfl (by kernel_rfl) (by kernel_rfl) (by kernel_rfl) (by kernel_rfl) rfl (fun _ _ _ h => h) (Or.inl ⟨by rfl, fun W hSw => ?_⟩) (by with_reducible assumption) ?_
    · (try dsimp only at hSw); go_simp
    change heldTo _ _ _ _ _ _ _ _ (Act.put _ (some 27) _) _
    simp only [Act.put, List.setIfInBounds_toArray, List.set_cons_zero, List.set_cons_succ]
    refine heldTo_take (i := 11) (oi := _) (v := (.bool pg)) hSucc rfl (by kernel_rfl) (by kernel_rfl) (by kernel_rfl) (by kernel_rfl) rfl (fun _ _ _ h => h) (Or.inl ⟨by rfl, fun W hSw => ?_⟩) (by with_reducible assumption) ?_
    · (try dsimp only at hSw); (first | go_simp | (go_simp; rw [h2]))
    change heldTo _ _ _ _ _ _ _ _ (Act.put _ (some 28) _) _
    simp only [Act.put, List.setIfInBounds_toArray, List.set_cons_zero, List.set_cons_succ]
    refine heldTo_take (i := 14) (oi := _) (v := (.pointer (some ⟨w.heap.size + 1, 2, none⟩))) hSucc rfl (by kernel_rfl) (by kernel_rfl) (by kernel_rfl) (by kernel_rfl) rfl (fun _ _ _ h => h) (Or.inl ⟨by rfl, fun W hSw => ?_⟩) (by with_reducible assumption) ?_
    · (try dsimp only at hSw); go_simp
    change heldTo _ _ _ _ _ _ _ _ (Act.put _ (some 30) _) _
    simp only [Act.put, List.setIfInBounds_toArray, List.set_cons_zero, List.set_cons_succ]
    refine heldTo_last (o := _) (by kernel_rfl) rfl (fun K hK => ?_)
    go_simp
    refine hK.out _ _ ?_
    clear hK K hHeld
    refine heldTo_done (by kernel_rfl) ?_ _
    go_wp2_with (rw [← HW5.out]; refine wpList_store_row rfl 71 (.tmp 4) (.tmp 31) rfl w.heap.size #[.int .i64 o, .bool wz, .bool pg] rfl rfl _ _ G54.out (by kernel_rfl) rfl (by simp [Value.oneCell']) ?_)
    exact bodyPost_ret (results_cell_row (P := Tryz.prog) rfl _ _ w.heap.size _ _ _ _ rfl HROW.out Tryz.underlying71 rfl (by kernel_rfl)) rfl ⟨rfl, HBR.out⟩
end
end Go.Proofs.YtnphgcbknfmapaaGreatDoor
namespace Go.Proofs.YtnphgcbknfmapaaGreatDoor
open Go.RowKit Go.Lib
set_option linter.unusedVariables false
set_option linter.unusedSimpArgs false
section
variable {B a m gW : Nat} {w0 w w' : World} {l l' : List OB} {mx mx' o : Int} {K : List (Nat × Obj)} {x : OB} {id : Int} {wz pg : Bool}
theorem has_L (h : LS B w0 w a m l mx K) (ho : I64 o) (hx : getO l o = some x) : Calls Tryz.prog 45 #[.pointer (some ⟨a, 0, none⟩), .int .i64 o] w fun e w' => e = .returned (.bool true) ∧ w = w' := by
  obtain ⟨T, ht, rfl, h0, hK⟩ := h
  have := has_c ht.tab ho
  rw [hasO_of_get hx] at this
  exact this
theorem find_B (h : LS B w0 w a m l mx K) (ho : I64 o) (hx : getO l o = some x) (n : ByteArray) {i : Nat} {s : SL} (hi : slotI x.slots n = some i) (hs : x.slots[i]? = some s) :
    Calls Tryz.prog 27 #[.pointer (some ⟨a, 0, none⟩), .int .i64 o, .string n] w fun e w' => e = .returned (.tuple #[.agg #[.string s.name, .int .i64 s.owner, .int .i64 s.bits, .bool s.clear, .int .i64 s.kind, .int .i64 s.num, .string s.text, .slice none 0 0], .int .i64 0]) ∧ Below w.heap.size w w' := by
  obtain ⟨T, ht, rfl, h0, hK⟩ := h
  obtain ⟨y, hy, rfl⟩ := findT_of_getO hx
  exact find_l ht ho hy n hi hs
theorem get_B (h : LS B w0 w a m l mx K) (ho : I64 o) (hx : getO l o = some x) (hpi : ∀ x ∈ l, I64 x.parent) (n : ByteArray) (hi : biB n = false) {v : SL} (hq : gvO l n (aboveO l o) = some v) :
    Calls Tryz.prog 21 #[.pointer (some ⟨a, 0, none⟩), .int .i64 o, .string n] w fun e w' => e = .returned (.tuple #[.agg #[.int .i64 0, .int .i64 v.num, .string ⟨#[]⟩, .slice none 0 0], .int .i64 0]) ∧ Below w.heap.size w w' := by
  obtain ⟨T, ht, rfl, h0, hK⟩ := h
  obtain ⟨y, hy, rfl⟩ := findT_of_getO hx
  exact get_l ht ho hy (fun z hz => hpi z.o (List.mem_map.2 ⟨z, hz, rfl⟩)) n hi hq
set_option maxRecDepth 100000 in
set_option maxHeartbeats 2000000 in
theorem wget_yes (h : LS B w0 w a m l mx K) (hW : WK gW a ∈ K) (ho : I64 o) (hx : getO l o = some x) (n : ByteArray) {i : Nat} {s : SL} (hi : slotI x.slots n = some i) (hs : x.slots[i]? = some s) (hbi : biB n = false) (hpi : ∀ y ∈ l, I64 y.parent) (hr : (ownB id wz s.owner || (Go.bits .and .i64 s.bits 1 != 0)) = true) {v : SL} (hq : gvO l n (aboveO l o) = some v) :
    Calls Tryz.prog 35 #[.pointer (some ⟨gW, 0, none⟩), .agg #[.int .i64 id, .bool wz, .bool pg], .int .i64 o, .string n] w fun e w' => e = .returned (.tuple #[.agg #[.int .i64 0, .int .i64 v.num, .string ⟨#[]⟩, .slice none 0 0], .int .i64 0]) ∧ LS B w0 w' a m l mx K := by
  obtain ⟨w3, hw3⟩ : ∃ w3, w3 = (w.alloc (.cells #[.int .i64 id, .bool wz, .bool pg] 71)).alloc (.cells #[.int .i64 0, .int .i64 0, .string ⟨#[]⟩, .slice none 0 0] 33) := ⟨_, rfl⟩
  have hb3 : Below w.heap.size w w3 := by rw [hw3]; exact ((Below.refl _ _).alloc (Nat.le_refl _) _).alloc (by simp) _
  have hz3 : w3.heap.size = w.heap.size + 2 := by rw [hw3]; simp
  have g4 : w3.heap[w.heap.size]? = some (.cells #[.int .i64 id, .bool wz, .bool pg] 71 (0, 0)) := by
    rw [hw3]
    exact (Below.heap_alloc _ _ _ (by simp)).trans (heap_alloc_new w _)
  have g5 : w3.heap[w.heap.size + 1]? = some (.cells #[.int .i64 0, .int .i64 0, .string ⟨#[]⟩, .slice none 0 0] 33 (0, 0)) := by
    rw [hw3]
    exact heap_alloc2_new w _ _
  have h3 := h.below hb3
  have CH := Lib.hid (has_L h3 ho hx)
  have k3 := h3.wk hW
  have CB := Lib.hid (fun W => pbuiltin_c n W)
  rw [hbi] at CB
  have hgW := h3.wlt hW
  have CF := Lib.hid (fun W (hb : Below w3.heap.size w3 W) => find_B (h3.below hb) ho hx n hi hs)
  have HH0 := Lib.hid h
  have HKW := Lib.hid (fun W (hb : Below w3.heap.size w3 W) => (h3.below hb).wk hW)
  have CS := Lib.hid (fun W => pread_c (id := id) (wz := wz) (pg := pg) s W hr)
  have CG := Lib.hid (fun W (hb : Below w3.heap.size w3 W) => get_B (h3.below hb) ho hx hpi n hbi hq)
  have HB3 := Lib.hid hb3
  have HG4 := Lib.hid g4
  have HG5 := Lib.hid g5
  have HZ3 := Lib.hid hz3
  have HW3 := Lib.hid hw3
  clear h h3 hb3 g4 g5 hz3 hw3 hr hx hi hs hbi
  go_enter Tryz.func35, Tryz.ntmps35
  go_upto_region 1 with fail
  rw [← HW3.out]
  go_wp2_with fail
  refine CH.out.mono ?_
  rintro e w4 ⟨rfl, rfl⟩
  go_wp2_with fail
  refine (CB.out _).mono ?_
  rintro e w4 ⟨rfl, hb4⟩
  have k4 := HKW.out w4 hb4
  have HB4 := Lib.hid hb4
  clear hb4 k3
  go_wp2_with fail
  refine (CF.out _ HB4.out).mono ?_
  rintro e w5 ⟨rfl, hb5⟩
  obtain ⟨w6, hw6⟩ : ∃ w6, w6 = w5.alloc (.cells #[.string s.name, .int .i64 s.owner, .int .i64 s.bits, .bool s.clear, .int .i64 s.kind, .int .i64 s.num, .string s.text, .slice none 0 0] 35) := ⟨_, rfl⟩
  have hb6 : Below w5.heap.size w5 w6 := by rw [hw6]; exact (Below.refl _ _).alloc (Nat.le_refl _) _
  have g6 : w6.heap[w5.heap.size]? = some (.cells #[.string s.name, .int .i64 s.owner, .int .i64 s.bits, .bool s.clear, .int .i64 s.kind, .int .i64 s.num, .string s.text, .slice none 0 0] 35 (0, 0)) := by rw [hw6]; exact heap_alloc_new w5 _
  have hb36 : Below w3.heap.size w3 w6 := HB4.out.trans ((hb5.trans (hb6.mono hb5.size)).mono HB4.out.size)
  have gA := (hb36.block w.heap.size (by have := HZ3.out; omega)).trans HG4.out
  have p0 := cell_of_row w6 _ 0 _ _ _ gA
  have p1 := cell_of_row w6 _ 1 _ _ _ gA
  have p2 := cell_of_row w6 _ 2 _ _ _ gA
  have q0 := cell_of_row w6 _ 0 _ _ _ g6
  have q1 := cell_of_row w6 _ 1 _ _ _ g6
  have q2 := cell_of_row w6 _ 2 _ _ _ g6
  have q3 := cell_of_row w6 _ 3 _ _ _ g6
  have q4 := cell_of_row w6 _ 4 _ _ _ g6
  have q5 := cell_of_row w6 _ 5 _ _ _ g6
  have q6 := cell_of_row w6 _ 6 _ _ _ g6
  have q7 := cell_of_row w6 _ 7 _ _ _ g6
  have HB6 := Lib.hid hb36
  have HW6 := Lib.hid hw6
  clear hb5 hb6 g6 hb36 gA hw6 k4
  go_upto_region 5 with fail
  rw [← HW6.out]
  go_wp2_with fail
  refine (CS.out _).mono ?_
  rintro e w7 ⟨rfl, hb7⟩
  have hb37 : Below w3.heap.size w3 w7 := HB6.out.trans (hb7.mono HB6.out.size)
  have k7 := HKW.out w7 hb37
  have HB7 := Lib.hid hb37
  clear hb7 hb37 p0 p1 p2 q0 q1 q2 q3 q4 q5 q6 q7
  go_wp2_with fail
  refine (CG.out _ HB7.out).mono ?_
  rintro e w8 ⟨rfl, hb8⟩
  have hb38 : Below w3.heap.size w3 w8 := HB7.out.trans (hb8.mono HB7.out.size)
  have g58 := (hb38.block (w.heap.size + 1) (by have := HZ3.out; omega)).trans HG5.out
  have HG58 := Lib.hid g58
  have HROW := Lib.hid (setRow_heap w8 (w.heap.size + 1) _ #[.int .i64 0, .int .i64 v.num, .string ⟨#[]⟩, .slice none 0 0] _ _ g58)
  have HFIN := Lib.hid (HH0.out.below (below_setRow (HB3.out.trans (hb38.mono HB3.out.size)) (g := w.heap.size + 1) (by omega) #[.int .i64 0, .int .i64 v.num, .string ⟨#[]⟩, .slice none 0 0]))
  clear hb8 hb38 g58 k7
  go_wp2_with (refine wpList_store_row rfl 33 (.tmp 8) (.tmp 49) rfl (w.heap.size + 1) #[.int .i64 0, .int .i64 v.num, .string ⟨#[]⟩, .slice none 0 0] rfl rfl _ _ HG58.out (by kernel_rfl) rfl (by simp [Value.oneCell']) ?_)
  exact bodyPost_ret (results_rowP (P := Tryz.prog) rfl _ _ (w.heap.size + 1) _ _ _ _ rfl HROW.out Tryz.underlying33 rfl (by kernel_rfl)) rfl ⟨rfl, HFIN.out⟩
end
end Go.Proofs.YtnphgcbknfmapaaGreatDoor
namespace Go.Proofs.YtnphgcbknfmapaaGreatDoor
open Go.RowKit Go.Lib
set_option linter.unusedVariables false
set_option linter.unusedSimpArgs false
section
variable {B a m gW : Nat} {w0 w w' : World} {l l' : List OB} {mx mx' o : Int} {K : List (Nat × Obj)} {x : OB} {id : Int} {wz pg : Bool}
/-- A name that is none of those which each object has. -/
structure NotBi (n : ByteArray) : Prop where
  bi : biB n = false
  c0 : (n.toList == [110, 97, 109, 101]) = false
  c1 : (n.toList == [111, 119, 110, 101, 114]) = false
  c2 : (n.toList == [119, 105, 122, 97, 114, 100]) = false
  c3 : (n.toList == [112, 114, 111, 103, 114, 97, 109, 109, 101, 114]) = false
  c4 : (n.toList == [112, 108, 97, 121, 101, 114]) = false
  c5 : (n.toList == [114]) = false
  c6 : (n.toList == [119]) = false
  c7 : (n.toList == [102]) = false
  c8 : (n.toList == [108, 111, 99, 97, 116, 105, 111, 110]) = false
  c9 : (n.toList == [99, 111, 110, 116, 101, 110, 116, 115]) = false
theorem notBi_x : NotBi xS := ⟨by decide +kernel, by decide +kernel, by decide +kernel, by decide +kernel, by decide +kernel, by decide +kernel, by decide +kernel, by decide +kernel, by decide +kernel, by decide +kernel, by decide +kernel⟩
/-- The object itself, by its number. -/
theorem ref_B (h : LS B w0 w a m l mx K) (ho : I64 o) (hx : getO l o = some x) : ∃ g A1 c1 A2 c2, g < w.heap.size ∧ (∀ W, Below w.heap.size w W → Calls Tryz.prog 54 #[.pointer (some ⟨a, 0, none⟩), .int .i64 o] W fun e w' => e = .returned (.pointer (some ⟨g, 0, none⟩)) ∧ W = w') ∧
    ∀ W, Below w.heap.size w W → ∀ j, W.cell? ⟨g, j, none⟩ = (#[.int .i64 x.id, .int .i64 x.parent, .int .i64 x.owner, .int .i64 x.place, .int .i64 x.flags, .int .i64 x.quota, .string x.name, .slice A1 x.defs.length c1, .slice A2 x.slots.length c2, .slice none 0 0] : Array Value)[j]? := by
  obtain ⟨T, ht, rfl, h0, hK⟩ := h
  obtain ⟨y, hy, rfl⟩ := findT_of_getO hx
  have hym := (findT_some hy).1
  obtain ⟨A1, c1, hdv⟩ : ∃ A C, y.dv = .slice A y.o.defs.length C := by obtain ⟨A, C, e, _⟩ := own_formO (ht.tab.objs y hym).defs; exact ⟨A, C, e⟩
  obtain ⟨A2, c2, hsv⟩ : ∃ A C, y.sv = .slice A y.o.slots.length C := by obtain ⟨A, C, e, _⟩ := own_formO (ht.tab.objs y hym).slots; exact ⟨A, C, e⟩
  refine ⟨y.g, A1, c1, A2, c2, ht.tab.lt y.g (List.mem_cons_of_mem _ (List.mem_cons_of_mem _ (List.mem_flatMap.2 ⟨y, hym, OM.mem_blocks.2 (.inl rfl)⟩))), fun W hW => ?_, fun W hW j => ?_⟩
  · have := ref_c (ht.tab.below hW) ho
    rw [ptrT_some hy] at this
    exact this
  · rw [cellX ht.tab hW hym j]
    unfold OM.cells
    rw [hdv, hsv]

set_option maxRecDepth 100000 in
set_option maxHeartbeats 2000000 in
theorem mayput_c (h : LS B w0 w a m l mx K) (hW : WK gW a ∈ K) (ho : I64 o) (hx : getO l o = some x) (n : ByteArray) {i : Nat} {s : SL} (hi : slotI x.slots n = some i) (hs : x.slots[i]? = some s) (hn : NotBi n) {r : Bool} (hr : (ownB id wz s.owner || (Go.bits .and .i64 s.bits 2 != 0)) = r) :
    Calls Tryz.prog 76 #[.pointer (some ⟨gW, 0, none⟩), .agg #[.int .i64 id, .bool wz, .bool pg], .int .i64 o, .string n] w fun e w' => e = .returned (.int .i64 (if r = true then 0 else 3)) ∧ Below w.heap.size w w' := by
  obtain ⟨w3, hw3⟩ : ∃ w3, w3 = w.alloc (.cells #[.int .i64 id, .bool wz, .bool pg] 71) := ⟨_, rfl⟩
  have hb3 : Below w.heap.size w w3 := by rw [hw3]; exact (Below.refl _ _).alloc (Nat.le_refl _) _
  have hz3 : w3.heap.size = w.heap.size + 1 := by rw [hw3]; simp
  have g4 : w3.heap[w.heap.size]? = some (.cells #[.int .i64 id, .bool wz, .bool pg] 71 (0, 0)) := by
    rw [hw3]
    exact heap_alloc_new w _
  have h3 := h.below hb3
  have k3 := h3.wk hW
  obtain ⟨gx, _, _, _, _, _, hR, _⟩ := ref_B h3 ho hx
  have CR := Lib.hid (hR w3 (Below.refl _ _))
  have CF := Lib.hid (find_B h3 ho hx n hi hs)
  have CS := Lib.hid (fun W => pwrite_c (id := id) (wz := wz) (pg := pg) s W hr)
  obtain ⟨_, c0, c1, c2, c3, c4, c5, c6, c7, c8, c9⟩ := hn
  have HB3 := Lib.hid hb3
  have HG4 := Lib.hid g4
  have HZ3 := Lib.hid hz3
  have HW3 := Lib.hid hw3
  clear h h3 hb3 g4 hz3 hw3 hr hx hi hs hR
  go_enter Tryz.func76, Tryz.ntmps76
  go_upto_region 1 with fail
  rw [← HW3.out]
  go_wp2_with fail
  refine CR.out.mono ?_
  rintro e w4 ⟨rfl, rfl⟩
  go_wp2_with fail
  refine CF.out.mono ?_
  rintro e w5 ⟨rfl, hb5⟩
  obtain ⟨w6, hw6⟩ : ∃ w6, w6 = w5.alloc (.cells #[.string s.name, .int .i64 s.owner, .int .i64 s.bits, .bool s.clear, .int .i64 s.kind, .int .i64 s.num, .string s.text, .slice none 0 0] 35) := ⟨_, rfl⟩
  have hb6 : Below w5.heap.size w5 w6 := by rw [hw6]; exact (Below.refl _ _).alloc (Nat.le_refl _) _
  have g6 : w6.heap[w5.heap.size]? = some (.cells #[.string s.name, .int .i64 s.owner, .int .i64 s.bits, .bool s.clear, .int .i64 s.kind, .int .i64 s.num, .string s.text, .slice none 0 0] 35 (0, 0)) := by rw [hw6]; exact heap_alloc_new w5 _
  have hb36 : Below w3.heap.size w3 w6 := hb5.trans (hb6.mono hb5.size)
  have gA := (hb36.block w.heap.size (by have := HZ3.out; omega)).trans HG4.out
  have p0 := cell_of_row w6 _ 0 _ _ _ gA
  have p1 := cell_of_row w6 _ 1 _ _ _ gA
  have p2 := cell_of_row w6 _ 2 _ _ _ gA
  have q0 := cell_of_row w6 _ 0 _ _ _ g6
  have q1 := cell_of_row w6 _ 1 _ _ _ g6
  have q2 := cell_of_row w6 _ 2 _ _ _ g6
  have q3 := cell_of_row w6 _ 3 _ _ _ g6
  have q4 := cell_of_row w6 _ 4 _ _ _ g6
  have q5 := cell_of_row w6 _ 5 _ _ _ g6
  have q6 := cell_of_row w6 _ 6 _ _ _ g6
  have q7 := cell_of_row w6 _ 7 _ _ _ g6
  have HB6 := Lib.hid (HB3.out.trans (hb36.mono HB3.out.size))
  have HW6 := Lib.hid hw6
  clear hb5 hb6 g6 hb36 gA hw6 k3
  go_upto_region 9 with fail
  rw [← HW6.out]
  go_wp2_with fail
  refine (CS.out _).mono ?_
  rintro e w7 ⟨rfl, hb7⟩
  have HB7 := Lib.hid (HB6.out.trans (hb7.mono HB6.out.size))
  clear hb7 p0 p1 p2 q0 q1 q2 q3 q4 q5 q6 q7
  cases r with
  | true =>
    go_wp2_with fail
    go_ret
    exact ⟨rfl, HB7.out⟩
  | false =>
    go_wp2_with fail
    go_ret
    exact ⟨rfl, HB7.out⟩
set_option maxRecDepth 100000 in
set_option maxHeartbeats 2000000 in
theorem wput_no (h : LS B w0 w a m l mx K) (hW : WK gW a ∈ K) (ho : I64 o) (hx : getO l o = some x) (n : ByteArray) {i : Nat} {s : SL} (hi : slotI x.slots n = some i) (hs : x.slots[i]? = some s) (hn : NotBi n) (hr : (ownB id wz s.owner || (Go.bits .and .i64 s.bits 2 != 0)) = false) (v : Int) :
    Calls Tryz.prog 36 #[.pointer (some ⟨gW, 0, none⟩), .agg #[.int .i64 id, .bool wz, .bool pg], .int .i64 o, .string n, .agg #[.int .i64 0, .int .i64 v, .string ⟨#[]⟩, .slice none 0 0]] w fun e w' => e = .returned (.int .i64 3) ∧ Below w.heap.size w w' := by
  obtain ⟨w3, hw3⟩ : ∃ w3, w3 = (w.alloc (.cells #[.int .i64 id, .bool wz, .bool pg] 71)).alloc (.cells #[.int .i64 0, .int .i64 v, .string ⟨#[]⟩, .slice none 0 0] 33) := ⟨_, rfl⟩
  have hb3 : Below w.heap.size w w3 := by rw [hw3]; exact ((Below.refl _ _).alloc (Nat.le_refl _) _).alloc (by simp) _
  have hz3 : w3.heap.size = w.heap.size + 2 := by rw [hw3]; simp
  have g4 : w3.heap[w.heap.size]? = some (.cells #[.int .i64 id, .bool wz, .bool pg] 71 (0, 0)) := by
    rw [hw3]
    exact (Below.heap_alloc _ _ _ (by simp)).trans (heap_alloc_new w _)
  have g5 : w3.heap[w.heap.size + 1]? = some (.cells #[.int .i64 0, .int .i64 v, .string ⟨#[]⟩, .slice none 0 0] 33 (0, 0)) := by
    rw [hw3]
    exact heap_alloc2_new w _ _
  have h3 := h.below hb3
  have CM := Lib.hid (mayput_c (id := id) (wz := wz) (pg := pg) h3 hW ho hx n hi hs hn hr)
  have p0 := cell_of_row w3 _ 0 _ _ _ g4
  have p1 := cell_of_row w3 _ 1 _ _ _ g4
  have p2 := cell_of_row w3 _ 2 _ _ _ g4
  have HH := Lib.hid h3
  have HB3 := Lib.hid hb3
  have HG5 := Lib.hid g5
  have HZ3 := Lib.hid hz3
  have HW3 := Lib.hid hw3
  have HX := Lib.hid hx
  have HI := Lib.hid hi
  have HS := Lib.hid hs
  have HN := Lib.hid hn
  clear h h3 hb3 g4 g5 hz3 hw3 hx hi hs hn hr
  go_enter Tryz.func36, Tryz.ntmps36
  go_upto_region 1 with fail
  rw [← HW3.out]
  go_wp2_with fail
  refine CM.out.mono ?_
  rintro e w4 ⟨rfl, hb4⟩
  have HB4 := Lib.hid (HB3.out.trans (hb4.mono HB3.out.size))
  clear hb4 p0 p1 p2
  go_wp2_with fail
  go_ret
  exact ⟨rfl, HB4.out⟩
set_option maxRecDepth 100000 in
set_option maxHeartbeats 2000000 in
theorem wput_yes (h : LS B w0 w a m l mx K) (hW : WK gW a ∈ K) (ho : I64 o) (hx : getO l o = some x) (n : ByteArray) {i : Nat} {s : SL} (hi : slotI x.slots n = some i) (hs : x.slots[i]? = some s) (hn : NotBi n) (hr : (ownB id wz s.owner || (Go.bits .and .i64 s.bits 2 != 0)) = true) (v : Int) :
    Calls Tryz.prog 36 #[.pointer (some ⟨gW, 0, none⟩), .agg #[.int .i64 id, .bool wz, .bool pg], .int .i64 o, .string n, .agg #[.int .i64 0, .int .i64 v, .string ⟨#[]⟩, .slice none 0 0]] w fun e w' => e = .returned (.int .i64 0) ∧ LS B w0 w' a m (repO l o { x with slots := x.slots.set i (setV s v false) }) mx K := by
  obtain ⟨w3, hw3⟩ : ∃ w3, w3 = (w.alloc (.cells #[.int .i64 id, .bool wz, .bool pg] 71)).alloc (.cells #[.int .i64 0, .int .i64 v, .string ⟨#[]⟩, .slice none 0 0] 33) := ⟨_, rfl⟩
  have hb3 : Below w.heap.size w w3 := by rw [hw3]; exact ((Below.refl _ _).alloc (Nat.le_refl _) _).alloc (by simp) _
  have hz3 : w3.heap.size = w.heap.size + 2 := by rw [hw3]; simp
  have g4 : w3.heap[w.heap.size]? = some (.cells #[.int .i64 id, .bool wz, .bool pg] 71 (0, 0)) := by
    rw [hw3]
    exact (Below.heap_alloc _ _ _ (by simp)).trans (heap_alloc_new w _)
  have g5 : w3.heap[w.heap.size + 1]? = some (.cells #[.int .i64 0, .int .i64 v, .string ⟨#[]⟩, .slice none 0 0] 33 (0, 0)) := by
    rw [hw3]
    exact heap_alloc2_new w _ _
  have h3 := h.below hb3
  have CM := Lib.hid (mayput_c (id := id) (wz := wz) (pg := pg) h3 hW ho hx n hi hs hn hr)
  have p0 := cell_of_row w3 _ 0 _ _ _ g4
  have p1 := cell_of_row w3 _ 1 _ _ _ g4
  have p2 := cell_of_row w3 _ 2 _ _ _ g4
  have HH := Lib.hid h3
  have HB3 := Lib.hid hb3
  have HG5 := Lib.hid g5
  have HZ3 := Lib.hid hz3
  have HW3 := Lib.hid hw3
  have HX := Lib.hid hx
  have HI := Lib.hid hi
  have HS := Lib.hid hs
  have HN := Lib.hid hn
  clear h h3 hb3 g4 g5 hz3 hw3 hx hi hs hn hr
  go_enter Tryz.func36, Tryz.ntmps36
  go_upto_region 1 with fail
  rw [← HW3.out]
  go_wp2_with fail
  refine CM.out.mono ?_
  rintro e w4 ⟨rfl, hb4⟩
  have h4 := HH.out.below hb4
  have k4 := h4.wk hW
  have g54 := (hb4.block (w.heap.size + 1) (by have := HZ3.out; omega)).trans HG5.out
  have r0 := cell_of_row w4 _ 0 _ _ _ g54
  have r1 := cell_of_row w4 _ 1 _ _ _ g54
  have r2 := cell_of_row w4 _ 2 _ _ _ g54
  have r3 := cell_of_row w4 _ 3 _ _ _ g54
  have CP := Lib.hid (fun W (hb : Below w4.heap.size w4 W) => put_L (h4.below hb) ho HX.out n HN.out.bi HI.out HS.out v)
  clear hb4 h4 g54 p0 p1 p2
  go_upto_region 4 with fail
  go_still_tail 7, (by kernel_rfl)
  change wpList _ _ _ _ _ w4.drew
  go_wp2_with fail
  refine (CP.out _ (Below.refl _ w4).drew).mono ?_
  rintro e w5 ⟨rfl, hl5⟩
  have HL5 := Lib.hid hl5
  clear hl5
  go_wp2_with fail
  go_ret
  exact ⟨rfl, HL5.out⟩
end
end Go.Proofs.YtnphgcbknfmapaaGreatDoor
namespace Go.Proofs.YtnphgcbknfmapaaGreatDoor
open Go.RowKit Go.Lib
set_option linter.unusedVariables false
set_option linter.unusedSimpArgs false
theorem room1 : getO roomL 1 = some obR1 := rfl
theorem room_par : ∀ y ∈ roomL, I64 y.parent := by
  intro y hy
  rcases mem_room hy with rfl | rfl | rfl | rfl
  · exact ⟨by decide, by decide⟩
  · exact ⟨by decide, by decide⟩
  · exact ⟨by decide, by decide⟩
  · exact ⟨by decide, by decide⟩
theorem slot_x1 : slotI [slR1] xS = some 0 := by decide +kernel
theorem gv_x1 : gvO roomL xS (aboveO roomL 1) = some slR1 := by
  have h : aboveO roomL 1 = [1] := rfl
  rw [h]
  simp only [gvO, room1, Option.bind_some]
  unfold slO
  rw [show obR1.slots = [slR1] from rfl, slot_x1]
  rfl
set_option maxRecDepth 100000 in
set_option maxHeartbeats 4000000 in
theorem wfirst_c (w : World) : Calls Tryz.prog 30 #[] w fun e w' => e = .returned (.bool true) ∧ Below w.heap.size w w' := by
  have CRM := Lib.hid (room_c w)
  go_enter Tryz.func30, Tryz.ntmps30
  go_wp2_with fail
  refine CRM.out.mono ?_
  rintro e w1 ⟨rfl, hin, hb1⟩
  have CN := Lib.hid (wnew_c w1 hin)
  have HB1 := Lib.hid hb1
  clear hin hb1 CRM
  go_wp2_with fail
  refine CN.out.mono ?_
  rintro e w2 ⟨gW, a, m, rfl, hl2⟩
  have CW := Lib.hid (who_W (gW := gW) (o := 3) hl2 (by simp) ⟨by omega, by omega⟩ (x := obR3) rfl (wz := false) (pg := false) (by decide) (by decide))
  have HL2 := Lib.hid hl2
  clear hl2 CN
  go_wp2_with fail
  refine CW.out.mono ?_
  rintro e w3 ⟨rfl, hb3⟩
  have HL3 := Lib.hid (HL2.out.below hb3)
  clear hb3 CW
  have CG := Lib.hid (show Calls Tryz.prog 35 #[.pointer (some ⟨gW, 0, none⟩), .agg #[.int .i64 3, .bool false, .bool false], .int .i64 1, .string ⟨#[120]⟩] w3 (fun e w' => e = .returned (.tuple #[.agg #[.int .i64 0, .int .i64 5, .string ⟨#[]⟩, .slice none 0 0], .int .i64 0]) ∧ LS w1.heap.size w1 w' a m roomL 3 [WK gW a]) from wget_yes (gW := gW) (id := 3) (wz := false) (pg := false) (o := 1) HL3.out (by simp) ⟨by omega, by omega⟩ room1 xS (i := 0) (s := slR1) slot_x1 rfl notBi_x.bi room_par (by decide) gv_x1)
  go_wp2_with fail
  refine CG.out.mono ?_
  rintro e w4 ⟨rfl, hl4⟩
  obtain ⟨w5, hw5⟩ : ∃ w5, w5 = w4.alloc (.cells #[.int .i64 0, .int .i64 5, .string ⟨#[]⟩, .slice none 0 0] 33) := ⟨_, rfl⟩
  have hb5 : Below w4.heap.size w4 w5 := by rw [hw5]; exact (Below.refl _ _).alloc (Nat.le_refl _) _
  have g5 : w5.heap[w4.heap.size]? = some (.cells #[.int .i64 0, .int .i64 5, .string ⟨#[]⟩, .slice none 0 0] 33 (0, 0)) := by rw [hw5]; exact heap_alloc_new w4 _
  have h5 := hl4.push hb5 (Nat.le_refl _) g5
  obtain ⟨S, hS⟩ : ∃ S : World → Prop, S = fun W => W.cell? ⟨w4.heap.size, 0, none⟩ = some (.int .i64 0) ∧ W.cell? ⟨w4.heap.size, 1, none⟩ = some (.int .i64 5) ∧ W.cell? ⟨w4.heap.size, 2, none⟩ = some (.string ⟨#[]⟩) ∧ W.cell? ⟨w4.heap.size, 3, none⟩ = some (.slice none 0 0) ∧ LS w1.heap.size w1 W a m roomL 3 [(w4.heap.size, .cells #[.int .i64 0, .int .i64 5, .string ⟨#[]⟩, .slice none 0 0] 33 (0, 0)), WK gW a] := ⟨_, rfl⟩
  have KS : ∀ W, LS w1.heap.size w1 W a m roomL 3 [(w4.heap.size, .cells #[.int .i64 0, .int .i64 5, .string ⟨#[]⟩, .slice none 0 0] 33 (0, 0)), WK gW a] → S W := by
    intro W hW
    have hg := hW.row (List.mem_cons_self ..)
    rw [hS]
    exact ⟨cell_of_row W _ 0 _ _ _ hg, cell_of_row W _ 1 _ _ _ hg, cell_of_row W _ 2 _ _ _ hg, cell_of_row W _ 3 _ _ _ hg, hW⟩
  have BS : ∀ W, S W → LS w1.heap.size w1 W a m roomL 3 [(w4.heap.size, .cells #[.int .i64 0, .int .i64 5, .string ⟨#[]⟩, .slice none 0 0] 33 (0, 0)), WK gW a] := by intro W h; rw [hS] at h; exact h.2.2.2.2
  have C1 := Lib.hid (show ∀ W, S W → Calls Tryz.prog 34 #[.pointer (some ⟨gW, 0, none⟩), .int .i64 3] W fun e w' => e = .returned (.agg #[.int .i64 3, .bool false, .bool false]) ∧ S w' from fun W h => (who_W (gW := gW) (o := 3) (BS W h) (by simp) ⟨by omega, by omega⟩ (x := obR3) rfl (wz := false) (pg := false) (by decide) (by decide)).mono (by rintro e w' ⟨rfl, hb⟩; exact ⟨rfl, KS _ ((BS W h).below hb)⟩))
  have C2 := Lib.hid (show ∀ W, S W → Calls Tryz.prog 34 #[.pointer (some ⟨gW, 0, none⟩), .int .i64 0] W fun e w' => e = .returned (.agg #[.int .i64 0, .bool true, .bool true]) ∧ S w' from fun W h => (who_W (gW := gW) (o := 0) (BS W h) (by simp) ⟨by omega, by omega⟩ (x := obR0) rfl (wz := true) (pg := true) (by decide) (by decide)).mono (by rintro e w' ⟨rfl, hb⟩; exact ⟨rfl, KS _ ((BS W h).below hb)⟩))
  have C3 := Lib.hid (show ∀ W, S W → Calls Tryz.prog 36 #[.pointer (some ⟨gW, 0, none⟩), .agg #[.int .i64 3, .bool false, .bool false], .int .i64 1, .string ⟨#[120]⟩, .agg #[.int .i64 0, .int .i64 5, .string ⟨#[]⟩, .slice none 0 0]] W fun e w' => e = .returned (.int .i64 3) ∧ S w' from fun W h => (wput_no (gW := gW) (o := 1) (BS W h) (by simp) ⟨by omega, by omega⟩ room1 xS (i := 0) (s := slR1) slot_x1 rfl notBi_x (by decide) 5).mono (by rintro e w' ⟨rfl, hb⟩; exact ⟨rfl, KS _ ((BS W h).below hb)⟩))
  have C4 := Lib.hid (show ∀ W, S W → Calls Tryz.prog 36 #[.pointer (some ⟨gW, 0, none⟩), .agg #[.int .i64 0, .bool true, .bool true], .int .i64 1, .string ⟨#[120]⟩, .agg #[.int .i64 0, .int .i64 5, .string ⟨#[]⟩, .slice none 0 0]] W fun e w' => e = .returned (.int .i64 0) ∧ S w' from fun W h => (wput_yes (gW := gW) (o := 1) (BS W h) (by simp) ⟨by omega, by omega⟩ room1 xS (i := 0) (s := slR1) slot_x1 rfl notBi_x (by decide) 5).mono (by rintro e w' ⟨rfl, hb⟩; exact ⟨rfl, KS _ hb⟩))
  have K0 : S w5.drew := KS _ (h5.below (Below.refl _ w5).drew)
  have p1 := cell_of_row w5 _ 1 _ _ _ g5
  have BSH := Lib.hid BS
  have HW5 := Lib.hid hw5
  clear hl4 hb5 g5 h5 KS BS hw5 CG
  subst hS
  go_upto_region 5 with fail
  rw [← HW5.out]
  clear p1
  go_region_held3 (fun W => W.cell? ⟨w4.heap.size, 0, none⟩ = some (.int .i64 0) ∧ W.cell? ⟨w4.heap.size, 1, none⟩ = some (.int .i64 5) ∧ W.cell? ⟨w4.heap.size, 2, none⟩ = some (.string ⟨#[]⟩) ∧ W.cell? ⟨w4.heap.size, 3, none⟩ = some (.slice none 0 0) ∧ LS w1.heap.size w1 W a m roomL 3 [(w4.heap.size, .cells #[.int .i64 0, .int .i64 5, .string ⟨#[]⟩, .slice none 0 0] 33 (0, 0)), WK gW a])
    (first | (with_reducible assumption) | (with_reducible exact K0))
    (first
      | (go_at_call 34; with_reducible refine (C1.out _ ?_).mono ?_; with_reducible assumption; rintro e w' ⟨rfl, hs⟩)
      | (go_at_call 34; with_reducible refine (C2.out _ ?_).mono ?_; with_reducible assumption; rintro e w' ⟨rfl, hs⟩)
      | (go_at_call 36; with_reducible refine (C3.out _ ?_).mono ?_; with_reducible assumption; rintro e w' ⟨rfl, hs⟩)
      | (go_at_call 36; with_reducible refine (C4.out _ ?_).mono ?_; with_reducible assumption; rintro e w' ⟨rfl, hs⟩))
  all_goals
    go_wp2_with fail
    go_ret
    exact ⟨rfl, HB1.out.trans ((BSH.out _ hs).base.mono HB1.out.size)⟩
end Go.Proofs.YtnphgcbknfmapaaGreatDoor
namespace Go.Proofs.YtnphgcbknfmapaaGreatDoor
open Go.RowKit Go.Lib
set_option linter.unusedVariables false
set_option linter.unusedSimpArgs false

theorem mem_repT {T : List OM} {o : Int} {x' y : OM} (h : y ∈ repT T o x') : y = x' ∨ y ∈ T := by
  obtain ⟨z, hz, e⟩ := List.mem_map.1 h
  by_cases h1 : z.o.id = o
  · rw [if_pos (by simpa using h1)] at e
    exact .inl e.symm
  · rw [if_neg (by simpa using h1)] at e
    rw [← e]
    exact .inr hz
theorem bare_rep {l : List OB} {o : Int} {x x' : OB} (hs : SortO l) (hx : getO l o = some x) (f : OB → OB) (hb : bareO x' = f (bareO x)) : (repO l o x').map bareO = updO (l.map bareO) o f := by
  unfold repO updO
  rw [List.map_map, List.map_map]
  apply List.map_congr_left
  intro y hy
  simp only [Function.comp]
  by_cases h1 : y.id = o
  · have h2 : y = x := eq_of_id hs hy (getO_mem hx) (by rw [h1, getO_id hx])
    rw [if_pos (by simpa using h1), if_pos (by simpa [bareO] using h1), hb, h2]
  · rw [if_neg (by simpa using h1), if_neg (by simpa [bareO] using h1)]
theorem okS_upd {l : List OB} {mx o : Int} {x x' : OB} (h : OkS l mx) (hx : getO l o = some x) (f : OB → OB) (hb : bareO x' = f (bareO x)) (hid : ∀ x, (f x).id = x.id) (hp : ∀ x, (f x).parent = x.parent) (hl : ∀ x, (f x).place = x.place) (hd : ∀ x, (f x).defs = x.defs) (hs : ∀ x, (f x).slots = x.slots) : OkS (repO l o x') mx := by
  unfold OkS
  rw [bare_rep h.sortS hx f hb]
  exact OkT.upd h o f hid hp hl hd hs
/-- A field of an object set where it lies. -/
theorem TS.field {w : World} {B a m : Nat} {T : List OM} {mx o : Int} (h : TS w B a m T mx) {x : OM} (hx : findT T o = some x) (j : Nat) (u : Value) (ob' : OB) (hid : ob'.id = x.o.id) (hd : ob'.defs = x.o.defs) (hs : ob'.slots = x.o.slots)
    (hc : x.cells.setIfInBounds j u = (⟨ob', x.g, x.dv, x.sv⟩ : OM).cells) (ok : OkS (repO (obT T) o ob') mx) : StS w (w.setCell ⟨x.g, j, none⟩ u) B a m T (repT T o ⟨ob', x.g, x.dv, x.sv⟩) mx mx := by
  have hxm := (findT_some hx).1
  have hob := h.tab.objs x hxm
  have hnd := h.tab.nodupX hxm
  have hg : x.g ∈ x.blocks := OM.mem_blocks.2 (.inl rfl)
  have hne : ∀ b, x.dv.ownBlock = some b ∨ x.sv.ownBlock = some b → b ≠ x.g := by
    rintro b hb rfl
    unfold OM.blocks at hnd
    rw [List.nodup_cons] at hnd
    apply hnd.1
    rcases hb with hb | hb
    · exact List.mem_append_left _ (by rw [hb]; simp)
    · exact List.mem_append_right _ (by rw [hb]; simp)
  have hk : ∀ b, b ≠ x.g → (w.setCell ⟨x.g, j, none⟩ u).heap[b]? = w.heap[b]? := fun b hb => Below.heap_setCell _ _ _ _ hb
  have hob' : ObjAt (w.setCell ⟨x.g, j, none⟩ u) B ⟨ob', x.g, x.dv, x.sv⟩ := by
    refine ⟨?_, ?_, ?_⟩
    · rw [← hc]
      exact heap_setCell_same w x.g j _ _ _ hob.blk
    · show World.ownsRow _ B _ 1 x.dv ob'.defs.length (ob'.defs.map Value.string)
      rw [hd]
      exact ownsRow_same hob.defs fun b hb => hk b (hne b (.inl hb))
    · show World.ownsRow _ B _ 8 x.sv ob'.slots.length (ob'.slots.flatMap SL.cells)
      rw [hs]
      exact ownsRow_same hob.slots fun b hb => hk b (hne b (.inr hb))
  have hcg : Chg (fun b => b ∈ x.blocks) w (w.setCell ⟨x.g, j, none⟩ u) := Chg.set w hg _
  have ht := h.tab.rep hx ⟨ob', x.g, x.dv, x.sv⟩ hid rfl hcg hob' (fun b hb => .inl hb) hnd
  have hin : ∀ b ∈ x.blocks, b ∈ blkT T := fun b hb => List.mem_flatMap.2 ⟨x, hxm, hb⟩
  refine ⟨⟨ht, by rw [obT_rep]; exact ok, fun y hy s hys => ?_, fun y hy => ?_⟩, hcg.mono (fun b _ hb => List.mem_cons_of_mem _ (List.mem_cons_of_mem _ (hin b hb))), fun b hb => ?_⟩
  · rcases mem_repT hy with rfl | h1
    · exact h.flat x hxm s (by rw [← hs]; exact hys)
    · exact h.flat y h1 s hys
  · rcases mem_repT hy with rfl | h1
    · have := h.bare x hxm
      rw [← hs, ← hd] at this
      exact this
    · exact h.bare y h1
  · obtain ⟨y, hy, hyb⟩ := List.mem_flatMap.1 hb
    rcases mem_repT hy with rfl | h1
    · exact .inl (hin b hyb)
    · exact .inl (List.mem_flatMap.2 ⟨y, h1, hyb⟩)

end Go.Proofs.YtnphgcbknfmapaaGreatDoor
namespace Go.Proofs.YtnphgcbknfmapaaGreatDoor
open Go.RowKit Go.Lib
set_option linter.unusedVariables false
set_option linter.unusedSimpArgs false

end Go.Proofs.YtnphgcbknfmapaaGreatDoor
namespace Go.Proofs.YtnphgcbknfmapaaGreatDoor
open Go.RowKit Go.Lib
set_option linter.unusedVariables false
set_option linter.unusedSimpArgs false
section
variable {B a m gW : Nat} {w0 w w' : World} {l l' : List OB} {mx mx' o : Int} {K : List (Nat × Obj)} {T : List OM} {x : OM} {id : Int} {wz pg : Bool}
end
section
variable {B a m gW : Nat} {w0 w w' : World} {l l' : List OB} {mx mx' o : Int} {K : List (Nat × Obj)} {x y : OB} {id : Int} {wz pg : Bool}
end
end Go.Proofs.YtnphgcbknfmapaaGreatDoor
namespace Go.Proofs.YtnphgcbknfmapaaGreatDoor
open Go.RowKit Go.Lib
set_option linter.unusedVariables false
set_option linter.unusedSimpArgs false
section
variable {B a m gW : Nat} {w0 w w' : World} {l l' : List OB} {mx mx' o : Int} {K : List (Nat × Obj)} {x y : OB} {id : Int} {wz pg : Bool}
theorem LS.neg (h : LS B w0 w a m l mx K) : getO l (-1) = none := by
  obtain ⟨T, ht, rfl, h0, hK⟩ := h
  exact getO_none' ht.tab.neg

end
end Go.Proofs.YtnphgcbknfmapaaGreatDoor
namespace Go.Proofs.YtnphgcbknfmapaaGreatDoor
open Go.RowKit Go.Lib
set_option linter.unusedVariables false
set_option linter.unusedSimpArgs false

theorem obj_psize : (Tryz.prog.info? 29).map (fun i => i.size) = some 10 := by kernel_rfl
theorem obj_ptr : Tryz.prog.underlying 81 = some (.pointer 29) := by kernel_rfl
theorem okS_del {l : List OB} {mx o : Int} (h : OkS l mx) (ho : hasO l o = true) (hk : kidsO l o = []) (hc : contO l o = []) : OkS (delO l o) mx := by
  have hkp : ∀ x ∈ l, x.parent ≠ o := fun x hx e => by
    have := kids_of hx e ho
    rw [hk] at this
    cases this
  have hkl : ∀ x ∈ l, x.place ≠ o := fun x hx e => by
    have := cont_of hx e ho
    rw [hc] at this
    cases this
  have hsub : ∀ x ∈ delO l o, x ∈ l := fun x hx => (mem_delO.1 hx).1
  refine ⟨?_, ?_, ?_, ?_, ?_, ?_, ?_, OkT.mx h⟩
  · have h1 : SortO (delO l o) := List.Pairwise.filter _ h.sortS
    unfold SortO at h1 ⊢
    rw [List.pairwise_map]
    exact h1
  · intro x hx
    obtain ⟨y, hy, rfl⟩ := List.mem_map.1 hx
    exact h.rngS (x := y) (hsub y hy)
  · intro x hx
    obtain ⟨y, hy, rfl⟩ := List.mem_map.1 hx
    exact ⟨rfl, rfl⟩
  · obtain ⟨rk, hr⟩ := h.acyP
    refine ⟨rk, fun x hx p hp e => ?_⟩
    obtain ⟨y, hy, rfl⟩ := List.mem_map.1 hx
    obtain ⟨q, hq, rfl⟩ := List.mem_map.1 hp
    exact hr y (hsub y hy) q (hsub q hq) e
  · obtain ⟨rk, hr⟩ := h.acyL
    refine ⟨rk, fun x hx p hp e => ?_⟩
    obtain ⟨y, hy, rfl⟩ := List.mem_map.1 hx
    obtain ⟨q, hq, rfl⟩ := List.mem_map.1 hp
    exact hr y (hsub y hy) q (hsub q hq) e
  · intro x hx
    obtain ⟨y, hy, rfl⟩ := List.mem_map.1 hx
    rcases h.par (hsub y hy) with h1 | h1
    · exact .inl h1
    · exact .inr (by rw [hasO_bare]; exact hasO_del.2 ⟨h1, hkp y (hsub y hy)⟩)
  · intro x hx
    obtain ⟨y, hy, rfl⟩ := List.mem_map.1 hx
    rcases h.plc (hsub y hy) with h1 | h1
    · exact .inl h1
    · exact .inr (by rw [hasO_bare]; exact hasO_del.2 ⟨h1, hkl y (hsub y hy)⟩)
theorem stS_drop {w w' : World} {B a m n : Nat} {T : List OM} {mx : Int} (h : TS w B a m T mx) (o : Int) (hmap : w'.ownsMap Tryz.prog 3 ptrR m n ((DataW.map (datT T)).del (.int .i64 o))) (hg : w.mapTurned w' m) (hok : OkS (delO (obT T) o) mx) : StS w w' B a m T (T.filter fun x => !(x.o.id == o)) mx mx := by
  have hgr := hg.grown
  refine ⟨⟨h.tab.drop o hmap fun b hb hn => hgr.block b hb fun e => hn (by injection e), by rw [obT_drop]; exact hok, fun x hx => h.flat x (List.mem_filter.1 hx).1, fun x hx => h.bare x (List.mem_filter.1 hx).1⟩, (Chg.of_grown hgr).mono fun i _ e => ?_, fun b hb => .inl ((blkT_filter _).subset hb)⟩
  rw [e]
  exact List.mem_cons_of_mem _ (List.mem_cons_self ..)

set_option maxRecDepth 100000 in
set_option maxHeartbeats 4000000 in
theorem recycle_S {w : World} {B a m : Nat} {T : List OM} {mx o : Int} (h : TS w B a m T mx) (ho : I64 o) {x0 : OM} (hx0 : findT T o = some x0) (hk : kidsO (obT T) o = []) (hc : contO (obT T) o = []) :
    Calls Tryz.prog 81 #[.pointer (some ⟨a, 0, none⟩), .int .i64 o] w fun e w' => e = .returned (.int .i64 0) ∧ ∃ T', StS w w' B a m T T' mx mx ∧ obT T' = delO (obT T) o := by
  have CK := Lib.hid (kids_c h.tab ho)
  rw [hk] at CK
  have CC := Lib.hid (fun W (hb : Below w.heap.size w W) => cont_c (h.tab.below hb) ho)
  rw [hc] at CC
  have c0 := h.tab.c0
  have hl := h.tab.look ho
  rw [ptrT_some hx0] at hl
  have HOK := Lib.hid (okS_del h.ok (findT_has hx0) hk hc)
  have H := Lib.hid h
  clear h hk hc hx0
  go_enter Tryz.func81, Tryz.ntmps81
  go_wp2_with fail
  refine CK.out.mono ?_
  rintro e w1 ⟨v, rfl, hrow, hb1⟩
  obtain ⟨A1, c1, rfl, _⟩ := own_formO hrow
  have HB1 := Lib.hid hb1
  clear hrow hb1 CK hl c0
  go_wp2_with fail
  refine wp_loop_rounds 1 ?_
  rw [rounds_succ]
  go_wp2_with fail
  refine (CC.out w1 HB1.out).mono ?_
  rintro e w2 ⟨v, rfl, hrow, hb2⟩
  obtain ⟨A2, c2, rfl, _⟩ := own_formO hrow
  have HB2 := Lib.hid (HB1.out.trans (hb2.mono HB1.out.size))
  have c0 := (H.out.tab.below HB2.out).c0
  have HOW := Lib.hid (H.out.tab.below HB2.out).map
  clear hrow hb2 CC
  go_wp2_with fail
  refine wp_loop_rounds 1 ?_
  rw [rounds_succ]
  go_wp2_with (refine wpList_delete_own _ rfl _ _ 82 3 rfl 81 tkeyed tmap ptrR m T.length (.map (datT T)) rfl HOW.out (.int .i64 o) (.int .i64 o) rfl (tkey_of ho) ?_
               intro w9 hown9 hturn9
               have HS := Lib.hid (stS_drop (H.out.keep HB2.out) o hown9 hturn9 HOK.out)
               clear hown9 hturn9)
  go_ret
  exact ⟨rfl, _, (StS.of_below H.out HB2.out).trans HS.out, obT_drop T o⟩
section
variable {B a m gW : Nat} {w0 w w' : World} {l l' : List OB} {mx mx' o : Int} {K : List (Nat × Obj)} {x y : OB} {id : Int} {wz pg : Bool}
theorem recycle_L (h : LS B w0 w a m l mx K) (ho : I64 o) (hx : getO l o = some x) (hk : kidsO l o = []) (hc : contO l o = []) :
    Calls Tryz.prog 81 #[.pointer (some ⟨a, 0, none⟩), .int .i64 o] w fun e w' => e = .returned (.int .i64 0) ∧ LS B w0 w' a m (delO l o) mx K := by
  obtain ⟨T, ht, rfl, h0, hK⟩ := h
  obtain ⟨y, hy, rfl⟩ := findT_of_getO hx
  refine (recycle_S ht ho hy hk hc).mono ?_
  rintro e w' ⟨rfl, T', hs, ho'⟩
  exact ⟨rfl, ls_step ht h0 hK hs ho'⟩
end
end Go.Proofs.YtnphgcbknfmapaaGreatDoor
