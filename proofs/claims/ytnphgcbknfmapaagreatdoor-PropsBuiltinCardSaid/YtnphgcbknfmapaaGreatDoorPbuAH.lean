/- Contracts of the functions that the statement reaches, and the plain mathematics beneath: several texts joined. -/
import Derived.Laws.AppendOwn
import Derived.Deep.AppendLies
import Derived.Test.YtnphgcbknfmapaaGreatDoorPbuAG
namespace Go.Proofs.YtnphgcbknfmapaaGreatDoor
open Go.RowKit Go.Lib
set_option linter.unusedVariables false
set_option linter.unusedSimpArgs false

section
variable {w : World} {B a m : Nat} {T : List OM} {mx o : Int} {x : OM}
set_option maxHeartbeats 2000000 in
theorem blt_name (h : TB w B a m T mx) (hx : findT T o = some x) :
    Calls Tryz.prog 60 #[.pointer (some ⟨a, 0, none⟩), .pointer (some ⟨x.g, 0, none⟩), .string ⟨#[110, 97, 109, 101]⟩] w fun e w' => e = .returned (.agg #[.int .i64 2, .int .i64 0, .string x.o.name, .slice none 0 0]) ∧ Below w.heap.size w w' := by
  have hob := h.tab.objs x (findT_some hx).1
  have hxz := hob.lt x.g (OM.mem_blocks.2 (.inl rfl))
  have hb1 : Below w.heap.size w (w.alloc (.cells #[.int .i64 0, .int .i64 0, .string ⟨#[]⟩, .slice none 0 0] 33)) := (Below.refl _ _).alloc (Nat.le_refl _) _
  have x1 : (w.alloc (.cells #[.int .i64 0, .int .i64 0, .string ⟨#[]⟩, .slice none 0 0] 33)).cell? ⟨x.g, 6, none⟩ = some (.string x.o.name) := (hb1.cell (p := ⟨x.g, 6, none⟩) hxz).trans (hob.cell 6)
  have HB1 := Lib.hid hb1
  clear h hx hob hb1
  go_enter Tryz.func60, Tryz.ntmps60
  go_wp2_with fail
  refine (valS_c x.o.name _).mono ?_
  rintro e w2 ⟨rfl, hb2⟩
  have HR2 := Lib.hid ((hb2.block w.heap.size (by simp)).trans (heap_alloc_new w _))
  have HB2 := Lib.hid (HB1.out.trans (hb2.mono HB1.out.size))
  have HROW := Lib.hid (setRow_heap w2 w.heap.size _ #[.int .i64 2, .int .i64 0, .string x.o.name, .slice none 0 0] _ _ HR2.out)
  have HBR := Lib.hid (sbelow_setRow HB2.out (g := w.heap.size) (Nat.le_refl _) #[.int .i64 2, .int .i64 0, .string x.o.name, .slice none 0 0])
  clear hb2
  go_wp2_with (refine wpList_store_row rfl 33 (.tmp 6) (.tmp 17) rfl w.heap.size #[.int .i64 2, .int .i64 0, .string x.o.name, .slice none 0 0] rfl rfl _ _ HR2.out (by kernel_rfl) rfl (by simp [Value.oneCell']) ?_)
  exact bodyPost_ret (results_cell_row (P := Tryz.prog) rfl _ _ w.heap.size _ _ _ _ rfl HROW.out Tryz.underlying33 rfl (by kernel_rfl)) rfl ⟨rfl, HBR.out⟩
set_option maxHeartbeats 2000000 in
theorem blt_owner (h : TB w B a m T mx) (hx : findT T o = some x) :
    Calls Tryz.prog 60 #[.pointer (some ⟨a, 0, none⟩), .pointer (some ⟨x.g, 0, none⟩), .string ⟨#[111, 119, 110, 101, 114]⟩] w fun e w' => e = .returned (.agg #[.int .i64 1, .int .i64 x.o.owner, .string ⟨#[]⟩, .slice none 0 0]) ∧ Below w.heap.size w w' := by
  have hob := h.tab.objs x (findT_some hx).1
  have hxz := hob.lt x.g (OM.mem_blocks.2 (.inl rfl))
  have hb1 : Below w.heap.size w (w.alloc (.cells #[.int .i64 0, .int .i64 0, .string ⟨#[]⟩, .slice none 0 0] 33)) := (Below.refl _ _).alloc (Nat.le_refl _) _
  have x1 : (w.alloc (.cells #[.int .i64 0, .int .i64 0, .string ⟨#[]⟩, .slice none 0 0] 33)).cell? ⟨x.g, 2, none⟩ = some (.int .i64 x.o.owner) := (hb1.cell (p := ⟨x.g, 2, none⟩) hxz).trans (hob.cell 2)
  have HB1 := Lib.hid hb1
  clear h hx hob hb1
  go_enter Tryz.func60, Tryz.ntmps60
  go_wp2_with fail
  refine (valO_c x.o.owner _).mono ?_
  rintro e w2 ⟨rfl, hb2⟩
  have HR2 := Lib.hid ((hb2.block w.heap.size (by simp)).trans (heap_alloc_new w _))
  have HB2 := Lib.hid (HB1.out.trans (hb2.mono HB1.out.size))
  have HROW := Lib.hid (setRow_heap w2 w.heap.size _ #[.int .i64 1, .int .i64 x.o.owner, .string ⟨#[]⟩, .slice none 0 0] _ _ HR2.out)
  have HBR := Lib.hid (sbelow_setRow HB2.out (g := w.heap.size) (Nat.le_refl _) #[.int .i64 1, .int .i64 x.o.owner, .string ⟨#[]⟩, .slice none 0 0])
  clear hb2
  go_wp2_with (refine wpList_store_row rfl 33 (.tmp 6) (.tmp 24) rfl w.heap.size #[.int .i64 1, .int .i64 x.o.owner, .string ⟨#[]⟩, .slice none 0 0] rfl rfl _ _ HR2.out (by kernel_rfl) rfl (by simp [Value.oneCell']) ?_)
  exact bodyPost_ret (results_cell_row (P := Tryz.prog) rfl _ _ w.heap.size _ _ _ _ rfl HROW.out Tryz.underlying33 rfl (by kernel_rfl)) rfl ⟨rfl, HBR.out⟩
set_option maxHeartbeats 2000000 in
theorem blt_loc (h : TB w B a m T mx) (hx : findT T o = some x) :
    Calls Tryz.prog 60 #[.pointer (some ⟨a, 0, none⟩), .pointer (some ⟨x.g, 0, none⟩), .string ⟨#[108, 111, 99, 97, 116, 105, 111, 110]⟩] w fun e w' => e = .returned (.agg #[.int .i64 1, .int .i64 x.o.place, .string ⟨#[]⟩, .slice none 0 0]) ∧ Below w.heap.size w w' := by
  have hob := h.tab.objs x (findT_some hx).1
  have hxz := hob.lt x.g (OM.mem_blocks.2 (.inl rfl))
  have hb1 : Below w.heap.size w (w.alloc (.cells #[.int .i64 0, .int .i64 0, .string ⟨#[]⟩, .slice none 0 0] 33)) := (Below.refl _ _).alloc (Nat.le_refl _) _
  have x1 : (w.alloc (.cells #[.int .i64 0, .int .i64 0, .string ⟨#[]⟩, .slice none 0 0] 33)).cell? ⟨x.g, 3, none⟩ = some (.int .i64 x.o.place) := (hb1.cell (p := ⟨x.g, 3, none⟩) hxz).trans (hob.cell 3)
  have HB1 := Lib.hid hb1
  clear h hx hob hb1
  go_enter Tryz.func60, Tryz.ntmps60
  go_wp2_with fail
  refine (valO_c x.o.place _).mono ?_
  rintro e w2 ⟨rfl, hb2⟩
  have HR2 := Lib.hid ((hb2.block w.heap.size (by simp)).trans (heap_alloc_new w _))
  have HB2 := Lib.hid (HB1.out.trans (hb2.mono HB1.out.size))
  have HROW := Lib.hid (setRow_heap w2 w.heap.size _ #[.int .i64 1, .int .i64 x.o.place, .string ⟨#[]⟩, .slice none 0 0] _ _ HR2.out)
  have HBR := Lib.hid (sbelow_setRow HB2.out (g := w.heap.size) (Nat.le_refl _) #[.int .i64 1, .int .i64 x.o.place, .string ⟨#[]⟩, .slice none 0 0])
  clear hb2
  go_wp2_with (refine wpList_store_row rfl 33 (.tmp 6) (.tmp 31) rfl w.heap.size #[.int .i64 1, .int .i64 x.o.place, .string ⟨#[]⟩, .slice none 0 0] rfl rfl _ _ HR2.out (by kernel_rfl) rfl (by simp [Value.oneCell']) ?_)
  exact bodyPost_ret (results_cell_row (P := Tryz.prog) rfl _ _ w.heap.size _ _ _ _ rfl HROW.out Tryz.underlying33 rfl (by kernel_rfl)) rfl ⟨rfl, HBR.out⟩
set_option maxRecDepth 100000 in
set_option maxHeartbeats 4000000 in
theorem blt_flag (h : TB w B a m T mx) (hx : findT T o = some x) (n : ByteArray) (hn : NotNm n) (q : Int) (CF : ∀ W, Calls Tryz.prog 101 #[.string n] W fun e w' => e = .returned (.int .i64 q) ∧ W = w') (hq : ¬ q = 0) (h0 : Go.bits .and .i64 0 q = 0) (h1 : Go.bits .and .i64 q q = q) (b : Bool) (hf : x.o.flags = if b then q else 0) :
    Calls Tryz.prog 60 #[.pointer (some ⟨a, 0, none⟩), .pointer (some ⟨x.g, 0, none⟩), .string n] w fun e w' => e = .returned (.agg #[.int .i64 0, .int .i64 (bI b), .string ⟨#[]⟩, .slice none 0 0]) ∧ Below w.heap.size w w' := by
  have hob := h.tab.objs x (findT_some hx).1
  have hxz := hob.lt x.g (OM.mem_blocks.2 (.inl rfl))
  obtain ⟨n1, n2, n3, n4⟩ := hn
  obtain ⟨fl, hfl⟩ : ∃ fl, fl = x.o.flags := ⟨_, rfl⟩
  have hAn : Go.bits .and .i64 fl q = fl := by rw [hfl, hf]; cases b <;> simp [h0, h1]
  have hz : (fl = 0 ∧ b = false) ∨ (¬ fl = 0 ∧ b = true) := by rw [hfl, hf]; cases b <;> simp [hq]
  obtain ⟨w1, hw1⟩ : ∃ w1, w1 = w.alloc (.cells #[.int .i64 0, .int .i64 0, .string ⟨#[]⟩, .slice none 0 0] 33) := ⟨_, rfl⟩
  have hb1 : Below w.heap.size w w1 := by rw [hw1]; exact (Below.refl _ _).alloc (Nat.le_refl _) _
  have hr1 : w1.heap[w.heap.size]? = some (.cells #[.int .i64 0, .int .i64 0, .string ⟨#[]⟩, .slice none 0 0] 33 (0, 0)) := by rw [hw1]; exact heap_alloc_new _ _
  have x4 : w1.cell? ⟨x.g, 4, none⟩ = some (.int .i64 fl) := by rw [hfl]; exact (hb1.cell (p := ⟨x.g, 4, none⟩) hxz).trans (hob.cell 4)
  have CFL := Lib.hid CF
  have HB1 := Lib.hid hb1
  have HR1 := Lib.hid hr1
  have HW1 := Lib.hid hw1
  have CI := Lib.hid (fun k W => valI_c k W)
  unfold intV at CI
  clear h hx hob hb1 hr1 CF hf hfl h0 h1 hw1
  go_enter Tryz.func60, Tryz.ntmps60
  go_upto_region 16 with fail
  rw [← HW1.out]
  refine wp_region_heldTo 7 (fun W => W.cell? ⟨x.g, 4, none⟩ = some (.int .i64 fl)) (by kernel_rfl) (by kernel_rfl) x4 (fun hSucc hHeld => ?_)
  refine heldTo_take (i := 0) (oi := _) (v := (.pointer (some ⟨x.g, 0, none⟩))) hSucc rfl (by kernel_rfl) (by kernel_rfl) (by kernel_rfl) (by kernel_rfl) rfl (fun _ _ _ h => h) (Or.inl ⟨by rfl, fun W hSw => ?_⟩) (by with_reducible assumption) ?_
  · (try dsimp only at hSw); go_simp
  change heldTo _ _ _ _ _ _ _ _ (Act.put _ (some 55) _) _
  simp only [Act.put, List.setIfInBounds_toArray, List.set_cons_zero, List.set_cons_succ]
  refine heldTo_take (i := 1) (oi := _) (v := (.pointer (some ⟨x.g, 0, none⟩))) hSucc rfl (by kernel_rfl) (by kernel_rfl) (by kernel_rfl) (by kernel_rfl) rfl (fun _ _ _ h => h) (Or.inl ⟨by rfl, fun W hSw => ?_⟩) (by with_reducible assumption) ?_
  · (try dsimp only at hSw); go_simp
  change heldTo _ _ _ _ _ _ _ _ (Act.put _ (some 56) _) _
  simp only [Act.put, List.setIfInBounds_toArray, List.set_cons_zero, List.set_cons_succ]
  refine heldTo_take (i := 2) (oi := _) (v := (.pointer (some ⟨x.g, 4, none⟩))) hSucc rfl (by kernel_rfl) (by kernel_rfl) (by kernel_rfl) (by kernel_rfl) rfl (fun _ _ _ h => h) (Or.inl ⟨by rfl, fun W hSw => ?_⟩) (by with_reducible assumption) ?_
  · (try dsimp only at hSw); go_simp
  change heldTo _ _ _ _ _ _ _ _ (Act.put _ (some 57) _) _
  simp only [Act.put, List.setIfInBounds_toArray, List.set_cons_zero, List.set_cons_succ]
  refine heldTo_take (i := 3) (oi := _) (v := (.int .i64 fl)) hSucc rfl (by kernel_rfl) (by kernel_rfl) (by kernel_rfl) (by kernel_rfl) rfl (fun _ _ _ h => h) (Or.inl ⟨by rfl, fun W hSw => ?_⟩) (by with_reducible assumption) ?_
  · (try dsimp only at hSw); go_simp
  change heldTo _ _ _ _ _ _ _ _ (Act.put _ (some 58) _) _
  simp only [Act.put, List.setIfInBounds_toArray, List.set_cons_zero, List.set_cons_succ]
  refine heldTo_take (i := 4) (oi := _) (v := (.string n)) hSucc rfl (by kernel_rfl) (by kernel_rfl) (by kernel_rfl) (by kernel_rfl) rfl (fun _ _ _ h => h) (Or.inl ⟨by rfl, fun W hSw => ?_⟩) (by with_reducible assumption) ?_
  · (try dsimp only at hSw); go_simp
  change heldTo _ _ _ _ _ _ _ _ (Act.put _ (some 59) _) _
  simp only [Act.put, List.setIfInBounds_toArray, List.set_cons_zero, List.set_cons_succ]
  refine heldTo_one (i := 5) (o := _) (by kernel_rfl) rfl (fun K hK => ?_)
  go_simp
  go_at_call 101
  refine (CFL.out _).mono ?_
  rintro e w7 ⟨rfl, rfl⟩
  refine hK.out _ _ hHeld (fun hHeld => ?_)
  clear hK K
  refine heldTo_take (i := 6) (oi := _) (v := (.int .i64 fl)) hSucc rfl (by kernel_rfl) (by kernel_rfl) (by kernel_rfl) (by kernel_rfl) rfl (fun _ _ _ h => h) (Or.inl ⟨by rfl, fun W hSw => ?_⟩) (by with_reducible assumption) ?_
  · (try dsimp only at hSw); go_simp
  change heldTo _ _ _ _ _ _ _ _ (Act.put _ (some 61) _) _
  simp only [Act.put, List.setIfInBounds_toArray, List.set_cons_zero, List.set_cons_succ]
  refine heldTo_last (o := _) (by kernel_rfl) rfl (fun K hK => ?_)
  go_simp
  refine hK.out _ _ ?_
  clear hK K hHeld
  refine heldTo_done (by kernel_rfl) ?_ _
  rcases hz with ⟨rfl, rfl⟩ | ⟨hz, rfl⟩
  · go_wp2_with fail
    refine (CI.out 0 _).mono ?_
    rintro e w2 ⟨rfl, hb2⟩
    have hb3 : Below w1.heap.size w1 w2 := ((Below.refl w1.heap.size w1).drew).trans hb2
    have HR2 := Lib.hid ((hb3.block w.heap.size (Array.getElem?_eq_some_iff.1 HR1.out).1).trans HR1.out)
    have HB2 := Lib.hid (HB1.out.trans (hb3.mono HB1.out.size))
    have HROW := Lib.hid (setRow_heap w2 w.heap.size _ #[.int .i64 0, .int .i64 0, .string ⟨#[]⟩, .slice none 0 0] _ _ HR2.out)
    have HBR := Lib.hid (sbelow_setRow HB2.out (g := w.heap.size) (Nat.le_refl _) #[.int .i64 0, .int .i64 0, .string ⟨#[]⟩, .slice none 0 0])
    clear hb2 hb3
    go_wp2_with (refine wpList_store_row rfl 33 (.tmp 6) (.tmp 64) rfl w.heap.size #[.int .i64 0, .int .i64 0, .string ⟨#[]⟩, .slice none 0 0] rfl rfl _ _ HR2.out (by kernel_rfl) rfl (by simp [Value.oneCell']) ?_)
    exact bodyPost_ret (results_cell_row (P := Tryz.prog) rfl _ _ w.heap.size _ _ _ _ rfl HROW.out Tryz.underlying33 rfl (by kernel_rfl)) rfl ⟨rfl, HBR.out⟩
  · go_wp2_with fail
    refine (CI.out 1 _).mono ?_
    rintro e w2 ⟨rfl, hb2⟩
    have hb3 : Below w1.heap.size w1 w2 := ((Below.refl w1.heap.size w1).drew).trans hb2
    have HR2 := Lib.hid ((hb3.block w.heap.size (Array.getElem?_eq_some_iff.1 HR1.out).1).trans HR1.out)
    have HB2 := Lib.hid (HB1.out.trans (hb3.mono HB1.out.size))
    have HROW := Lib.hid (setRow_heap w2 w.heap.size _ #[.int .i64 0, .int .i64 1, .string ⟨#[]⟩, .slice none 0 0] _ _ HR2.out)
    have HBR := Lib.hid (sbelow_setRow HB2.out (g := w.heap.size) (Nat.le_refl _) #[.int .i64 0, .int .i64 1, .string ⟨#[]⟩, .slice none 0 0])
    clear hb2 hb3
    go_wp2_with (refine wpList_store_row rfl 33 (.tmp 6) (.tmp 63) rfl w.heap.size #[.int .i64 0, .int .i64 1, .string ⟨#[]⟩, .slice none 0 0] rfl rfl _ _ HR2.out (by kernel_rfl) rfl (by simp [Value.oneCell']) ?_)
    exact bodyPost_ret (results_cell_row (P := Tryz.prog) rfl _ _ w.heap.size _ _ _ _ rfl HROW.out Tryz.underlying33 rfl (by kernel_rfl)) rfl ⟨rfl, HBR.out⟩
theorem val_info : (Tryz.prog.info? 33).map (fun i => (i.zero, i.size, i.bytes)) = some (some (.agg #[.int .i64 0, .int .i64 0, .string ⟨#[]⟩, .slice none 0 0]), 4, 56) := by kernel_rfl
theorem news4 (w : World) (a b c d : Value) (T : Nat) : ∀ j u, [a, b, c, d][j]? = some u → (w.alloc (.cells #[a, b, c, d] T)).cell? ((⟨w.heap.size, 0, none⟩ : Addr).add j) = some u :=
  World.news_of_block (cs := #[a, b, c, d]) (heap_alloc_new w _)
theorem one4 (a b : Int) (s : ByteArray) : ∀ u ∈ [Value.int .i64 a, .int .i64 b, .string s, .slice none 0 0], u.oneCell' = true := by
  intro u hu; simp at hu; rcases hu with rfl | rfl | rfl | rfl <;> rfl
set_option maxRecDepth 100000 in
set_option maxHeartbeats 4000000 in
theorem blt_cont (h : TB w B a m T mx) (ho : I64 o) (hx : findT T o = some x) {c : Int} (hc : contO (obT T) o = [c]) :
    Calls Tryz.prog 60 #[.pointer (some ⟨a, 0, none⟩), .pointer (some ⟨x.g, 0, none⟩), .string ⟨#[99, 111, 110, 116, 101, 110, 116, 115]⟩] w fun e w' => ∃ g cap, e = .returned (.agg #[.int .i64 4, .int .i64 0, .string ⟨#[]⟩, .slice (some ⟨g, 0, none⟩) 1 cap]) ∧ w'.ownsRow w.heap.size 33 4 (.slice (some ⟨g, 0, none⟩) 1 cap) 1 [.int .i64 1, .int .i64 c, .string ⟨#[]⟩, .slice none 0 0] ∧ Below w.heap.size w w' := by
  have hob := h.tab.objs x (findT_some hx).1
  have hxz := hob.lt x.g (OM.mem_blocks.2 (.inl rfl))
  obtain ⟨w2, hw2⟩ : ∃ w2, w2 = (w.alloc (.cells #[.int .i64 0, .int .i64 0, .string ⟨#[]⟩, .slice none 0 0] 33)).alloc (.cells #[.int .i64 4, .int .i64 0, .string ⟨#[]⟩, .slice none 0 0] 33) := ⟨_, rfl⟩
  have hb2 : Below w.heap.size w w2 := by rw [hw2]; exact ((Below.refl _ _).alloc (Nat.le_refl _) _).alloc (by simp) _
  have hz2 : w2.heap.size = w.heap.size + 2 := by rw [hw2]; simp
  have hr0 : w2.heap[w.heap.size]? = some (.cells #[.int .i64 0, .int .i64 0, .string ⟨#[]⟩, .slice none 0 0] 33 (0, 0)) := by rw [hw2]; exact (Below.heap_alloc _ _ _ (by simp)).trans (heap_alloc_new w _)
  have hr1 : w2.heap[w.heap.size + 1]? = some (.cells #[.int .i64 4, .int .i64 0, .string ⟨#[]⟩, .slice none 0 0] 33 (0, 0)) := by rw [hw2]; exact heap_alloc2_new _ _ _
  have x0 : w2.cell? ⟨x.g, 0, none⟩ = some (.int .i64 o) := by rw [← (findT_some hx).2]; exact (hb2.cell (p := ⟨x.g, 0, none⟩) hxz).trans (hob.cell 0)
  have CC := Lib.hid (cont_c (h.tab.below hb2) ho)
  rw [hc] at CC
  obtain ⟨i1, hi1, hq0, hq1, hq2⟩ := info_parts val_info
  have HB2 := Lib.hid hb2
  have HR0 := Lib.hid hr0
  have HR1 := Lib.hid hr1
  have HW2 := Lib.hid hw2
  have HZ2 := Lib.hid hz2
  rw [hw2] at x0
  clear h hx hob hb2 hr0 hr1 hw2 hz2 hc
  go_enter Tryz.func60, Tryz.ntmps60
  go_wp2_with fail
  rw [← HW2.out]
  refine CC.out.mono ?_
  rintro e w3 ⟨V, rfl, hrow, hb3⟩
  obtain ⟨A, c0, rfl, hnc, hcm, hA, hcell⟩ := own_formO hrow
  obtain ⟨g1, rfl, hc1⟩ := hcell 0 (.int .i64 c) rfl
  have hr3 := (hb3.block (w.heap.size + 1) (by rw [HZ2.out]; omega)).trans HR1.out
  have hr30 := (hb3.block w.heap.size (by rw [HZ2.out]; omega)).trans HR0.out
  have HR3 := Lib.hid hr3
  have HR30 := Lib.hid hr30
  have hz3 : w.heap.size + 2 ≤ w3.heap.size := by have := hb3.size; have := HZ2.out; omega
  have HZ3 := Lib.hid hz3
  have HB3 := Lib.hid (HB2.out.trans (hb3.mono HB2.out.size))
  have CO := Lib.hid (fun W => valO_c c W)
  have KS := Lib.hid (show ∀ W : World, W.heap[w.heap.size + 1]? = w3.heap[w.heap.size + 1]? → (fun W => W.cell? ⟨w.heap.size + 1, 3, none⟩ = some (.slice none 0 0)) W from fun W hW => cell_of_row W (w.heap.size + 1) 3 _ _ _ (hW.trans HR3.out))
  unfold maxLen at hcm
  clear hr3 hr30 hrow hcell hb3 x0 CC hz3
  go_wp2_with fail
  refine wp_loop_rounds 2 ?_
  rw [rounds_succ]
  go_upto_region 13 with fail
  refine wp_region_heldTo 7 (fun W => W.cell? ⟨w.heap.size + 1, 3, none⟩ = some (.slice none 0 0)) (by kernel_rfl) (by kernel_rfl) (KS.out _ rfl) (fun hSucc hHeld => ?_)
  refine heldTo_take (i := 0) (oi := _) (v := (.pointer (some ⟨w.heap.size + 1, 3, none⟩))) hSucc rfl (by kernel_rfl) (by kernel_rfl) (by kernel_rfl) (by kernel_rfl) rfl (fun _ _ _ h => h) (Or.inl ⟨by rfl, fun W hSw => ?_⟩) (by with_reducible assumption) ?_
  · (try dsimp only at hSw); go_simp
  change heldTo _ _ _ _ _ _ _ _ (Act.put _ (some 46) _) _
  simp only [Act.put, List.setIfInBounds_toArray, List.set_cons_zero, List.set_cons_succ]
  refine heldTo_take (i := 1) (oi := _) (v := (.slice none 0 0)) hSucc rfl (by kernel_rfl) (by kernel_rfl) (by kernel_rfl) (by kernel_rfl) rfl (fun _ _ _ h => h) (Or.inl ⟨by rfl, fun W hSw => ?_⟩) (by with_reducible assumption) ?_
  · (try dsimp only at hSw); go_simp
  change heldTo _ _ _ _ _ _ _ _ (Act.put _ (some 47) _) _
  simp only [Act.put, List.setIfInBounds_toArray, List.set_cons_zero, List.set_cons_succ]
  refine heldTo_take (i := 2) (oi := _) (v := (.int .i64 c)) hSucc rfl (by kernel_rfl) (by kernel_rfl) (by kernel_rfl) (by kernel_rfl) rfl (fun _ _ _ h => h) (Or.inl ⟨by rfl, fun W hSw => ?_⟩) (by with_reducible assumption) ?_
  · (try dsimp only at hSw); go_simp
  change heldTo _ _ _ _ _ _ _ _ (Act.put _ (some 48) _) _
  simp only [Act.put, List.setIfInBounds_toArray, List.set_cons_zero, List.set_cons_succ]
  refine heldTo_one (i := 3) (o := _) (by kernel_rfl) rfl (fun K hK => ?_)
  go_simp
  go_at_call 23
  refine (CO.out _).mono ?_
  rintro e w8 ⟨rfl, hb8⟩
  have HB8 := Lib.hid (show Below w3.heap.size w3 w8 from ((Below.refl w3.heap.size w3).drew).trans hb8)
  clear hb8 hHeld
  refine hK.out _ _ (KS.out _ (HB8.out.block _ (by have := HZ3.out; omega))) (fun hHeld => ?_)
  clear hK K
  refine heldTo_one (i := 4) (o := _) (by kernel_rfl) rfl (fun K hK => ?_)
  go_simp
  clear hHeld
  refine hK.out _ _ (KS.out _ ((HB8.out.alloc HB8.out.size _).block _ (by have := HZ3.out; omega))) (fun hHeld => ?_)
  clear hK K
  refine heldTo_one (i := 5) (o := _) (by kernel_rfl) rfl (fun K hK => ?_)
  refine step_append_lies _ (by rfl) (.tmp 47) (.tmp 50) 31 (by rfl) w3.heap.size 33 i1 _ 4 56 Tryz.underlying31 hi1 hq0 hq1 hq2 rfl (by decide) (.slice none 0 0) 0 [] (by rfl) (World.ownsRow_nil _ _ _ _) ⟨w8.heap.size, 0, none⟩ 1 1 [.int .i64 1, .int .i64 c, .string ⟨#[]⟩, .slice none 0 0] (by rfl) rfl (news4 _ _ _ _ _ _) (one4 _ _ _) (by decide) (by decide) (by decide) (by have := HB8.out.size; simp; omega) _ rfl ?_
  intro g9 cap w9 hown9 hg9 hat hlt9
  have hb9 : ∀ b, b < w3.heap.size → w9.heap[b]? = w3.heap[b]? := fun b hb => (hg9.block b (by have := HB8.out.size; simp; omega) (by simp [Value.ownBlock])).trans ((HB8.out.alloc HB8.out.size _).block b hb)
  have hr9 := (hb9 (w.heap.size + 1) (by have := HZ3.out; omega)).trans HR3.out
  have k9 : w9.cell? ⟨w.heap.size + 1, 3, none⟩ = some (.slice none 0 0) := cell_of_row w9 (w.heap.size + 1) 3 _ _ _ hr9
  have f9 : w9.frozen? ⟨w.heap.size + 1, 3, none⟩ = false := frozen_of_row w9 (w.heap.size + 1) 3 _ _ hr9
  clear hHeld
  refine hK.out _ _ (KS.out _ (hb9 _ (by have := HZ3.out; omega))) (fun hHeld => ?_)
  clear hK K
  refine heldTo_take (i := 6) (oi := _) (v := (.pointer (some ⟨w.heap.size + 1, 3, none⟩))) hSucc rfl (by kernel_rfl) (by kernel_rfl) (by kernel_rfl) (by kernel_rfl) rfl (fun _ _ _ h => h) (Or.inl ⟨by rfl, fun W hSw => ?_⟩) (by with_reducible assumption) ?_
  · (try dsimp only at hSw); go_simp
  change heldTo _ _ _ _ _ _ _ _ (Act.put _ (some 52) _) _
  simp only [Act.put, List.setIfInBounds_toArray, List.set_cons_zero, List.set_cons_succ]
  refine heldTo_last (o := _) (by kernel_rfl) rfl (fun K hK => ?_)
  go_simp
  refine hK.out _ _ ?_
  clear hK K hHeld
  refine heldTo_done (by kernel_rfl) ?_ _
  have hk10 : ∀ b, b < w3.heap.size → b ≠ w.heap.size + 1 → (w9.setCell ⟨w.heap.size + 1, 3, none⟩ (.slice (some ⟨g9, 0, none⟩) 1 cap)).heap[b]? = w3.heap[b]? := fun b hb hn => (Below.heap_setCell _ _ _ _ hn).trans (hb9 b hb)
  have hr10 := heap_setCell_same w9 (w.heap.size + 1) 3 _ _ (.slice (some ⟨g9, 0, none⟩) 1 cap) hr9
  have z0 := cell_of_row _ (w.heap.size + 1) 0 _ _ _ hr10
  have z1 := cell_of_row _ (w.heap.size + 1) 1 _ _ _ hr10
  have z2 := cell_of_row _ (w.heap.size + 1) 2 _ _ _ hr10
  have z3 := cell_of_row _ (w.heap.size + 1) 3 _ _ _ hr10
  have HR6 := Lib.hid ((hk10 w.heap.size (by have := HZ3.out; omega) (by omega)).trans HR30.out)
  have HROW := Lib.hid (setRow_heap _ w.heap.size _ #[.int .i64 4, .int .i64 0, .string ⟨#[]⟩, .slice (some ⟨g9, 0, none⟩) 1 cap] _ _ HR6.out)
  have hb9w : Below w.heap.size w w9 := (HB3.out.trans ((HB8.out.alloc HB8.out.size _).mono HB3.out.size)).grown hg9 (by have := HB8.out.size; have := HB3.out.size; simp; omega) (fun k hk => by cases hk)
  have HBR := Lib.hid (sbelow_setRow (hb9w.setCell (p := ⟨w.heap.size + 1, 3, none⟩) (Nat.le_succ _) (.slice (some ⟨g9, 0, none⟩) 1 cap)) (g := w.heap.size) (Nat.le_refl _) #[.int .i64 4, .int .i64 0, .string ⟨#[]⟩, .slice (some ⟨g9, 0, none⟩) 1 cap])
  have hg9l := (hown9.lt g9 rfl).1
  have HOWN := Lib.hid (ownsRow_baseN (b' := w.heap.size) (ownsRow_same (w' := (w9.setCell ⟨w.heap.size + 1, 3, none⟩ (.slice (some ⟨g9, 0, none⟩) 1 cap)).setRow w.heap.size #[.int .i64 4, .int .i64 0, .string ⟨#[]⟩, .slice (some ⟨g9, 0, none⟩) 1 cap]) hown9 (fun b hb => by
    injection hb with hb
    subst hb
    have := HZ3.out
    exact (setRow_other _ w.heap.size g9 _ (by omega)).trans (Below.heap_setCell _ _ _ _ (by show g9 ≠ w.heap.size + 1; omega)))) (by have := HZ3.out; omega))
  clear hr10 hr9 hb9 hk10 hown9 hg9 k9 f9 hb9w
  go_wp2_with fail
  rw [rounds_succ]
  go_wp2_with (refine wpList_store_row rfl 33 (.tmp 6) (.tmp 54) rfl w.heap.size #[.int .i64 4, .int .i64 0, .string ⟨#[]⟩, .slice (some ⟨g9, 0, none⟩) 1 cap] rfl rfl _ _ HR6.out (by kernel_rfl) rfl (by simp [Value.oneCell']) ?_)
  exact bodyPost_ret (results_cell_row (P := Tryz.prog) rfl _ _ w.heap.size _ _ _ _ rfl HROW.out Tryz.underlying33 rfl (by kernel_rfl)) rfl ⟨g9, cap, rfl, HOWN.out, HBR.out⟩
/-- props.Get, out of props.builtin, for a name that each object has. -/
theorem get_via (h : TB w B a m T mx) (ho : I64 o) (hx : findT T o = some x) (n : ByteArray) (hi : biB n = true) (k v : Int) (s : ByteArray) {R : World → World → Option Addr → Nat → Nat → Prop} (CP : ∀ W, Below w.heap.size w W → Calls Tryz.prog 60 #[.pointer (some ⟨a, 0, none⟩), .pointer (some ⟨x.g, 0, none⟩), .string n] W fun e w' => ∃ A k1 c1, e = .returned (.agg #[.int .i64 k, .int .i64 v, .string s, .slice A k1 c1]) ∧ Below W.heap.size W w' ∧ R W w' A k1 c1) :
    Calls Tryz.prog 21 #[.pointer (some ⟨a, 0, none⟩), .int .i64 o, .string n] w fun e w' => ∃ A k1 c1, e = .returned (.tuple #[.agg #[.int .i64 k, .int .i64 v, .string s, .slice A k1 c1], .int .i64 0]) ∧ Below w.heap.size w w' ∧ ∃ W W2, Below w.heap.size w W ∧ w.heap.size < W.heap.size ∧ R W W2 A k1 c1 ∧ ∀ b, b ≠ w.heap.size → w'.heap[b]? = W2.heap[b]? := by
  have hb0 : Below w.heap.size w (w.alloc (.cells #[.int .i64 0, .int .i64 0, .string ⟨#[]⟩, .slice none 0 0] 33)) := (Below.refl _ _).alloc (Nat.le_refl _) _
  have CR := Lib.hid (ref_c (h.tab.below hb0) ho)
  rw [ptrT_some hx] at CR
  have CB := Lib.hid (fun W => pbuiltin_c n W)
  rw [hi] at CB
  have CPH := Lib.hid CP
  have HB0 := Lib.hid hb0
  clear h hx hb0 CP hi
  go_enter Tryz.func21, Tryz.ntmps21
  go_wp2_with fail
  refine CR.out.mono ?_
  rintro e w1 ⟨rfl, rfl⟩
  go_wp2_with fail
  refine (CB.out _).mono ?_
  rintro e w2 ⟨rfl, hb2⟩
  have hr2 := (hb2.block w.heap.size (by simp)).trans (heap_alloc_new w _)
  have hz2 : w.heap.size < w2.heap.size := (Array.getElem?_eq_some_iff.1 hr2).1
  have HB2 := Lib.hid (HB0.out.trans (hb2.mono HB0.out.size))
  have HR2 := Lib.hid hr2
  have HZ2 := Lib.hid hz2
  clear hb2 hr2 hz2 CR CB
  go_wp2_with fail
  refine (CPH.out _ HB2.out).mono ?_
  rintro e w3 ⟨A, k1, c1, rfl, hb3, hR⟩
  have HR3 := Lib.hid ((hb3.block w.heap.size HZ2.out).trans HR2.out)
  have HB3 := Lib.hid (HB2.out.trans (hb3.mono HB2.out.size))
  have HRR := Lib.hid hR
  have HROW := Lib.hid (setRow_heap w3 w.heap.size _ #[.int .i64 k, .int .i64 v, .string s, .slice A k1 c1] _ _ HR3.out)
  have HBR := Lib.hid (sbelow_setRow HB3.out (g := w.heap.size) (Nat.le_refl _) #[.int .i64 k, .int .i64 v, .string s, .slice A k1 c1])
  clear hb3 hR
  go_wp2_with (refine wpList_store_row rfl 33 (.tmp 6) (.tmp 25) rfl w.heap.size #[.int .i64 k, .int .i64 v, .string s, .slice A k1 c1] rfl rfl _ _ HR3.out (by kernel_rfl) rfl (by simp [Value.oneCell']) ?_)
  exact bodyPost_ret (results_rowP (P := Tryz.prog) rfl _ _ w.heap.size _ _ _ _ rfl HROW.out Tryz.underlying33 rfl (by kernel_rfl)) rfl ⟨A, k1, c1, rfl, HBR.out, _, _, HB2.out, HZ2.out, HRR.out, fun b hb => setRow_other _ _ _ _ hb⟩
end
end Go.Proofs.YtnphgcbknfmapaaGreatDoor
