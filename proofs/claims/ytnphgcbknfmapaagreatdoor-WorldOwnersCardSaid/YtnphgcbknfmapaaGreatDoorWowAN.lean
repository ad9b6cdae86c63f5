/- Contracts of the functions that the statement reaches, and the plain mathematics beneath: several texts joined. -/
import Derived.Test.YtnphgcbknfmapaaGreatDoorWowAM
import Derived.Test.YtnphgcbknfmapaaGreatDoorWowAL
namespace Go.Proofs.YtnphgcbknfmapaaGreatDoor
open Go.RowKit Go.Lib
set_option linter.unusedVariables false
set_option linter.unusedSimpArgs false
section
variable {B a m gW : Nat} {w0 w w' : World} {l l' : List OB} {mx mx' o : Int} {K : List (Nat × Obj)} {x : OB} {id : Int} {wz pg : Bool}
set_option maxRecDepth 100000 in
set_option maxHeartbeats 2000000 in
theorem waddp_c (h : LS B w0 w a m l mx K) (hW : WK gW a ∈ K) (ho : I64 o) (hx : getO l o = some x) (n : ByteArray) (bits v : Int) (hn : n.size ≤ 140737488351232) (hb : nmB n.data.toList = true) (hi : biB n = false) (hs : slotI x.slots n = none)
    (hr : belowO l o = some [o]) {t : SL} (hsl : x.slots = [t]) (hfl : FlatS ⟨n, id, bits, false, 0, v, ⟨#[]⟩⟩) (hlt : Op.bytesLess n.toList t.name.toList = true)
    (how : I64 id) (hoh : hasO l id = true) (hb0 : 0 ≤ bits) (hb7 : bits ≤ 7) (hdf : x.defs = []) (hc : (ownB id wz x.owner || (Go.bits .and .i64 x.flags 16 != 0)) = true) :
    Calls Tryz.prog 33 #[.pointer (some ⟨gW, 0, none⟩), .agg #[.int .i64 id, .bool wz, .bool pg], .int .i64 o, addV n id bits v] w fun e w' => e = .returned (.int .i64 0) ∧ LS B w0 w' a m (repO l o { x with defs := [n], slots := [⟨n, id, bits, false, 0, v, ⟨#[]⟩⟩, t] }) mx K := by
  obtain ⟨w3, hw3⟩ : ∃ w3, w3 = (w.alloc (.cells #[.int .i64 id, .bool wz, .bool pg] 71)).alloc (.cells #[.string n, .int .i64 id, .int .i64 bits, .bool false, .int .i64 0, .int .i64 v, .string ⟨#[]⟩, .slice none 0 0] 35) := ⟨_, rfl⟩
  have hb3 : Below w.heap.size w w3 := by rw [hw3]; exact ((Below.refl _ _).alloc (Nat.le_refl _) _).alloc (by simp) _
  have hz3 : w3.heap.size = w.heap.size + 2 := by rw [hw3]; simp
  have g4 : w3.heap[w.heap.size]? = some (.cells #[.int .i64 id, .bool wz, .bool pg] 71 (0, 0)) := by
    rw [hw3]
    exact (Below.heap_alloc _ _ _ (by simp)).trans (heap_alloc_new w _)
  have g5 : w3.heap[w.heap.size + 1]? = some (.cells #[.string n, .int .i64 id, .int .i64 bits, .bool false, .int .i64 0, .int .i64 v, .string ⟨#[]⟩, .slice none 0 0] 35 (0, 0)) := by
    rw [hw3]
    exact heap_alloc2_new w _ _
  have h3 := h.below hb3
  have k3 := h3.wk hW
  obtain ⟨g, A1, c1, A2, c2, hg, hR, hC⟩ := ref_B h3 ho hx
  have CR := Lib.hid (hR w3 (Below.refl _ _))
  have KS : ∀ W, Below w3.heap.size w3 W → (fun W => W.cell? ⟨g, 0, none⟩ = some (.int .i64 x.id) ∧ W.cell? ⟨g, 1, none⟩ = some (.int .i64 x.parent) ∧ W.cell? ⟨g, 2, none⟩ = some (.int .i64 x.owner) ∧ W.cell? ⟨g, 3, none⟩ = some (.int .i64 x.place) ∧ W.cell? ⟨g, 4, none⟩ = some (.int .i64 x.flags) ∧ W.cell? ⟨g, 5, none⟩ = some (.int .i64 x.quota) ∧ W.cell? ⟨g, 6, none⟩ = some (.string x.name) ∧ W.cell? ⟨g, 7, none⟩ = some (.slice A1 x.defs.length c1) ∧ W.cell? ⟨g, 8, none⟩ = some (.slice A2 x.slots.length c2) ∧ W.cell? ⟨g, 9, none⟩ = some (.slice none 0 0) ∧ W.cell? ⟨w.heap.size, 0, none⟩ = some (.int .i64 id) ∧ W.cell? ⟨w.heap.size, 1, none⟩ = some (.bool wz) ∧ W.cell? ⟨w.heap.size, 2, none⟩ = some (.bool pg) ∧ W.cell? ⟨w.heap.size + 1, 1, none⟩ = some (.int .i64 id) ∧ Below w3.heap.size w3 W) W := fun W hW => ⟨hC W hW 0, hC W hW 1, hC W hW 2, hC W hW 3, hC W hW 4, hC W hW 5, hC W hW 6, hC W hW 7, hC W hW 8, hC W hW 9, cell_of_row W _ 0 _ _ _ ((hW.block _ (by omega)).trans g4), cell_of_row W _ 1 _ _ _ ((hW.block _ (by omega)).trans g4), cell_of_row W _ 2 _ _ _ ((hW.block _ (by omega)).trans g4), cell_of_row W _ 1 _ _ _ ((hW.block _ (by omega)).trans g5), hW⟩
  have C1 := Lib.hid (show ∀ W, (fun W => W.cell? ⟨g, 0, none⟩ = some (.int .i64 x.id) ∧ W.cell? ⟨g, 1, none⟩ = some (.int .i64 x.parent) ∧ W.cell? ⟨g, 2, none⟩ = some (.int .i64 x.owner) ∧ W.cell? ⟨g, 3, none⟩ = some (.int .i64 x.place) ∧ W.cell? ⟨g, 4, none⟩ = some (.int .i64 x.flags) ∧ W.cell? ⟨g, 5, none⟩ = some (.int .i64 x.quota) ∧ W.cell? ⟨g, 6, none⟩ = some (.string x.name) ∧ W.cell? ⟨g, 7, none⟩ = some (.slice A1 x.defs.length c1) ∧ W.cell? ⟨g, 8, none⟩ = some (.slice A2 x.slots.length c2) ∧ W.cell? ⟨g, 9, none⟩ = some (.slice none 0 0) ∧ W.cell? ⟨w.heap.size, 0, none⟩ = some (.int .i64 id) ∧ W.cell? ⟨w.heap.size, 1, none⟩ = some (.bool wz) ∧ W.cell? ⟨w.heap.size, 2, none⟩ = some (.bool pg) ∧ W.cell? ⟨w.heap.size + 1, 1, none⟩ = some (.int .i64 id) ∧ Below w3.heap.size w3 W) W → Calls Tryz.prog 74 #[.agg #[.int .i64 id, .bool wz, .bool pg], .int .i64 3, .agg #[.int .i64 x.id, .int .i64 x.parent, .int .i64 x.owner, .int .i64 x.place, .int .i64 x.flags, .int .i64 x.quota, .string x.name, .slice A1 x.defs.length c1, .slice A2 x.slots.length c2, .slice none 0 0]] W fun e w' => e = .returned (.bool true) ∧ (fun W => W.cell? ⟨g, 0, none⟩ = some (.int .i64 x.id) ∧ W.cell? ⟨g, 1, none⟩ = some (.int .i64 x.parent) ∧ W.cell? ⟨g, 2, none⟩ = some (.int .i64 x.owner) ∧ W.cell? ⟨g, 3, none⟩ = some (.int .i64 x.place) ∧ W.cell? ⟨g, 4, none⟩ = some (.int .i64 x.flags) ∧ W.cell? ⟨g, 5, none⟩ = some (.int .i64 x.quota) ∧ W.cell? ⟨g, 6, none⟩ = some (.string x.name) ∧ W.cell? ⟨g, 7, none⟩ = some (.slice A1 x.defs.length c1) ∧ W.cell? ⟨g, 8, none⟩ = some (.slice A2 x.slots.length c2) ∧ W.cell? ⟨g, 9, none⟩ = some (.slice none 0 0) ∧ W.cell? ⟨w.heap.size, 0, none⟩ = some (.int .i64 id) ∧ W.cell? ⟨w.heap.size, 1, none⟩ = some (.bool wz) ∧ W.cell? ⟨w.heap.size, 2, none⟩ = some (.bool pg) ∧ W.cell? ⟨w.heap.size + 1, 1, none⟩ = some (.int .i64 id) ∧ Below w3.heap.size w3 W) w' from fun W hS => (pobj3_c (id := id) (wz := wz) (pg := pg) (A1 := A1) (A2 := A2) (n1 := x.defs.length) (n2 := x.slots.length) (c1 := c1) (c2 := c2) x W hc).mono (by rintro e w' ⟨rfl, hb⟩; exact ⟨rfl, KS _ (hS.2.2.2.2.2.2.2.2.2.2.2.2.2.2.trans (hb.mono hS.2.2.2.2.2.2.2.2.2.2.2.2.2.2.size))⟩))
  have K0 : (fun W => W.cell? ⟨g, 0, none⟩ = some (.int .i64 x.id) ∧ W.cell? ⟨g, 1, none⟩ = some (.int .i64 x.parent) ∧ W.cell? ⟨g, 2, none⟩ = some (.int .i64 x.owner) ∧ W.cell? ⟨g, 3, none⟩ = some (.int .i64 x.place) ∧ W.cell? ⟨g, 4, none⟩ = some (.int .i64 x.flags) ∧ W.cell? ⟨g, 5, none⟩ = some (.int .i64 x.quota) ∧ W.cell? ⟨g, 6, none⟩ = some (.string x.name) ∧ W.cell? ⟨g, 7, none⟩ = some (.slice A1 x.defs.length c1) ∧ W.cell? ⟨g, 8, none⟩ = some (.slice A2 x.slots.length c2) ∧ W.cell? ⟨g, 9, none⟩ = some (.slice none 0 0) ∧ W.cell? ⟨w.heap.size, 0, none⟩ = some (.int .i64 id) ∧ W.cell? ⟨w.heap.size, 1, none⟩ = some (.bool wz) ∧ W.cell? ⟨w.heap.size, 2, none⟩ = some (.bool pg) ∧ W.cell? ⟨w.heap.size + 1, 1, none⟩ = some (.int .i64 id) ∧ Below w3.heap.size w3 W) w3.drew := KS _ (Below.refl _ w3).drew
  have HKS := Lib.hid KS
  have HH := Lib.hid h3
  have HG5 := Lib.hid g5
  have HZ3 := Lib.hid hz3
  have HW3 := Lib.hid hw3
  have CP := Lib.hid (fun W (hb' : Below w3.heap.size w3 W) => add1_L (h3.below hb') ho hx n id bits v hn hb hi hs hr hsl hfl hlt how hoh hb0 hb7 hdf)
  unfold addV at CP ⊢
  clear h h3 hb3 g4 g5 hz3 hw3 hx hi hs hn hr hsl hfl hlt hoh hb hdf hc KS hR hC
  go_enter Tryz.func33, Tryz.ntmps33
  go_upto_region 1 with fail
  rw [← HW3.out]
  go_wp2_with fail
  refine CR.out.mono ?_
  rintro e w4 ⟨rfl, rfl⟩
  go_upto_region 4 with fail
  refine wp_region_heldTo 17 (fun W => W.cell? ⟨g, 0, none⟩ = some (.int .i64 x.id) ∧ W.cell? ⟨g, 1, none⟩ = some (.int .i64 x.parent) ∧ W.cell? ⟨g, 2, none⟩ = some (.int .i64 x.owner) ∧ W.cell? ⟨g, 3, none⟩ = some (.int .i64 x.place) ∧ W.cell? ⟨g, 4, none⟩ = some (.int .i64 x.flags) ∧ W.cell? ⟨g, 5, none⟩ = some (.int .i64 x.quota) ∧ W.cell? ⟨g, 6, none⟩ = some (.string x.name) ∧ W.cell? ⟨g, 7, none⟩ = some (.slice A1 x.defs.length c1) ∧ W.cell? ⟨g, 8, none⟩ = some (.slice A2 x.slots.length c2) ∧ W.cell? ⟨g, 9, none⟩ = some (.slice none 0 0) ∧ W.cell? ⟨w.heap.size, 0, none⟩ = some (.int .i64 id) ∧ W.cell? ⟨w.heap.size, 1, none⟩ = some (.bool wz) ∧ W.cell? ⟨w.heap.size, 2, none⟩ = some (.bool pg) ∧ W.cell? ⟨w.heap.size + 1, 1, none⟩ = some (.int .i64 id) ∧ Below w3.heap.size w3 W) (by kernel_rfl) (by kernel_rfl) K0 (fun hSucc hHeld => ?_)
  refine heldTo_take (i := 0) (oi := _) (v := (.agg #[.int .i64 id, .bool wz, .bool pg])) hSucc rfl (by kernel_rfl) (by kernel_rfl) (by kernel_rfl) (by kernel_rfl) rfl (fun _ _ _ h => h) (Or.inl ⟨by rfl, fun W hSw => ?_⟩) (by with_reducible assumption) ?_
  · (try dsimp only at hSw); go_simp
  change heldTo _ _ _ _ _ _ _ _ (Act.put _ (some 18) _) _
  simp only [Act.put, List.setIfInBounds_toArray, List.set_cons_zero, List.set_cons_succ]
  refine heldTo_take (i := 1) (oi := _) (v := (.pointer (some ⟨g, 0, none⟩))) hSucc rfl (by kernel_rfl) (by kernel_rfl) (by kernel_rfl) (by kernel_rfl) rfl (fun _ _ _ h => h) (Or.inl ⟨by rfl, fun W hSw => ?_⟩) (by with_reducible assumption) ?_
  · (try dsimp only at hSw); go_simp
  change heldTo _ _ _ _ _ _ _ _ (Act.put _ (some 19) _) _
  simp only [Act.put, List.setIfInBounds_toArray, List.set_cons_zero, List.set_cons_succ]
  refine heldTo_take (i := 2) (oi := _) (v := (.pointer (some ⟨g, 0, none⟩))) hSucc rfl (by kernel_rfl) (by kernel_rfl) (by kernel_rfl) (by kernel_rfl) rfl (fun _ _ _ h => h) (Or.inl ⟨by rfl, fun W hSw => ?_⟩) (by with_reducible assumption) ?_
  · (try dsimp only at hSw); go_simp
  change heldTo _ _ _ _ _ _ _ _ (Act.put _ (some 20) _) _
  simp only [Act.put, List.setIfInBounds_toArray, List.set_cons_zero, List.set_cons_succ]
  refine heldTo_take (i := 3) (oi := _) (v := (.agg #[.int .i64 x.id, .int .i64 x.parent, .int .i64 x.owner, .int .i64 x.place, .int .i64 x.flags, .int .i64 x.quota, .string x.name, .slice A1 x.defs.length c1, .slice A2 x.slots.length c2, .slice none 0 0])) hSucc rfl (by kernel_rfl) (by kernel_rfl) (by kernel_rfl) (by kernel_rfl) rfl (fun _ _ _ h => h) (Or.inl ⟨by rfl, fun W hSw => ?_⟩) (by with_reducible assumption) ?_
  · (try dsimp only at hSw); go_simp
  change heldTo _ _ _ _ _ _ _ _ (Act.put _ (some 21) _) _
  simp only [Act.put, List.setIfInBounds_toArray, List.set_cons_zero, List.set_cons_succ]
  refine heldTo_one (i := 4) (o := _) (by kernel_rfl) rfl (fun K hK => ?_)
  go_simp
  go_at_call 74
  refine (C1.out _ hHeld).mono ?_
  rintro e w5 ⟨rfl, hs⟩
  clear hHeld
  refine hK.out _ _ hs (fun hHeld => ?_)
  clear hK K
  clear hs
  refine heldTo_take (i := 5) (oi := _) (v := (.bool false)) hSucc rfl (by kernel_rfl) (by kernel_rfl) (by kernel_rfl) (by kernel_rfl) rfl (fun _ _ _ h => h) (Or.inl ⟨by rfl, fun W hSw => ?_⟩) (by with_reducible assumption) ?_
  · (try dsimp only at hSw); go_simp
  change heldTo _ _ _ _ _ _ _ _ (Act.put _ (some 23) _) _
  simp only [Act.put, List.setIfInBounds_toArray, List.set_cons_zero, List.set_cons_succ]
  refine heldTo_take (i := 6) (oi := _) (v := (.bool false)) hSucc rfl (by kernel_rfl) (by kernel_rfl) (by kernel_rfl) (by kernel_rfl) rfl (fun _ _ _ h => h) (Or.inl ⟨by rfl, fun W hSw => ?_⟩) (by with_reducible assumption) ?_
  · (try dsimp only at hSw); go_simp
  change heldTo _ _ _ _ _ _ _ _ (Act.put _ (some 24) _) _
  simp only [Act.put, List.setIfInBounds_toArray, List.set_cons_zero, List.set_cons_succ]
  refine heldTo_take (i := 7) (oi := _) (v := (.pointer (some ⟨w.heap.size + 1, 1, none⟩))) hSucc rfl (by kernel_rfl) (by kernel_rfl) (by kernel_rfl) (by kernel_rfl) rfl (fun _ _ _ h => h) (Or.inl ⟨by rfl, fun W hSw => ?_⟩) (by with_reducible assumption) ?_
  · (try dsimp only at hSw); go_simp
  change heldTo _ _ _ _ _ _ _ _ (Act.put _ (some 25) _) _
  simp only [Act.put, List.setIfInBounds_toArray, List.set_cons_zero, List.set_cons_succ]
  refine heldTo_take (i := 8) (oi := _) (v := (.int .i64 id)) hSucc rfl (by kernel_rfl) (by kernel_rfl) (by kernel_rfl) (by kernel_rfl) rfl (fun _ _ _ h => h) (Or.inl ⟨by rfl, fun W hSw => ?_⟩) (by with_reducible assumption) ?_
  · (try dsimp only at hSw); go_simp
  change heldTo _ _ _ _ _ _ _ _ (Act.put _ (some 26) _) _
  simp only [Act.put, List.setIfInBounds_toArray, List.set_cons_zero, List.set_cons_succ]
  refine heldTo_take (i := 9) (oi := _) (v := (.pointer (some ⟨w.heap.size, 0, none⟩))) hSucc rfl (by kernel_rfl) (by kernel_rfl) (by kernel_rfl) (by kernel_rfl) rfl (fun _ _ _ h => h) (Or.inl ⟨by rfl, fun W hSw => ?_⟩) (by with_reducible assumption) ?_
  · (try dsimp only at hSw); go_simp
  change heldTo _ _ _ _ _ _ _ _ (Act.put _ (some 27) _) _
  simp only [Act.put, List.setIfInBounds_toArray, List.set_cons_zero, List.set_cons_succ]
  refine heldTo_take (i := 10) (oi := _) (v := (.int .i64 id)) hSucc rfl (by kernel_rfl) (by kernel_rfl) (by kernel_rfl) (by kernel_rfl) rfl (fun _ _ _ h => h) (Or.inl ⟨by rfl, fun W hSw => ?_⟩) (by with_reducible assumption) ?_
  · (try dsimp only at hSw); go_simp
  change heldTo _ _ _ _ _ _ _ _ (Act.put _ (some 28) _) _
  simp only [Act.put, List.setIfInBounds_toArray, List.set_cons_zero, List.set_cons_succ]
  refine heldTo_take (i := 11) (oi := _) (v := (.bool false)) hSucc rfl (by kernel_rfl) (by kernel_rfl) (by kernel_rfl) (by kernel_rfl) rfl (fun _ _ _ h => h) (Or.inl ⟨by rfl, fun W hSw => ?_⟩) (by with_reducible assumption) ?_
  · (try dsimp only at hSw); go_simp
  change heldTo _ _ _ _ _ _ _ _ (Act.put _ (some 29) _) _
  simp only [Act.put, List.setIfInBounds_toArray, List.set_cons_zero, List.set_cons_succ]
  refine heldTo_take (i := 12) (oi := _) (v := (.bool false)) hSucc rfl (by kernel_rfl) (by kernel_rfl) (by kernel_rfl) (by kernel_rfl) rfl (fun _ _ _ h => h) (Or.inl ⟨by rfl, fun W hSw => ?_⟩) (by with_reducible assumption) ?_
  · (try dsimp only at hSw); go_simp
  change heldTo _ _ _ _ _ _ _ _ (Act.put _ (some 30) _) _
  simp only [Act.put, List.setIfInBounds_toArray, List.set_cons_zero, List.set_cons_succ]
  refine heldTo_take (i := 13) (oi := _) (v := undef) hSucc rfl (by kernel_rfl) (by kernel_rfl) (by kernel_rfl) (by kernel_rfl) rfl (fun _ _ _ h => h) (Or.inr ⟨by rfl, rfl⟩) (by with_reducible assumption) ?_
  change heldTo _ _ _ _ _ _ _ _ (Act.put _ (some 31) _) _
  simp only [Act.put, List.setIfInBounds_toArray, List.set_cons_zero, List.set_cons_succ]
  refine heldTo_take (i := 14) (oi := _) (v := undef) hSucc rfl (by kernel_rfl) (by kernel_rfl) (by kernel_rfl) (by kernel_rfl) rfl (fun _ _ _ h => h) (Or.inr ⟨by rfl, rfl⟩) (by with_reducible assumption) ?_
  change heldTo _ _ _ _ _ _ _ _ (Act.put _ (some 32) _) _
  simp only [Act.put, List.setIfInBounds_toArray, List.set_cons_zero, List.set_cons_succ]
  refine heldTo_take (i := 15) (oi := _) (v := undef) hSucc rfl (by kernel_rfl) (by kernel_rfl) (by kernel_rfl) (by kernel_rfl) rfl (fun _ _ _ h => h) (Or.inr ⟨by rfl, rfl⟩) (by with_reducible assumption) ?_
  change heldTo _ _ _ _ _ _ _ _ (Act.put _ (some 33) _) _
  simp only [Act.put, List.setIfInBounds_toArray, List.set_cons_zero, List.set_cons_succ]
  refine heldTo_take (i := 16) (oi := _) (v := (.bool false)) hSucc rfl (by kernel_rfl) (by kernel_rfl) (by kernel_rfl) (by kernel_rfl) rfl (fun _ _ _ h => h) (Or.inl ⟨by rfl, fun W hSw => ?_⟩) (by with_reducible assumption) ?_
  · (try dsimp only at hSw); go_simp
  change heldTo _ _ _ _ _ _ _ _ (Act.put _ (some 34) _) _
  simp only [Act.put, List.setIfInBounds_toArray, List.set_cons_zero, List.set_cons_succ]
  have HS5 := Lib.hid hHeld
  refine heldTo_last (o := _) (by kernel_rfl) rfl (fun K hK => ?_)
  go_simp
  refine hK.out _ _ ?_
  clear hK K hHeld
  refine heldTo_done (by kernel_rfl) ?_ _
  have hb5 := HS5.out.2.2.2.2.2.2.2.2.2.2.2.2.2.2
  have HB5 := Lib.hid hb5
  have k5 := (HH.out.below hb5).wk hW
  have g55 := (hb5.block (w.heap.size + 1) (by have := HZ3.out; omega)).trans HG5.out
  have r0 := cell_of_row w5 _ 0 _ _ _ g55
  have r1 := cell_of_row w5 _ 1 _ _ _ g55
  have r2 := cell_of_row w5 _ 2 _ _ _ g55
  have r3 := cell_of_row w5 _ 3 _ _ _ g55
  have r4 := cell_of_row w5 _ 4 _ _ _ g55
  have r5 := cell_of_row w5 _ 5 _ _ _ g55
  have r6 := cell_of_row w5 _ 6 _ _ _ g55
  have r7 := cell_of_row w5 _ 7 _ _ _ g55
  clear hb5 g55
  go_upto_region 6 with fail
  go_still_tail 6, (by kernel_rfl)
  change wpList _ _ _ _ _ w5.drew
  go_wp2_with fail
  refine (CP.out _ HB5.out.drew).mono ?_
  rintro e w6 ⟨rfl, hl6⟩
  have HL6 := Lib.hid hl6
  clear hl6
  go_wp2_with fail
  go_ret
  exact ⟨rfl, HL6.out⟩
end
end Go.Proofs.YtnphgcbknfmapaaGreatDoor
namespace Go.Proofs.YtnphgcbknfmapaaGreatDoor
open Go.RowKit Go.Lib
set_option linter.unusedVariables false
set_option linter.unusedSimpArgs false
section
variable {B a m gW : Nat} {w0 w w' : World} {l l' : List OB} {mx mx' o : Int} {K : List (Nat × Obj)} {x : OB} {id : Int} {wz pg : Bool}
set_option maxRecDepth 100000 in
set_option maxHeartbeats 2000000 in
theorem wslot_yes (h : LS B w0 w a m l mx K) (hW : WK gW a ∈ K) (ho : I64 o) (hx : getO l o = some x) (n : ByteArray) {i : Nat} {s : SL} (hi : slotI x.slots n = some i) (hs : x.slots[i]? = some s) (hr : (ownB id wz s.owner || (Go.bits .and .i64 s.bits 0 != 0)) = true) :
    Calls Tryz.prog 77 #[.pointer (some ⟨gW, 0, none⟩), .agg #[.int .i64 id, .bool wz, .bool pg], .int .i64 4, .int .i64 o, .string n] w fun e w' => e = .returned (.tuple #[.agg #[.string s.name, .int .i64 s.owner, .int .i64 s.bits, .bool s.clear, .int .i64 s.kind, .int .i64 s.num, .string s.text, .slice none 0 0], .int .i64 0]) ∧ Below w.heap.size w w' := by
  obtain ⟨w3, hw3⟩ : ∃ w3, w3 = (w.alloc (.cells #[.int .i64 id, .bool wz, .bool pg] 71)).alloc (.cells #[.string ⟨#[]⟩, .int .i64 0, .int .i64 0, .bool false, .int .i64 0, .int .i64 0, .string ⟨#[]⟩, .slice none 0 0] 35) := ⟨_, rfl⟩
  have hb3 : Below w.heap.size w w3 := by rw [hw3]; exact ((Below.refl _ _).alloc (Nat.le_refl _) _).alloc (by simp) _
  have hz3 : w3.heap.size = w.heap.size + 2 := by rw [hw3]; simp
  have g4 : w3.heap[w.heap.size]? = some (.cells #[.int .i64 id, .bool wz, .bool pg] 71 (0, 0)) := by
    rw [hw3]
    exact (Below.heap_alloc _ _ _ (by simp)).trans (heap_alloc_new w _)
  have g5 : w3.heap[w.heap.size + 1]? = some (.cells #[.string ⟨#[]⟩, .int .i64 0, .int .i64 0, .bool false, .int .i64 0, .int .i64 0, .string ⟨#[]⟩, .slice none 0 0] 35 (0, 0)) := by
    rw [hw3]
    exact heap_alloc2_new w _ _
  have h3 := h.below hb3
  have k3 := h3.wk hW
  have CF := Lib.hid (find_B h3 ho hx n hi hs)
  have CS := Lib.hid (fun W => pinfo_c (id := id) (wz := wz) (pg := pg) s W hr)
  have HB3 := Lib.hid hb3
  have HG4 := Lib.hid g4
  have HG5 := Lib.hid g5
  have HZ3 := Lib.hid hz3
  have HW3 := Lib.hid hw3
  clear h h3 hb3 g4 g5 hz3 hw3 hr hx hi hs
  go_enter Tryz.func77, Tryz.ntmps77
  go_upto_region 1 with fail
  rw [← HW3.out]
  go_wp2_with fail
  refine CF.out.mono ?_
  rintro e w5 ⟨rfl, hb5⟩
  obtain ⟨w6, hw6⟩ : ∃ w6, w6 = w5.alloc (.cells #[.string s.name, .int .i64 s.owner, .int .i64 s.bits, .bool s.clear, .int .i64 s.kind, .int .i64 s.num, .string s.text, .slice none 0 0] 35) := ⟨_, rfl⟩
  have hb6 : Below w5.heap.size w5 w6 := by rw [hw6]; exact (Below.refl _ _).alloc (Nat.le_refl _) _
  have g6 : w6.heap[w5.heap.size]? = some (.cells #[.string s.name, .int .i64 s.owner, .int .i64 s.bits, .bool s.clear, .int .i64 s.kind, .int .i64 s.num, .string s.text, .slice none 0 0] 35 (0, 0)) := by rw [hw6]; exact heap_alloc_new w5 _
  have hb36 : Below w3.heap.size w3 w6 := hb5.trans (hb6.mono hb5.size)
  have gA := (hb36.block w.heap.size (by have := HZ3.out; omega)).trans HG4.out
  have p0 := cell_of_row w6 _ 0 _ _ _ gA
  have p1 := cell_of_row w6 _ 1 _ _ _ gA
  have p2 := cell_of_row w6 _ 2 _ _ _ gA
  have q0 := cell_of_row w6 _ 0 _ _ _ g6
  have q1 := cell_of_row w6 _ 1 _ _ _ g6
  have q2 := cell_of_row w6 _ 2 _ _ _ g6
  have q3 := cell_of_row w6 _ 3 _ _ _ g6
  have q4 := cell_of_row w6 _ 4 _ _ _ g6
  have q5 := cell_of_row w6 _ 5 _ _ _ g6
  have q6 := cell_of_row w6 _ 6 _ _ _ g6
  have q7 := cell_of_row w6 _ 7 _ _ _ g6
  have HB6 := Lib.hid hb36
  have HG6 := Lib.hid g6
  have HW6 := Lib.hid hw6
  have HZ6 := Lib.hid (show w6.heap.size = w5.heap.size + 1 by rw [hw6]; simp)
  clear hb5 hb6 g6 hb36 gA hw6 k3
  go_upto_region 4 with fail
  rw [← HW6.out]
  go_wp2_with fail
  refine (CS.out _).mono ?_
  rintro e w7 ⟨rfl, hb7⟩
  have hb37 : Below w3.heap.size w3 w7 := HB6.out.trans (hb7.mono HB6.out.size)
  have g67 := (hb7.block w5.heap.size (by have := HZ6.out; omega)).trans HG6.out
  clear p0 p1 p2 q0 q1 q2 q3 q4 q5 q6 q7
  have q0 := cell_of_row w7 _ 0 _ _ _ g67
  have q1 := cell_of_row w7 _ 1 _ _ _ g67
  have q2 := cell_of_row w7 _ 2 _ _ _ g67
  have q3 := cell_of_row w7 _ 3 _ _ _ g67
  have q4 := cell_of_row w7 _ 4 _ _ _ g67
  have q5 := cell_of_row w7 _ 5 _ _ _ g67
  have q6 := cell_of_row w7 _ 6 _ _ _ g67
  have q7 := cell_of_row w7 _ 7 _ _ _ g67
  have g57 := (hb37.block (w.heap.size + 1) (by have := HZ3.out; omega)).trans HG5.out
  have HG57 := Lib.hid g57
  have HROW := Lib.hid (setRow_heap w7 (w.heap.size + 1) _ #[.string s.name, .int .i64 s.owner, .int .i64 s.bits, .bool s.clear, .int .i64 s.kind, .int .i64 s.num, .string s.text, .slice none 0 0] _ _ g57)
  have HFIN := Lib.hid (below_setRow (HB3.out.trans (hb37.mono HB3.out.size)) (g := w.heap.size + 1) (by omega) #[.string s.name, .int .i64 s.owner, .int .i64 s.bits, .bool s.clear, .int .i64 s.kind, .int .i64 s.num, .string s.text, .slice none 0 0])
  clear hb7 hb37 g57 g67
  go_wp2_with (refine wpList_store_row rfl 35 (.tmp 10) (.tmp 34) rfl (w.heap.size + 1) #[.string s.name, .int .i64 s.owner, .int .i64 s.bits, .bool s.clear, .int .i64 s.kind, .int .i64 s.num, .string s.text, .slice none 0 0] rfl rfl _ _ HG57.out (by kernel_rfl) rfl (by simp [Value.oneCell']) ?_)
  exact bodyPost_ret (results_rowP (P := Tryz.prog) rfl _ _ (w.heap.size + 1) _ _ _ _ rfl HROW.out Tryz.underlying35 rfl (by kernel_rfl)) rfl ⟨rfl, HFIN.out⟩
set_option maxRecDepth 100000 in
set_option maxHeartbeats 2000000 in
theorem wslot_no (h : LS B w0 w a m l mx K) (hW : WK gW a ∈ K) (ho : I64 o) (hx : getO l o = some x) (n : ByteArray) {i : Nat} {s : SL} (hi : slotI x.slots n = some i) (hs : x.slots[i]? = some s) (hr : (ownB id wz s.owner || (Go.bits .and .i64 s.bits 0 != 0)) = false) :
    Calls Tryz.prog 77 #[.pointer (some ⟨gW, 0, none⟩), .agg #[.int .i64 id, .bool wz, .bool pg], .int .i64 4, .int .i64 o, .string n] w fun e w' => e = .returned (.tuple #[.agg #[.string ⟨#[]⟩, .int .i64 0, .int .i64 0, .bool false, .int .i64 0, .int .i64 0, .string ⟨#[]⟩, .slice none 0 0], .int .i64 3]) ∧ Below w.heap.size w w' := by
  obtain ⟨w3, hw3⟩ : ∃ w3, w3 = (w.alloc (.cells #[.int .i64 id, .bool wz, .bool pg] 71)).alloc (.cells #[.string ⟨#[]⟩, .int .i64 0, .int .i64 0, .bool false, .int .i64 0, .int .i64 0, .string ⟨#[]⟩, .slice none 0 0] 35) := ⟨_, rfl⟩
  have hb3 : Below w.heap.size w w3 := by rw [hw3]; exact ((Below.refl _ _).alloc (Nat.le_refl _) _).alloc (by simp) _
  have hz3 : w3.heap.size = w.heap.size + 2 := by rw [hw3]; simp
  have g4 : w3.heap[w.heap.size]? = some (.cells #[.int .i64 id, .bool wz, .bool pg] 71 (0, 0)) := by
    rw [hw3]
    exact (Below.heap_alloc _ _ _ (by simp)).trans (heap_alloc_new w _)
  have g5 : w3.heap[w.heap.size + 1]? = some (.cells #[.string ⟨#[]⟩, .int .i64 0, .int .i64 0, .bool false, .int .i64 0, .int .i64 0, .string ⟨#[]⟩, .slice none 0 0] 35 (0, 0)) := by
    rw [hw3]
    exact heap_alloc2_new w _ _
  have h3 := h.below hb3
  have k3 := h3.wk hW
  have CF := Lib.hid (find_B h3 ho hx n hi hs)
  have CS := Lib.hid (fun W => pinfo_c (id := id) (wz := wz) (pg := pg) s W hr)
  have HB3 := Lib.hid hb3
  have HG4 := Lib.hid g4
  have HG5 := Lib.hid g5
  have HZ3 := Lib.hid hz3
  have HW3 := Lib.hid hw3
  clear h h3 hb3 g4 g5 hz3 hw3 hr hx hi hs
  go_enter Tryz.func77, Tryz.ntmps77
  go_upto_region 1 with fail
  rw [← HW3.out]
  go_wp2_with fail
  refine CF.out.mono ?_
  rintro e w5 ⟨rfl, hb5⟩
  obtain ⟨w6, hw6⟩ : ∃ w6, w6 = w5.alloc (.cells #[.string s.name, .int .i64 s.owner, .int .i64 s.bits, .bool s.clear, .int .i64 s.kind, .int .i64 s.num, .string s.text, .slice none 0 0] 35) := ⟨_, rfl⟩
  have hb6 : Below w5.heap.size w5 w6 := by rw [hw6]; exact (Below.refl _ _).alloc (Nat.le_refl _) _
  have g6 : w6.heap[w5.heap.size]? = some (.cells #[.string s.name, .int .i64 s.owner, .int .i64 s.bits, .bool s.clear, .int .i64 s.kind, .int .i64 s.num, .string s.text, .slice none 0 0] 35 (0, 0)) := by rw [hw6]; exact heap_alloc_new w5 _
  have hb36 : Below w3.heap.size w3 w6 := hb5.trans (hb6.mono hb5.size)
  have gA := (hb36.block w.heap.size (by have := HZ3.out; omega)).trans HG4.out
  have p0 := cell_of_row w6 _ 0 _ _ _ gA
  have p1 := cell_of_row w6 _ 1 _ _ _ gA
  have p2 := cell_of_row w6 _ 2 _ _ _ gA
  have q0 := cell_of_row w6 _ 0 _ _ _ g6
  have q1 := cell_of_row w6 _ 1 _ _ _ g6
  have q2 := cell_of_row w6 _ 2 _ _ _ g6
  have q3 := cell_of_row w6 _ 3 _ _ _ g6
  have q4 := cell_of_row w6 _ 4 _ _ _ g6
  have q5 := cell_of_row w6 _ 5 _ _ _ g6
  have q6 := cell_of_row w6 _ 6 _ _ _ g6
  have q7 := cell_of_row w6 _ 7 _ _ _ g6
  have HB6 := Lib.hid hb36
  have HG6 := Lib.hid g6
  have HW6 := Lib.hid hw6
  have HZ6 := Lib.hid (show w6.heap.size = w5.heap.size + 1 by rw [hw6]; simp)
  clear hb5 hb6 g6 hb36 gA hw6 k3
  go_upto_region 4 with fail
  rw [← HW6.out]
  go_wp2_with fail
  refine (CS.out _).mono ?_
  rintro e w7 ⟨rfl, hb7⟩
  have hb37 : Below w3.heap.size w3 w7 := HB6.out.trans (hb7.mono HB6.out.size)
  have g67 := (hb7.block w5.heap.size (by have := HZ6.out; omega)).trans HG6.out
  clear p0 p1 p2 q0 q1 q2 q3 q4 q5 q6 q7
  have g57 := (hb37.block (w.heap.size + 1) (by have := HZ3.out; omega)).trans HG5.out
  have HG57 := Lib.hid g57
  have HROW := Lib.hid (setRow_heap w7 (w.heap.size + 1) _ #[.string ⟨#[]⟩, .int .i64 0, .int .i64 0, .bool false, .int .i64 0, .int .i64 0, .string ⟨#[]⟩, .slice none 0 0] _ _ g57)
  have HFIN := Lib.hid (below_setRow (HB3.out.trans (hb37.mono HB3.out.size)) (g := w.heap.size + 1) (by omega) #[.string ⟨#[]⟩, .int .i64 0, .int .i64 0, .bool false, .int .i64 0, .int .i64 0, .string ⟨#[]⟩, .slice none 0 0])
  clear hb7 hb37 g57 g67
  go_wp2_with (refine wpList_store_row rfl 35 (.tmp 10) (.tmp 33) rfl (w.heap.size + 1) #[.string ⟨#[]⟩, .int .i64 0, .int .i64 0, .bool false, .int .i64 0, .int .i64 0, .string ⟨#[]⟩, .slice none 0 0] rfl rfl _ _ HG57.out (by kernel_rfl) rfl (by simp [Value.oneCell']) ?_)
  exact bodyPost_ret (results_rowP (P := Tryz.prog) rfl _ _ (w.heap.size + 1) _ _ _ _ rfl HROW.out Tryz.underlying35 rfl (by kernel_rfl)) rfl ⟨rfl, HFIN.out⟩
set_option maxRecDepth 100000 in
set_option maxHeartbeats 2000000 in
theorem winfo_no (h : LS B w0 w a m l mx K) (hW : WK gW a ∈ K) (ho : I64 o) (hx : getO l o = some x) (n : ByteArray) {i : Nat} {s : SL} (hi : slotI x.slots n = some i) (hs : x.slots[i]? = some s) (ow bits : Int) (hr : (ownB id wz s.owner || (Go.bits .and .i64 s.bits 0 != 0)) = false) :
    Calls Tryz.prog 37 #[.pointer (some ⟨gW, 0, none⟩), .agg #[.int .i64 id, .bool wz, .bool pg], .int .i64 o, .string n, .int .i64 ow, .int .i64 bits] w fun e w' => e = .returned (.int .i64 3) ∧ Below w.heap.size w w' := by
  obtain ⟨w3, hw3⟩ : ∃ w3, w3 = w.alloc (.cells #[.int .i64 id, .bool wz, .bool pg] 71) := ⟨_, rfl⟩
  have hb3 : Below w.heap.size w w3 := by rw [hw3]; exact (Below.refl _ _).alloc (Nat.le_refl _) _
  have hz3 : w3.heap.size = w.heap.size + 1 := by rw [hw3]; simp
  have g4 : w3.heap[w.heap.size]? = some (.cells #[.int .i64 id, .bool wz, .bool pg] 71 (0, 0)) := by
    rw [hw3]
    exact heap_alloc_new w _
  have h3 := h.below hb3
  have CM := Lib.hid (wslot_no (id := id) (wz := wz) (pg := pg) h3 hW ho hx n hi hs hr)
  have p0 := cell_of_row w3 _ 0 _ _ _ g4
  have p1 := cell_of_row w3 _ 1 _ _ _ g4
  have p2 := cell_of_row w3 _ 2 _ _ _ g4
  have HH := Lib.hid h3
  have HB3 := Lib.hid hb3
  have HG4 := Lib.hid g4
  have HZ3 := Lib.hid hz3
  have HW3 := Lib.hid hw3
  have HX := Lib.hid hx
  have HI := Lib.hid hi
  have HS := Lib.hid hs
  clear h h3 hb3 g4 hz3 hw3 hx hi hs hr
  go_enter Tryz.func37, Tryz.ntmps37
  go_upto_region 1 with fail
  rw [← HW3.out]
  go_wp2_with fail
  refine CM.out.mono ?_
  rintro e w4 ⟨rfl, hb4⟩
  have HB5 := Lib.hid (HB3.out.trans ((hb4.alloc hb4.size (.cells #[.string ⟨#[]⟩, .int .i64 0, .int .i64 0, .bool false, .int .i64 0, .int .i64 0, .string ⟨#[]⟩, .slice none 0 0] 35)).mono HB3.out.size))
  clear hb4 p0 p1 p2
  go_wp2_with fail
  go_ret
  exact ⟨rfl, HB5.out⟩
set_option maxRecDepth 100000 in
set_option maxHeartbeats 2000000 in
theorem winfo_yes (h : LS B w0 w a m l mx K) (hW : WK gW a ∈ K) (ho : I64 o) (hx : getO l o = some x) (n : ByteArray) {i : Nat} {s : SL} (hi : slotI x.slots n = some i) (hs : x.slots[i]? = some s) (ow bits : Int) (hr : (ownB id wz s.owner || (Go.bits .and .i64 s.bits 0 != 0)) = true) (how : I64 ow) (hoh : hasO l ow = true) (hb0 : 0 ≤ bits) (hb7 : bits ≤ 7) (hne : (ow != s.owner) = false) :
    Calls Tryz.prog 37 #[.pointer (some ⟨gW, 0, none⟩), .agg #[.int .i64 id, .bool wz, .bool pg], .int .i64 o, .string n, .int .i64 ow, .int .i64 bits] w fun e w' => e = .returned (.int .i64 0) ∧ LS B w0 w' a m (repO l o { x with slots := x.slots.set i { s with owner := ow, bits := bits } }) mx K := by
  obtain ⟨w3, hw3⟩ : ∃ w3, w3 = w.alloc (.cells #[.int .i64 id, .bool wz, .bool pg] 71) := ⟨_, rfl⟩
  have hb3 : Below w.heap.size w w3 := by rw [hw3]; exact (Below.refl _ _).alloc (Nat.le_refl _) _
  have hz3 : w3.heap.size = w.heap.size + 1 := by rw [hw3]; simp
  have g4 : w3.heap[w.heap.size]? = some (.cells #[.int .i64 id, .bool wz, .bool pg] 71 (0, 0)) := by
    rw [hw3]
    exact heap_alloc_new w _
  have h3 := h.below hb3
  have CM := Lib.hid (wslot_yes (id := id) (wz := wz) (pg := pg) h3 hW ho hx n hi hs hr)
  have p0 := cell_of_row w3 _ 0 _ _ _ g4
  have p1 := cell_of_row w3 _ 1 _ _ _ g4
  have p2 := cell_of_row w3 _ 2 _ _ _ g4
  have HH := Lib.hid h3
  have HB3 := Lib.hid hb3
  have HG4 := Lib.hid g4
  have HZ3 := Lib.hid hz3
  have HW3 := Lib.hid hw3
  have HX := Lib.hid hx
  have HI := Lib.hid hi
  have HS := Lib.hid hs
  clear h h3 hb3 g4 hz3 hw3 hx hi hs hr
  go_enter Tryz.func37, Tryz.ntmps37
  go_upto_region 1 with fail
  rw [← HW3.out]
  go_wp2_with fail
  refine CM.out.mono ?_
  rintro e w4 ⟨rfl, hb4⟩
  obtain ⟨w6, hw6⟩ : ∃ w6, w6 = w4.alloc (.cells #[.string s.name, .int .i64 s.owner, .int .i64 s.bits, .bool s.clear, .int .i64 s.kind, .int .i64 s.num, .string s.text, .slice none 0 0] 35) := ⟨_, rfl⟩
  have hb6 : Below w4.heap.size w4 w6 := by rw [hw6]; exact (Below.refl _ _).alloc (Nat.le_refl _) _
  have g6 : w6.heap[w4.heap.size]? = some (.cells #[.string s.name, .int .i64 s.owner, .int .i64 s.bits, .bool s.clear, .int .i64 s.kind, .int .i64 s.num, .string s.text, .slice none 0 0] 35 (0, 0)) := by rw [hw6]; exact heap_alloc_new w4 _
  have hb36 : Below w3.heap.size w3 w6 := hb4.trans (hb6.mono hb4.size)
  have gA := (hb36.block w.heap.size (by have := HZ3.out; omega)).trans HG4.out
  have p0 := cell_of_row w6 _ 0 _ _ _ gA
  have p1 := cell_of_row w6 _ 1 _ _ _ gA
  have p2 := cell_of_row w6 _ 2 _ _ _ gA
  have q1 := cell_of_row w6 _ 1 _ _ _ g6
  have h6 := HH.out.below hb36
  have k6 := h6.wk hW
  have HB6 := Lib.hid (HB3.out.trans (hb36.mono HB3.out.size))
  have HW6 := Lib.hid hw6
  have CP := Lib.hid (info_L h6 ho HX.out n HI.out HS.out ow bits how hoh hb0 hb7)
  clear hb4 hb6 g6 hb36 gA hw6 h6
  go_upto_region 4 with fail
  rw [← HW6.out]
  go_wp2_with fail
  refine CP.out.mono ?_
  rintro e w7 ⟨rfl, hl7⟩
  have HL7 := Lib.hid hl7
  clear hl7
  go_wp2_with fail
  go_ret
  exact ⟨rfl, HL7.out⟩
set_option maxRecDepth 100000 in
set_option maxHeartbeats 2000000 in
theorem winfo_wiz (h : LS B w0 w a m l mx K) (hW : WK gW a ∈ K) (ho : I64 o) (hx : getO l o = some x) (n : ByteArray) {i : Nat} {s : SL} (hi : slotI x.slots n = some i) (hs : x.slots[i]? = some s) (ow bits : Int) (hr : (ownB id wz s.owner || (Go.bits .and .i64 s.bits 0 != 0)) = true) (how : I64 ow) (hoh : hasO l ow = true) (hb0 : 0 ≤ bits) (hb7 : bits ≤ 7) (hne : (ow != s.owner) = true) (hwz : wz = true) :
    Calls Tryz.prog 37 #[.pointer (some ⟨gW, 0, none⟩), .agg #[.int .i64 id, .bool wz, .bool pg], .int .i64 o, .string n, .int .i64 ow, .int .i64 bits] w fun e w' => e = .returned (.int .i64 0) ∧ LS B w0 w' a m (repO l o { x with slots := x.slots.set i { s with owner := ow, bits := bits } }) mx K := by
  subst hwz
  obtain ⟨w3, hw3⟩ : ∃ w3, w3 = w.alloc (.cells #[.int .i64 id, .bool true, .bool pg] 71) := ⟨_, rfl⟩
  have hb3 : Below w.heap.size w w3 := by rw [hw3]; exact (Below.refl _ _).alloc (Nat.le_refl _) _
  have hz3 : w3.heap.size = w.heap.size + 1 := by rw [hw3]; simp
  have g4 : w3.heap[w.heap.size]? = some (.cells #[.int .i64 id, .bool true, .bool pg] 71 (0, 0)) := by
    rw [hw3]
    exact heap_alloc_new w _
  have h3 := h.below hb3
  have CM := Lib.hid (wslot_yes (id := id) (wz := true) (pg := pg) h3 hW ho hx n hi hs hr)
  have p0 := cell_of_row w3 _ 0 _ _ _ g4
  have p1 := cell_of_row w3 _ 1 _ _ _ g4
  have p2 := cell_of_row w3 _ 2 _ _ _ g4
  have HH := Lib.hid h3
  have HB3 := Lib.hid hb3
  have HG4 := Lib.hid g4
  have HZ3 := Lib.hid hz3
  have HW3 := Lib.hid hw3
  have HX := Lib.hid hx
  have HI := Lib.hid hi
  have HS := Lib.hid hs
  clear h h3 hb3 g4 hz3 hw3 hx hi hs hr
  go_enter Tryz.func37, Tryz.ntmps37
  go_upto_region 1 with fail
  rw [← HW3.out]
  go_wp2_with fail
  refine CM.out.mono ?_
  rintro e w4 ⟨rfl, hb4⟩
  obtain ⟨w6, hw6⟩ : ∃ w6, w6 = w4.alloc (.cells #[.string s.name, .int .i64 s.owner, .int .i64 s.bits, .bool s.clear, .int .i64 s.kind, .int .i64 s.num, .string s.text, .slice none 0 0] 35) := ⟨_, rfl⟩
  have hb6 : Below w4.heap.size w4 w6 := by rw [hw6]; exact (Below.refl _ _).alloc (Nat.le_refl _) _
  have g6 : w6.heap[w4.heap.size]? = some (.cells #[.string s.name, .int .i64 s.owner, .int .i64 s.bits, .bool s.clear, .int .i64 s.kind, .int .i64 s.num, .string s.text, .slice none 0 0] 35 (0, 0)) := by rw [hw6]; exact heap_alloc_new w4 _
  have hb36 : Below w3.heap.size w3 w6 := hb4.trans (hb6.mono hb4.size)
  have gA := (hb36.block w.heap.size (by have := HZ3.out; omega)).trans HG4.out
  have p0 := cell_of_row w6 _ 0 _ _ _ gA
  have p1 := cell_of_row w6 _ 1 _ _ _ gA
  have p2 := cell_of_row w6 _ 2 _ _ _ gA
  have q1 := cell_of_row w6 _ 1 _ _ _ g6
  have h6 := HH.out.below hb36
  have k6 := h6.wk hW
  have HB6 := Lib.hid (HB3.out.trans (hb36.mono HB3.out.size))
  have HW6 := Lib.hid hw6
  have CP := Lib.hid (info_L h6 ho HX.out n HI.out HS.out ow bits how hoh hb0 hb7)
  clear hb4 hb6 g6 hb36 gA hw6 h6
  go_upto_region 4 with fail
  rw [← HW6.out]
  go_wp2_with fail
  refine CP.out.mono ?_
  rintro e w7 ⟨rfl, hl7⟩
  have HL7 := Lib.hid hl7
  clear hl7
  go_wp2_with fail
  go_ret
  exact ⟨rfl, HL7.out⟩
set_option maxRecDepth 100000 in
set_option maxHeartbeats 2000000 in
theorem winfo_ow (h : LS B w0 w a m l mx K) (hW : WK gW a ∈ K) (ho : I64 o) (hx : getO l o = some x) (n : ByteArray) {i : Nat} {s : SL} (hi : slotI x.slots n = some i) (hs : x.slots[i]? = some s) (ow bits : Int) (hr : (ownB id wz s.owner || (Go.bits .and .i64 s.bits 0 != 0)) = true) (hne : (ow != s.owner) = true) (hwz : wz = false) :
    Calls Tryz.prog 37 #[.pointer (some ⟨gW, 0, none⟩), .agg #[.int .i64 id, .bool wz, .bool pg], .int .i64 o, .string n, .int .i64 ow, .int .i64 bits] w fun e w' => e = .returned (.int .i64 3) ∧ Below w.heap.size w w' := by
  subst hwz
  obtain ⟨w3, hw3⟩ : ∃ w3, w3 = w.alloc (.cells #[.int .i64 id, .bool false, .bool pg] 71) := ⟨_, rfl⟩
  have hb3 : Below w.heap.size w w3 := by rw [hw3]; exact (Below.refl _ _).alloc (Nat.le_refl _) _
  have hz3 : w3.heap.size = w.heap.size + 1 := by rw [hw3]; simp
  have g4 : w3.heap[w.heap.size]? = some (.cells #[.int .i64 id, .bool false, .bool pg] 71 (0, 0)) := by
    rw [hw3]
    exact heap_alloc_new w _
  have h3 := h.below hb3
  have CM := Lib.hid (wslot_yes (id := id) (wz := false) (pg := pg) h3 hW ho hx n hi hs hr)
  have p0 := cell_of_row w3 _ 0 _ _ _ g4
  have p1 := cell_of_row w3 _ 1 _ _ _ g4
  have p2 := cell_of_row w3 _ 2 _ _ _ g4
  have HH := Lib.hid h3
  have HB3 := Lib.hid hb3
  have HG4 := Lib.hid g4
  have HZ3 := Lib.hid hz3
  have HW3 := Lib.hid hw3
  have HX := Lib.hid hx
  have HI := Lib.hid hi
  have HS := Lib.hid hs
  clear h h3 hb3 g4 hz3 hw3 hx hi hs hr
  go_enter Tryz.func37, Tryz.ntmps37
  go_upto_region 1 with fail
  rw [← HW3.out]
  go_wp2_with fail
  refine CM.out.mono ?_
  rintro e w4 ⟨rfl, hb4⟩
  obtain ⟨w6, hw6⟩ : ∃ w6, w6 = w4.alloc (.cells #[.string s.name, .int .i64 s.owner, .int .i64 s.bits, .bool s.clear, .int .i64 s.kind, .int .i64 s.num, .string s.text, .slice none 0 0] 35) := ⟨_, rfl⟩
  have hb6 : Below w4.heap.size w4 w6 := by rw [hw6]; exact (Below.refl _ _).alloc (Nat.le_refl _) _
  have g6 : w6.heap[w4.heap.size]? = some (.cells #[.string s.name, .int .i64 s.owner, .int .i64 s.bits, .bool s.clear, .int .i64 s.kind, .int .i64 s.num, .string s.text, .slice none 0 0] 35 (0, 0)) := by rw [hw6]; exact heap_alloc_new w4 _
  have hb36 : Below w3.heap.size w3 w6 := hb4.trans (hb6.mono hb4.size)
  have gA := (hb36.block w.heap.size (by have := HZ3.out; omega)).trans HG4.out
  have p0 := cell_of_row w6 _ 0 _ _ _ gA
  have p1 := cell_of_row w6 _ 1 _ _ _ gA
  have p2 := cell_of_row w6 _ 2 _ _ _ gA
  have q1 := cell_of_row w6 _ 1 _ _ _ g6
  have h6 := HH.out.below hb36
  have k6 := h6.wk hW
  have HB6 := Lib.hid (HB3.out.trans (hb36.mono HB3.out.size))
  have HW6 := Lib.hid hw6
  clear hb4 hb6 g6 hb36 gA hw6 h6
  go_upto_region 4 with fail
  rw [← HW6.out]
  go_wp2_with fail
  go_ret
  exact ⟨rfl, HB6.out⟩
end
end Go.Proofs.YtnphgcbknfmapaaGreatDoor
namespace Go.Proofs.YtnphgcbknfmapaaGreatDoor
open Go.RowKit Go.Lib
set_option linter.unusedVariables false
set_option linter.unusedSimpArgs false

def ownS : ByteArray := ⟨#[111, 119, 110]⟩
def slOwn (ow b v : Int) : SL := ⟨ownS, ow, b, false, 0, v, ⟨#[]⟩⟩
def obQ (s : SL) : OB := { obR2 with defs := [ownS], slots := [s, slR2] }
def roomQ (s : SL) : List OB := [obR0, obR1, obQ s, obR3]
theorem getQ (s : SL) : getO (roomQ s) 2 = some (obQ s) := rfl
theorem slotQ {s : SL} (h : s.name = ownS) : slotI (obQ s).slots ownS = some 0 := by
  unfold slotI obQ
  rw [List.findIdx?_cons, h]
  simp
theorem gvQ {s : SL} (h : s.name = ownS) (hc : s.clear = false) : gvO (roomQ s) ownS (aboveO (roomQ s) 2) = some s := by
  have h2 : aboveO (roomQ s) 2 = [2, 1] := rfl
  rw [h2]
  simp only [gvO, getQ, Option.bind_some]
  unfold slO
  rw [slotQ h]
  simp [obQ, hc]
theorem notBi_own : NotBi ownS := ⟨by decide +kernel, by decide +kernel, by decide +kernel, by decide +kernel, by decide +kernel, by decide +kernel, by decide +kernel, by decide +kernel, by decide +kernel, by decide +kernel, by decide +kernel⟩
theorem parQ (s : SL) : ∀ y ∈ roomQ s, I64 y.parent := by
  intro y hy
  simp only [roomQ, List.mem_cons, List.not_mem_nil, or_false] at hy
  rcases hy with rfl | rfl | rfl | rfl
  · exact ⟨by decide, by decide⟩
  · exact ⟨by decide, by decide⟩
  · exact ⟨by show (-9223372036854775808 : Int) ≤ 1; decide, by show (1 : Int) ≤ 9223372036854775807; decide⟩
  · exact ⟨by decide, by decide⟩
theorem and_zero_no {b : Int} (h : 0 ≤ b ∧ b < 8) : (Go.bits .and .i64 b 0 != 0) = false := by
  have : b = 0 ∨ b = 1 ∨ b = 2 ∨ b = 3 ∨ b = 4 ∨ b = 5 ∨ b = 6 ∨ b = 7 := by omega
  rcases this with rfl | rfl | rfl | rfl | rfl | rfl | rfl | rfl <;> decide
theorem room2 : getO roomL 2 = some obR2 := rfl
theorem below2 : belowO roomL 2 = some [2] := by decide +kernel
theorem slot_none2 : slotI obR2.slots ownS = none := by decide +kernel
theorem less_own : Op.bytesLess ownS.toList slR2.name.toList = true := by decide +kernel
theorem nm_own : nmB ownS.data.toList = true := by decide +kernel
end Go.Proofs.YtnphgcbknfmapaaGreatDoor
