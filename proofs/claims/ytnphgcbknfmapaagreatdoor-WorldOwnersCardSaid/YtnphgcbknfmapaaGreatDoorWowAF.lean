/- Contracts of the functions that the statement reaches, and the plain mathematics beneath: several texts joined. -/
import Derived.Deep.MidRow
import Derived.Test.YtnphgcbknfmapaaGreatDoorWowAD
namespace Go.Proofs.YtnphgcbknfmapaaGreatDoor
open Go.RowKit Go.Lib
set_option linter.unusedVariables false

theorem there_row {w : World} {b o n t : Nat} {cs : Array Value} (h : w.heap[b]? = some (.cells cs t (0, 0))) (hn : o + n ≤ cs.size) : w.there b o n := by
  intro j hj
  refine ⟨?_, frozen_of_row w b (o + j) _ _ h⟩
  rw [cell_of_row w b (o + j) _ _ _ h, Array.getElem?_eq_getElem (by omega)]
  rfl
def setAt (cs : Array Value) : Nat → List Value → Array Value
  | _, [] => cs
  | o, v :: r => setAt (cs.setIfInBounds o v) (o + 1) r
theorem setCells_row (b t : Nat) : ∀ (vs : List Value) (o : Nat) (w : World) (cs : Array Value), w.heap[b]? = some (.cells cs t (0, 0)) → (w.setCells b o vs).heap[b]? = some (.cells (setAt cs o vs) t (0, 0))
  | [], _, _, _, h => h
  | v :: r, o, w, cs, h => by
    rw [World.setCells, setAt]
    exact setCells_row b t r (o + 1) _ _ (heap_setCell_same w b o cs t v h)
theorem setCells_other {b k : Nat} (hk : k ≠ b) : ∀ (vs : List Value) (o : Nat) (w : World), (w.setCells b o vs).heap[k]? = w.heap[k]?
  | [], _, _ => rfl
  | v :: r, o, w => by
    rw [World.setCells, setCells_other hk r (o + 1)]
    exact Below.heap_setCell _ _ _ _ hk
theorem below_setCells {B b : Nat} {a : World} (hB : B ≤ b) : ∀ (vs : List Value) (o : Nat) (w : World), Below B a w → Below B a (w.setCells b o vs)
  | [], _, _, h => h
  | v :: r, o, w, h => by
    rw [World.setCells]
    exact below_setCells hB r (o + 1) _ (h.setCell (p := ⟨b, o, none⟩) hB v)
set_option maxRecDepth 100000 in
set_option maxHeartbeats 4000000 in
theorem find_l {w : World} {B a m : Nat} {T : List OM} {mx o : Int} (h : TS w B a m T mx) (ho : I64 o) {x : OM} (hx : findT T o = some x) (n : ByteArray) {i : Nat} {s : SL} (hi : slotI x.o.slots n = some i) (hs : x.o.slots[i]? = some s) :
    Calls Tryz.prog 27 #[.pointer (some ⟨a, 0, none⟩), .int .i64 o, .string n] w fun e w' => e = .returned (.tuple #[s.val, .int .i64 0]) ∧ Below w.heap.size w w' := by
  have hxm := (findT_some hx).1
  have hfl := h.flat x hxm s (List.mem_of_getElem? hs)
  obtain ⟨nm, owner, bits, clr, kind, num, text⟩ := s
  obtain ⟨_, _, e1, e2⟩ := hfl
  simp only at e1 e2
  subst e1
  subst e2
  unfold SL.val
  have HB0 := Lib.hid ((Below.refl w.heap.size w).alloc (Nat.le_refl _) (.cells #[.string ⟨#[]⟩, .int .i64 0, .int .i64 0, .bool false, .int .i64 0, .int .i64 0, .string ⟨#[]⟩, .slice none 0 0] 35))
  have hob := h.tab.objs x hxm
  obtain ⟨g, k, c, hsv, hv⟩ := slotV_some hob hi
  have CF := Lib.hid (find_some (h.tab.below HB0.out) ho n hx hi hsv)
  obtain ⟨A2, C2, hsvA, _, _, _, hcell2⟩ := own_formO hob.slots
  have hgz : g < w.heap.size := (hob.slots.lt g (by rw [hsv]; rfl)).2
  have hc2 : ∀ j, j < 8 → ∀ u, (SL.mk nm owner bits clr 0 num ⟨#[]⟩).cells[j]? = some u → w.cell? ⟨g, i * 8 + j, none⟩ = some u := by
    intro j hj u hu
    obtain ⟨g3, e3, hc⟩ := hcell2 (i * 8 + j) u (by rw [slCells_at _ _ _ j hs hj]; exact hu)
    rw [hsvA, e3] at hsv
    injection hsv with e4 _ _
    injection e4 with e4
    injection e4 with e4 _ _
    subst e4
    exact hc
  have hk : ∀ (W : World), Below w.heap.size w W → ∀ j, j < 8 → ∀ u, (SL.mk nm owner bits clr 0 num ⟨#[]⟩).cells[j]? = some u → W.cell? ⟨g, i * 8 + j, none⟩ = some u := fun W hW j hj u hu => (hW.cell (p := ⟨g, i * 8 + j, none⟩) hgz).trans (hc2 j hj u hu)
  have u0 := hk _ HB0.out 0 (by omega) _ rfl
  rw [Nat.add_zero] at u0
  have u1 := hk _ HB0.out 1 (by omega) _ rfl
  have u2 := hk _ HB0.out 2 (by omega) _ rfl
  have u3 := hk _ HB0.out 3 (by omega) _ rfl
  have u4 := hk _ HB0.out 4 (by omega) _ rfl
  have u5 := hk _ HB0.out 5 (by omega) _ rfl
  have u6 := hk _ HB0.out 6 (by omega) _ rfl
  have u7 := hk _ HB0.out 7 (by omega) _ rfl
  have hba := fun o => HB0.out.alloc HB0.out.size o
  have v4 := fun o => hk _ (hba o) 4 (by omega) _ rfl
  have v5 := fun o => hk _ (hba o) 5 (by omega) _ rfl
  have v6 := fun o => hk _ (hba o) 6 (by omega) _ rfl
  have v7 := fun o => hk _ (hba o) 7 (by omega) _ rfl
  have CC := Lib.hid (show ∀ W, Calls Tryz.prog 59 #[.agg #[.int .i64 0, .int .i64 num, .string ⟨#[]⟩, .slice none 0 0]] W (fun e w' => e = .returned (.agg #[.int .i64 0, .int .i64 num, .string ⟨#[]⟩, .slice none 0 0]) ∧ Below W.heap.size W w') from fun W => clone_int num W)
  have HBA := Lib.hid hba
  clear h hx hxm hob hsv hv hsvA hcell2 hc2 hk hi hs hba
  go_enter Tryz.func27, Tryz.ntmps27
  go_wp2_with fail
  refine CF.out.mono ?_
  rintro e w1 ⟨rfl, rfl⟩
  go_wp2_with fail
  refine (CC.out _).mono ?_
  rintro e w7 ⟨rfl, hb7⟩
  have hr7 := (hb7.block (w.heap.size + 1) (by simp)).trans (heap_alloc2_new _ _ _)
  have hz7 := (hb7.block w.heap.size (by simp; omega)).trans ((Below.heap_alloc _ _ _ (by simp)).trans (heap_alloc_new w _))
  have hbw := (HBA.out (.cells #[.string nm, .int .i64 owner, .int .i64 bits, .bool clr, .int .i64 0, .int .i64 num, .string ⟨#[]⟩, .slice none 0 0] 35)).trans (hb7.mono (by simp; omega))
  obtain ⟨w8, hw8⟩ : ∃ w8, w8 = w7.setCells (w.heap.size + 1) 4 [.int .i64 0, .int .i64 num, .string ⟨#[]⟩, .slice none 0 0] := ⟨_, rfl⟩
  have hr8 : w8.heap[w.heap.size + 1]? = some (.cells #[.string nm, .int .i64 owner, .int .i64 bits, .bool clr, .int .i64 0, .int .i64 num, .string ⟨#[]⟩, .slice none 0 0] 35 (0, 0)) := by
    rw [hw8]
    exact setCells_row _ _ _ _ _ _ hr7
  have hz8 : w8.heap[w.heap.size]? = some (.cells #[.string ⟨#[]⟩, .int .i64 0, .int .i64 0, .bool false, .int .i64 0, .int .i64 0, .string ⟨#[]⟩, .slice none 0 0] 35 (0, 0)) := by
    rw [hw8, setCells_other (by omega)]
    exact hz7
  have hb8 : Below w.heap.size w w8 := by
    rw [hw8]
    exact below_setCells (by omega) _ _ _ hbw
  have y0 := cell_of_row w8 (w.heap.size + 1) 0 _ _ _ hr8
  have y1 := cell_of_row w8 (w.heap.size + 1) 1 _ _ _ hr8
  have y2 := cell_of_row w8 (w.heap.size + 1) 2 _ _ _ hr8
  have y3 := cell_of_row w8 (w.heap.size + 1) 3 _ _ _ hr8
  have y4 := cell_of_row w8 (w.heap.size + 1) 4 _ _ _ hr8
  have y5 := cell_of_row w8 (w.heap.size + 1) 5 _ _ _ hr8
  have y6 := cell_of_row w8 (w.heap.size + 1) 6 _ _ _ hr8
  have y7 := cell_of_row w8 (w.heap.size + 1) 7 _ _ _ hr8
  have HTH := Lib.hid (there_row (o := 4) (n := 4) hr7 (by simp))
  have HW8 := Lib.hid hw8
  have HZ8 := Lib.hid hz8
  have HROW := Lib.hid (setRow_heap w8 w.heap.size _ #[.string nm, .int .i64 owner, .int .i64 bits, .bool clr, .int .i64 0, .int .i64 num, .string ⟨#[]⟩, .slice none 0 0] _ _ hz8)
  have HBR := Lib.hid (sbelow_setRow hb8 (g := w.heap.size) (Nat.le_refl _) #[.string nm, .int .i64 owner, .int .i64 bits, .bool clr, .int .i64 0, .int .i64 num, .string ⟨#[]⟩, .slice none 0 0])
  clear hb7 hr7 hz7 hbw hw8 hr8 hz8 hb8 u0 u1 u2 u3 u4 u5 u6 u7 v4 v5 v6 v7
  go_wp2_with (first
    | (refine wpList_store_mid rfl 33 (.tmp 30) (.tmp 29) rfl (w.heap.size + 1) 4 #[.int .i64 0, .int .i64 num, .string ⟨#[]⟩, .slice none 0 0] rfl rfl HTH.out (by kernel_rfl) (by simp [Value.oneCell']) ?_
       rw [show w7.setCells (w.heap.size + 1) 4 (#[.int .i64 0, .int .i64 num, .string ⟨#[]⟩, .slice none 0 0] : Array Value).toList = w8 from HW8.out.symm])
    | (refine wpList_store_row rfl 35 (.tmp 6) (.tmp 31) rfl w.heap.size #[.string nm, .int .i64 owner, .int .i64 bits, .bool clr, .int .i64 0, .int .i64 num, .string ⟨#[]⟩, .slice none 0 0] rfl rfl _ _ HZ8.out (by kernel_rfl) rfl (by simp [Value.oneCell']) ?_))
  exact bodyPost_ret (results_rowP (P := Tryz.prog) rfl _ _ w.heap.size _ _ _ _ rfl HROW.out Tryz.underlying35 rfl (by kernel_rfl)) rfl ⟨rfl, HBR.out⟩
end Go.Proofs.YtnphgcbknfmapaaGreatDoor
