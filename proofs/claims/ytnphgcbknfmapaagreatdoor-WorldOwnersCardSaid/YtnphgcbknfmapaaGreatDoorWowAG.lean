/- Contracts of the functions that the statement reaches, and the plain mathematics beneath: several texts joined. -/
import Derived.Laws.OwnMore
import Derived.Test.YtnphgcbknfmapaaGreatDoorWowAD
namespace Go.Proofs.YtnphgcbknfmapaaGreatDoor
open Go.RowKit Go.Lib
set_option linter.unusedVariables false

theorem slCells_set2 (A C : Value) : ∀ (ss : List SL) (i : Nat) (s s' : SL), ss[i]? = some s → s'.cells = (s.cells.set 1 A).set 2 C → ((ss.flatMap SL.cells).set (i * 8 + 1) A).set (i * 8 + 2) C = (ss.set i s').flatMap SL.cells
  | [], i, s, s', h, _ => by simp at h
  | x :: r, 0, s, s', h, hc => by
    simp only [List.getElem?_cons_zero, Option.some.injEq] at h
    subst h
    rw [List.flatMap_cons, List.set_cons_zero, List.flatMap_cons, hc, Nat.zero_mul, Nat.zero_add, Nat.zero_add, List.set_append_left _ _ (by simp [SL.cells]), List.set_append_left _ _ (by simp [SL.cells])]
  | x :: r, i + 1, s, s', h, hc => by
    simp only [List.getElem?_cons_succ] at h
    have ih := slCells_set2 A C r i s s' h hc
    have hl : x.cells.length = 8 := rfl
    rw [List.flatMap_cons, List.set_cons_succ, List.flatMap_cons, ← ih, List.set_append_right _ _ (by omega), List.set_append_right _ _ (by omega), hl]
    rw [show (i + 1) * 8 + 1 - 8 = i * 8 + 1 from by omega, show (i + 1) * 8 + 2 - 8 = i * 8 + 2 from by omega]
/-- A slot's owner and bits, set where it lies. -/
theorem info_slot {w : World} {B a m : Nat} {T : List OM} {mx o : Int} (h : TS w B a m T mx) {x : OM} (hx : findT T o = some x) {i g k c : Nat} {s : SL} (hs : x.o.slots[i]? = some s) (hsv : x.sv = .slice (some ⟨g, 0, none⟩) k c) (ow bits : Int) (hb0 : 0 ≤ bits) (hb7 : bits ≤ 7) :
    StS w ((w.setCell ⟨g, i * 8 + 1, none⟩ (.int .i64 ow)).setCell ⟨g, i * 8 + 2, none⟩ (.int .i64 bits)) B a m T (repT T o ⟨{ x.o with slots := x.o.slots.set i { s with owner := ow, bits := bits } }, x.g, x.dv, x.sv⟩) mx mx := by
  have hxm := (findT_some hx).1
  have hob := h.tab.objs x hxm
  have hnd := h.tab.nodupN hxm
  have hgb : g ∈ x.blocks := OM.mem_blocks.2 (.inr (.inr (by rw [hsv]; rfl)))
  have hfl := h.flat x hxm s (List.mem_of_getElem? hs)
  have hnx : x.g ≠ g := by
    rintro e
    unfold OM.blocks at hnd
    rw [List.nodup_cons] at hnd
    exact hnd.1 (by rw [hsv, e]; simp [Value.ownBlock])
  have hk : ∀ b, b ≠ g → ((w.setCell ⟨g, i * 8 + 1, none⟩ (.int .i64 ow)).setCell ⟨g, i * 8 + 2, none⟩ (.int .i64 bits)).heap[b]? = w.heap[b]? := fun b hb => (Below.heap_setCell _ _ _ _ hb).trans (Below.heap_setCell _ _ _ _ hb)
  refine h.rep hx _ rfl rfl ?_ ⟨?_, ?_, ?_⟩ (fun b hb => .inl hb) hnd ?_ ⟨fun e => (h.bare x hxm).1 (by simpa using e), (h.bare x hxm).2⟩
  · exact (Chg.set (S := fun b => b ∈ x.blocks) w (p := ⟨g, i * 8 + 1, none⟩) hgb _).trans (Chg.set (S := fun b => b ∈ x.blocks) _ (p := ⟨g, i * 8 + 2, none⟩) hgb _)
  · exact (hk x.g hnx).trans hob.blk
  · refine ownsRow_same hob.defs fun b hb => hk b ?_
    rintro rfl
    unfold OM.blocks at hnd
    rw [List.nodup_cons, List.nodup_append] at hnd
    exact hnd.2.2.2 b (by rw [hb]; simp) b (by rw [hsv]; simp [Value.ownBlock]) rfl
  · have ho := hob.slots
    rw [hsv] at ho
    obtain ⟨A, C, e, _⟩ := own_formO ho
    injection e with e1 e2 e3
    subst e2
    have h1 := ((ho.stored (i * 8 + 1) (.int .i64 ow)).1.stored (i * 8 + 2) (.int .i64 bits)).1
    rw [slCells_set2 _ _ _ _ s { s with owner := ow, bits := bits } hs rfl] at h1
    show World.ownsRow _ B _ 8 x.sv (x.o.slots.set i { s with owner := ow, bits := bits }).length _
    rw [List.length_set, hsv]
    exact h1
  · intro t ht
    rcases List.mem_or_eq_of_mem_set ht with h1 | h1
    · exact h.flat x hxm t h1
    · subst h1
      exact ⟨hb0, hb7, hfl.2.2.1, hfl.2.2.2⟩
section
variable {w : World} {B a m : Nat} {T : List OM} {mx o : Int} {x : OM}
set_option maxHeartbeats 2000000 in
theorem info_ok (h : TS w B a m T mx) (ho : I64 o) (hx : findT T o = some x) (n : ByteArray) {i : Nat} {s : SL} (hi : slotI x.o.slots n = some i) (hs : x.o.slots[i]? = some s) (ow bits : Int) (how : I64 ow) (hoh : hasO (obT T) ow = true) (hb0 : 0 ≤ bits) (hb7 : bits ≤ 7) :
    Calls Tryz.prog 78 #[.pointer (some ⟨a, 0, none⟩), .int .i64 o, .string n, .int .i64 ow, .int .i64 bits] w fun e w' => e = .returned (.int .i64 0) ∧ ∃ T', StS w w' B a m T T' mx mx ∧ obT T' = repO (obT T) o { x.o with slots := x.o.slots.set i { s with owner := ow, bits := bits } } := by
  have hob := h.tab.objs x (findT_some hx).1
  obtain ⟨g, k, c, hsv, hv⟩ := slotV_some hob hi
  have CF := Lib.hid (find_some h.tab ho n hx hi hsv)
  have CH := Lib.hid (has_c h.tab how)
  rw [hoh] at CH
  have HS := Lib.hid (info_slot h hx hs hsv ow bits hb0 hb7)
  obtain ⟨A2, C2, hsvA, _, _, _, hcell2⟩ := own_formO hob.slots
  have hc2 : ∀ j, j < 8 → ∀ u, s.cells[j]? = some u → w.cell? ⟨g, i * 8 + j, none⟩ = some u := by
    intro j hj u hu
    obtain ⟨g3, e3, hc⟩ := hcell2 (i * 8 + j) u (by rw [slCells_at _ _ _ j hs hj]; exact hu)
    rw [hsvA, e3] at hsv
    injection hsv with e4 _ _
    injection e4 with e4
    injection e4 with e4 _ _
    subst e4
    exact hc
  have u1 := hc2 1 (by omega) _ rfl
  have u2 := hc2 2 (by omega) _ rfl
  have hos := hob.slots
  rw [hsv] at hos
  obtain ⟨A, C, e, _⟩ := own_formO hos
  injection e with e1 e2 e3
  subst e2
  have f1 := hos.frozenAt (i * 8 + 1)
  have f2 := hos.frozenAt (i * 8 + 2)
  have b0 : ¬ bits < 0 := by omega
  have b7 : ¬ 7 < bits := by omega
  have HO := Lib.hid (obT_rep T o ⟨{ x.o with slots := x.o.slots.set i { s with owner := ow, bits := bits } }, x.g, x.dv, x.sv⟩)
  clear h hx hi hsv hv hob hos hsvA hcell2 hc2 hs e1 e3
  go_enter Tryz.func78, Tryz.ntmps78
  go_wp2_with fail
  refine CF.out.mono ?_
  rintro e w1 ⟨rfl, rfl⟩
  go_wp2_with fail
  refine CH.out.mono ?_
  rintro e w1 ⟨rfl, rfl⟩
  go_wp2_with fail
  go_ret
  exact ⟨rfl, _, HS.out, HO.out⟩
end
end Go.Proofs.YtnphgcbknfmapaaGreatDoor
