/-
  Errors as plain data: SameFault, Same.
-/
import Derived.Test.YtoemnccklakkeaaDoorSeB
import Derived.Test.YtoemnccklakkeaaDoorSmC
namespace Go.Proofs.YtoemnccklakkeaaDoor
open Go.RowKit Go.Lib
set_option linter.unusedVariables false

set_option maxRecDepth 100000 in
set_option maxHeartbeats 2000000 in
theorem sameFault_c (c : Int) (p : Bool) (pos : Int) (w : World) :
    Calls Tryd.prog 45 #[fltV c p pos, fltV c p pos] w fun e w' => e = .returned (.bool true) ∧ Below w.heap.size w w' := by
  obtain ⟨w1, hw1⟩ : ∃ w1, w1 = (w.alloc (.cells #[.int .i64 c, .bool p, .int .i64 pos, .int .i64 0, .int .i64 0, .string ⟨#[]⟩, .slice none 0 0] 37)).alloc (.cells #[.int .i64 c, .bool p, .int .i64 pos, .int .i64 0, .int .i64 0, .string ⟨#[]⟩, .slice none 0 0] 37) := ⟨_, rfl⟩
  have hb1 : Below w.heap.size w w1 := by rw [hw1]; exact ((Below.refl _ _).alloc (Nat.le_refl _) _).alloc (by simp) _
  have hS : StF w1 w.heap.size (.int .i64 c) (.bool p) (.int .i64 pos) (.int .i64 0) (.int .i64 0) (.string ⟨#[]⟩) (.slice none 0 0) := by
    rw [hw1]; exact (Below.heap_alloc _ _ _ (by simp)).trans (StF.new w _ _ _ _ _ _ _)
  have hT : StF w1 (w.heap.size + 1) (.int .i64 c) (.bool p) (.int .i64 pos) (.int .i64 0) (.int .i64 0) (.string ⟨#[]⟩) (.slice none 0 0) := by
    rw [hw1]; have := StF.new (w.alloc (.cells #[.int .i64 c, .bool p, .int .i64 pos, .int .i64 0, .int .i64 0, .string ⟨#[]⟩, .slice none 0 0] 37)) (.int .i64 c) (.bool p) (.int .i64 pos) (.int .i64 0) (.int .i64 0) (.string ⟨#[]⟩) (.slice none 0 0)
    rw [World.size_alloc] at this; exact this
  have hfit : (val1 0 0 ⟨#[]⟩ .nil).fit := ⟨by decide, by decide, trivial, trivial⟩
  have VC := Lib.hid (sameV_c 0 0 ⟨#[]⟩ .nil none 0 0 0 ⟨#[]⟩ .nil none 0 w1 hfit hfit (Nat.le_refl _) (Nat.le_refl _) trivial trivial)
  rw [same1_iff.2 ⟨rfl, rfl, rfl, rfl⟩, show VL.nil.len = 0 from rfl] at VC
  have HW := Lib.hid hw1
  have HS := Lib.hid hS
  have HT := Lib.hid hT
  have HB := Lib.hid hb1
  unfold fltV
  clear hb1 hS hT hw1 hfit
  go_enter Tryd.func45, Tryd.ntmps45
  go_wp2_with fail
  rw [← HW.out]
  refine VC.out.mono ?_
  rintro e w2 ⟨rfl, hb2⟩
  obtain ⟨c0, c1, c2, c3, c4, c5, c6⟩ := (HS.out.below hb2).cells
  obtain ⟨d0, d1, d2, d3, d4, d5, d6⟩ := (HT.out.below hb2).cells
  have HB2 := Lib.hid (HB.out.trans (belowLe hb2 HB.out.size))
  clear hb2
  go_wp2_with fail
  go_returns
  exact ⟨by simp, HB2.out⟩

set_option maxRecDepth 100000 in
set_option maxHeartbeats 2000000 in
theorem same_c (v : Value) (c : Int) (p : Bool) (pos : Int) (w : World) (H : ∀ W, Below w.heap.size w W → Calls Tryd.prog 46 #[v] W fun e w' => e = .returned (fltV c p pos) ∧ Below W.heap.size W w') :
    Calls Tryd.prog 19 #[v, fltV c p pos] w fun e w' => e = .returned (.bool true) ∧ Below w.heap.size w w' := by
  obtain ⟨w1, hw1⟩ : ∃ w1, w1 = w.alloc (.cells #[.int .i64 c, .bool p, .int .i64 pos, .int .i64 0, .int .i64 0, .string ⟨#[]⟩, .slice none 0 0] 37) := ⟨_, rfl⟩
  have hb1 : Below w.heap.size w w1 := by rw [hw1]; exact (Below.refl _ _).alloc (Nat.le_refl _) _
  have hS : StF w1 w.heap.size (.int .i64 c) (.bool p) (.int .i64 pos) (.int .i64 0) (.int .i64 0) (.string ⟨#[]⟩) (.slice none 0 0) := by rw [hw1]; exact StF.new w _ _ _ _ _ _ _
  obtain ⟨S, hSd⟩ : ∃ S : World → Prop, S = fun W => W.cell? ⟨w.heap.size, 0, none⟩ = some (.int .i64 c) ∧ W.cell? ⟨w.heap.size, 1, none⟩ = some (.bool p) ∧ W.cell? ⟨w.heap.size, 2, none⟩ = some (.int .i64 pos) ∧ W.cell? ⟨w.heap.size, 3, none⟩ = some (.int .i64 0) ∧
    W.cell? ⟨w.heap.size, 4, none⟩ = some (.int .i64 0) ∧ W.cell? ⟨w.heap.size, 5, none⟩ = some (.string ⟨#[]⟩) ∧ W.cell? ⟨w.heap.size, 6, none⟩ = some (.slice none 0 0) ∧ Below w1.heap.size w1 W := ⟨_, rfl⟩
  have KS : ∀ W, Below w1.heap.size w1 W → S W := fun W hW => by
    obtain ⟨c0, c1, c2, c3, c4, c5, c6⟩ := (hS.below hW).cells
    rw [hSd]; exact ⟨c0, c1, c2, c3, c4, c5, c6, hW⟩
  have BS : ∀ W, S W → Below w1.heap.size w1 W := fun W h => by rw [hSd] at h; exact h.2.2.2.2.2.2.2
  have C1 := Lib.hid (fun W (h : S W) => (H W (hb1.trans (belowLe (BS W h) hb1.size))).mono (R' := fun e W' => e = .returned (fltV c p pos) ∧ S W') fun e W' h' => ⟨h'.1, KS _ ((BS W h).trans (belowLe h'.2 (BS W h).size))⟩)
  have C2 := Lib.hid (fun W (h : S W) => (sameFault_c c p pos W).mono (R' := fun e W' => e = .returned (.bool true) ∧ S W') fun e W' h' => ⟨h'.1, KS _ ((BS W h).trans (belowLe h'.2 (BS W h).size))⟩)
  have K0 : S w1.drew := KS _ (Below.refl _ _).drew
  have BA := Lib.hid (fun W (h : S W) => hb1.trans (belowLe (BS W h) hb1.size))
  have HW := Lib.hid hw1
  unfold fltV
  unfold fltV at C1 C2
  clear KS BS hS hb1 hw1 H
  subst hSd
  go_enter Tryd.func19, Tryd.ntmps19
  go_wp2_with fail
  rw [← HW.out]
  go_region_held3 (fun W => W.cell? ⟨w.heap.size, 0, none⟩ = some (.int .i64 c) ∧ W.cell? ⟨w.heap.size, 1, none⟩ = some (.bool p) ∧ W.cell? ⟨w.heap.size, 2, none⟩ = some (.int .i64 pos) ∧ W.cell? ⟨w.heap.size, 3, none⟩ = some (.int .i64 0) ∧
    W.cell? ⟨w.heap.size, 4, none⟩ = some (.int .i64 0) ∧ W.cell? ⟨w.heap.size, 5, none⟩ = some (.string ⟨#[]⟩) ∧ W.cell? ⟨w.heap.size, 6, none⟩ = some (.slice none 0 0) ∧ Below w1.heap.size w1 W)
    (first | assumption | exact K0)
    (first
      | (go_at_call 46; refine (C1.out _ ?_).mono ?_; assumption; rintro e w' ⟨rfl, hs⟩)
      | (go_at_call 45; refine (C2.out _ ?_).mono ?_; assumption; rintro e w' ⟨rfl, hs⟩))
  all_goals
    go_wp2_with fail
    go_returns
    exact ⟨rfl, BA.out _ (by assumption)⟩
end Go.Proofs.YtoemnccklakkeaaDoor
