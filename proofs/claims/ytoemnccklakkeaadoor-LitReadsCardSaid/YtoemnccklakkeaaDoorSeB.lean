/-
  Errors as plain data: Bare, None, Placed, inner, Fault.
-/
import Derived.Test.YtoemnccklakkeaaDoorSeA
import Derived.Handy
namespace Go.Proofs.YtoemnccklakkeaaDoor
open Go.RowKit Go.Lib
set_option linter.unusedVariables false

/-- A fault with no value. -/
def fltV (c : Int) (p : Bool) (pos : Int) : Value := .agg #[.int .i64 c, .bool p, .int .i64 pos, .int .i64 0, .int .i64 0, .string ⟨#[]⟩, .slice none 0 0]

set_option maxRecDepth 100000 in
set_option maxHeartbeats 1000000 in
theorem bare_c (c : Int) (w : World) :
    Calls Tryd.prog 43 #[.int .i64 c] w fun e w' => e = .returned (fltV c false 0) ∧ Below w.heap.size w w' := by
  unfold fltV
  go_enter Tryd.func43, Tryd.ntmps43
  go_wp2
  go_returns
  exact ⟨rfl, (Below.refl _ _).alloc (Nat.le_refl _) _⟩
set_option maxRecDepth 100000 in
set_option maxHeartbeats 1000000 in
theorem none_c (w : World) :
    Calls Tryd.prog 44 #[] w fun e w' => e = .returned (fltV 0 false 0) ∧ Below w.heap.size w w' := by
  unfold fltV
  go_enter Tryd.func44, Tryd.ntmps44
  go_wp2
  go_returns
  exact ⟨rfl, (Below.refl _ _).alloc (Nat.le_refl _) _⟩
set_option maxRecDepth 100000 in
set_option maxHeartbeats 1000000 in
theorem placed_c (c pos : Int) (hc : (c == 0) = false) (w : World) :
    Calls Tryd.prog 33 #[.int .i64 c, .int .i64 pos] w fun e w' => e = .returned (fltV c true pos) ∧ Below w.heap.size w w' := by
  unfold fltV
  go_enter Tryd.func33, Tryd.ntmps33
  go_wp2
  go_returns
  exact ⟨rfl, (Below.refl _ _).alloc (Nat.le_refl _) _⟩

/-- Seven cells in a block of their own. -/
def StF (w : World) (g : Nat) (a b c d e f h : Value) : Prop := w.heap[g]? = some (.cells #[a, b, c, d, e, f, h] 37 (0, 0))
section
variable {w w' : World} {g : Nat} {a b c d e f h : Value}
theorem StF.new (W : World) (a b c d e f h : Value) : StF (W.alloc (.cells #[a, b, c, d, e, f, h] 37)) W.heap.size a b c d e f h := by unfold StF World.alloc; simp
theorem StF.lt (H : StF w g a b c d e f h) : g < w.heap.size := by
  rcases Nat.lt_or_ge g w.heap.size with hlt | hge
  · exact hlt
  · unfold StF at H; rw [Array.getElem?_eq_none hge] at H; cases H
theorem StF.below (H : StF w g a b c d e f h) (hb : Below w.heap.size w w') : StF w' g a b c d e f h := (hb.block g H.lt).trans H
theorem StF.cells (H : StF w g a b c d e f h) : w.cell? ⟨g, 0, none⟩ = some a ∧ w.cell? ⟨g, 1, none⟩ = some b ∧ w.cell? ⟨g, 2, none⟩ = some c ∧ w.cell? ⟨g, 3, none⟩ = some d ∧ w.cell? ⟨g, 4, none⟩ = some e ∧ w.cell? ⟨g, 5, none⟩ = some f ∧ w.cell? ⟨g, 6, none⟩ = some h :=
  ⟨cell_of_row w g 0 _ _ _ H, cell_of_row w g 1 _ _ _ H, cell_of_row w g 2 _ _ _ H, cell_of_row w g 3 _ _ _ H, cell_of_row w g 4 _ _ _ H, cell_of_row w g 5 _ _ _ H, cell_of_row w g 6 _ _ _ H⟩
theorem StF.fr (H : StF w g a b c d e f h) (k : Nat) : w.frozen? ⟨g, k, none⟩ = false := by unfold StF at H; simp [World.frozen?, H]
end
theorem StF.set7 {w : World} {g : Nat} {a b c d e f h : Value} (H : StF w g a b c d e f h) (a' b' c' d' e' f' h' : Value) :
    StF (((((((w.setCell ⟨g, 0, none⟩ a').setCell ⟨g, 1, none⟩ b').setCell ⟨g, 2, none⟩ c').setCell ⟨g, 3, none⟩ d').setCell ⟨g, 4, none⟩ e').setCell ⟨g, 5, none⟩ f').setCell ⟨g, 6, none⟩ h') g a' b' c' d' e' f' h' := by
  unfold StF at H ⊢; simp [World.setCell, Array.getElem?_modify, H]
theorem below_set7 {w w' : World} {B : Nat} (h : Below B w w') {g : Nat} (hg : B ≤ g) (a b c d e f k : Value) :
    Below B w (((((((w'.setCell ⟨g, 0, none⟩ a).setCell ⟨g, 1, none⟩ b).setCell ⟨g, 2, none⟩ c).setCell ⟨g, 3, none⟩ d).setCell ⟨g, 4, none⟩ e).setCell ⟨g, 5, none⟩ f).setCell ⟨g, 6, none⟩ k) :=
  Below.setCell (Below.setCell (Below.setCell (Below.setCell (Below.setCell (Below.setCell (Below.setCell h hg _) hg _) hg _) hg _) hg _) hg _) hg _
/-- A struct of seven cells handed back. -/
theorem ret_cell7 {fn : Func} {p : Tmp} {Q : Ending → World → Prop} {act : Act} {w : World} (hr : fn.results = #[.cell p 37]) (g : Nat) (hp : act.tmps.getD p undef = .pointer (some ⟨g, 0, none⟩)) (hd : act.defers = [])
    {a b c d e f h : Value} (hS : StF w g a b c d e f h) (hQ : Q (.returned (.agg #[a, b, c, d, e, f, h])) w) : bodyPost Tryd.prog fn Q .ret act w := by
  refine bodyPost_ret (v := .agg #[a, b, c, d, e, f, h]) ?_ hd hQ
  obtain ⟨c0, c1, c2, c3, c4, c5, c6⟩ := hS.cells
  have hp' : (act.tmps[p]?).getD undef = .pointer (some ⟨g, 0, none⟩) := by simpa using hp
  simp [results, hr, hp', go_sem, c0, c1, c2, c3, c4, c5, c6]
theorem belowLe {B B' : Nat} {w w' : World} (h : Below B w w') (hb : B' ≤ B) : Below B' w w' := ⟨h.os, h.tape, h.output, h.size, fun k hk => h.block k (by omega)⟩

set_option maxRecDepth 100000 in
set_option maxHeartbeats 2000000 in
theorem inner_c (ea : Nat → Addr) (c : Nat) (w : World) (h : SeesAt w ea) (hc : c < 17) :
    Calls Tryd.prog 72 #[.iface 142 (.pointer (some (ea (101 + c))))] w fun e w' => e = .returned (fltV (101 + (c : Int)) false 0) ∧ Below w.heap.size w w' := by
  have ta : ∀ w : World, (Instr.typeAssert (.iface 142 (.pointer (some (ea (101 + c))))) 33 114 true).run Tryd.prog w = .ok (.tuple #[.pointer none, .bool false]) w := fun w => by kernel_rfl
  obtain ⟨w1, hw1⟩ : ∃ w1, w1 = w.alloc (.cells #[.int .i64 0, .bool false, .int .i64 0, .int .i64 0, .int .i64 0, .string ⟨#[]⟩, .slice none 0 0] 37) := ⟨_, rfl⟩
  have hb1 : Below w.heap.size w w1 := by rw [hw1]; exact (Below.refl _ _).alloc (Nat.le_refl _) _
  have hS : StF w1 w.heap.size (.int .i64 0) (.bool false) (.int .i64 0) (.int .i64 0) (.int .i64 0) (.string ⟨#[]⟩) (.slice none 0 0) := by rw [hw1]; exact StF.new w _ _ _ _ _ _ _
  have SC := Lib.hid (sentinel_c ea c w1 (h.below hb1) hc)
  have HB := Lib.hid hb1
  have HS := Lib.hid hS
  have HW := Lib.hid hw1
  have BC := Lib.hid (fun W => bare_c (101 + (c : Int)) W)
  unfold fltV
  unfold fltV at BC
  clear hb1 hS h hw1
  go_enter Tryd.func72, Tryd.ntmps72
  go_wp2_with fail
  rw [← HW.out]
  refine SC.out.mono ?_
  rintro e w2 ⟨rfl, hb2⟩
  have hs2 := HS.out.below hb2
  have HB2 := Lib.hid (HB.out.trans (belowLe hb2 HB.out.size))
  clear SC hb2
  have HS2 := Lib.hid hs2
  clear hs2
  go_wp2_with fail
  refine (BC.out _).mono ?_
  rintro e w3 ⟨rfl, hb3⟩
  have hs3 := HS2.out.below hb3
  obtain ⟨c0, c1, c2, c3, c4, c5, c6⟩ := hs3.cells
  have f0 := hs3.fr 0; have f1 := hs3.fr 1; have f2 := hs3.fr 2; have f3 := hs3.fr 3; have f4 := hs3.fr 4; have f5 := hs3.fr 5; have f6 := hs3.fr 6
  have HB3 := Lib.hid (HB2.out.trans (belowLe hb3 HB2.out.size))
  have HS3 := Lib.hid hs3
  clear hb3 hs3
  go_wp2_with fail
  refine ret_cell7 Tryd.results72 w.heap.size rfl rfl (HS3.out.set7 _ _ _ _ _ _ _) ?_
  exact ⟨rfl, below_set7 HB3.out (Nat.le_refl _) _ _ _ _ _ _ _⟩

set_option maxRecDepth 100000 in
set_option maxHeartbeats 2000000 in
theorem fault_nil (w : World) :
    Calls Tryd.prog 46 #[.nilIface] w fun e w' => e = .returned (fltV 0 false 0) ∧ Below w.heap.size w w' := by
  obtain ⟨w1, hw1⟩ : ∃ w1, w1 = w.alloc (.cells #[.int .i64 0, .bool false, .int .i64 0, .int .i64 0, .int .i64 0, .string ⟨#[]⟩, .slice none 0 0] 37) := ⟨_, rfl⟩
  have hb1 : Below w.heap.size w w1 := by rw [hw1]; exact (Below.refl _ _).alloc (Nat.le_refl _) _
  have hS : StF w1 w.heap.size (.int .i64 0) (.bool false) (.int .i64 0) (.int .i64 0) (.int .i64 0) (.string ⟨#[]⟩) (.slice none 0 0) := by rw [hw1]; exact StF.new w _ _ _ _ _ _ _
  have HB := Lib.hid hb1
  have HS := Lib.hid hS
  have HW := Lib.hid hw1
  have BC := Lib.hid (fun W => none_c W)
  unfold fltV
  unfold fltV at BC
  clear hb1 hS hw1
  go_enter Tryd.func46, Tryd.ntmps46
  go_wp2_with fail
  rw [← HW.out]
  refine (BC.out _).mono ?_
  rintro e w3 ⟨rfl, hb3⟩
  have hs3 := HS.out.below hb3
  obtain ⟨c0, c1, c2, c3, c4, c5, c6⟩ := hs3.cells
  have f0 := hs3.fr 0; have f1 := hs3.fr 1; have f2 := hs3.fr 2; have f3 := hs3.fr 3; have f4 := hs3.fr 4; have f5 := hs3.fr 5; have f6 := hs3.fr 6
  have HB3 := Lib.hid (HB.out.trans (belowLe hb3 HB.out.size))
  have HS3 := Lib.hid hs3
  clear hb3 hs3
  go_wp2_with fail
  refine ret_cell7 Tryd.results46 w.heap.size rfl rfl (HS3.out.set7 _ _ _ _ _ _ _) ?_
  exact ⟨rfl, below_set7 HB3.out (Nat.le_refl _) _ _ _ _ _ _ _⟩

set_option maxRecDepth 100000 in
set_option maxHeartbeats 2000000 in
theorem fault_bare (ea : Nat → Addr) (c : Nat) (w : World) (h : SeesAt w ea) (hc : c < 17) :
    Calls Tryd.prog 46 #[.iface 142 (.pointer (some (ea (101 + c))))] w fun e w' => e = .returned (fltV (101 + (c : Int)) false 0) ∧ Below w.heap.size w w' := by
  have ta : ∀ w : World, (Instr.typeAssert (.iface 142 (.pointer (some (ea (101 + c))))) 33 66 true).run Tryd.prog w = .ok (.tuple #[.pointer none, .bool false]) w := fun w => by kernel_rfl
  obtain ⟨w1, hw1⟩ : ∃ w1, w1 = w.alloc (.cells #[.int .i64 0, .bool false, .int .i64 0, .int .i64 0, .int .i64 0, .string ⟨#[]⟩, .slice none 0 0] 37) := ⟨_, rfl⟩
  have hb1 : Below w.heap.size w w1 := by rw [hw1]; exact (Below.refl _ _).alloc (Nat.le_refl _) _
  have hS : StF w1 w.heap.size (.int .i64 0) (.bool false) (.int .i64 0) (.int .i64 0) (.int .i64 0) (.string ⟨#[]⟩) (.slice none 0 0) := by rw [hw1]; exact StF.new w _ _ _ _ _ _ _
  have HB := Lib.hid hb1
  have HS := Lib.hid hS
  have HW := Lib.hid hw1
  have BC := Lib.hid (inner_c ea c w1 (h.below hb1) hc)
  unfold fltV
  unfold fltV at BC
  clear hb1 hS hw1 h
  go_enter Tryd.func46, Tryd.ntmps46
  go_wp2_with fail
  rw [← HW.out]
  refine BC.out.mono ?_
  rintro e w3 ⟨rfl, hb3⟩
  have hs3 := HS.out.below hb3
  obtain ⟨c0, c1, c2, c3, c4, c5, c6⟩ := hs3.cells
  have f0 := hs3.fr 0; have f1 := hs3.fr 1; have f2 := hs3.fr 2; have f3 := hs3.fr 3; have f4 := hs3.fr 4; have f5 := hs3.fr 5; have f6 := hs3.fr 6
  have HB3 := Lib.hid (HB.out.trans (belowLe hb3 HB.out.size))
  have HS3 := Lib.hid hs3
  clear hb3 hs3
  go_wp2_with fail
  refine ret_cell7 Tryd.results46 w.heap.size rfl rfl (HS3.out.set7 _ _ _ _ _ _ _) ?_
  exact ⟨rfl, below_set7 HB3.out (Nat.le_refl _) _ _ _ _ _ _ _⟩

/-- An error around a place, in memory. -/
def AtAt (w : World) (A : Nat) (pos : Int) (v : Value) : Prop := w.heap[A]? = some (.cells #[.int .i64 pos, v] 68 (0, 0))
theorem AtAt.below {w w' : World} {A : Nat} {pos : Int} {v : Value} (H : AtAt w A pos v) (hb : Below w.heap.size w w') : AtAt w' A pos v := by
  have hlt : A < w.heap.size := by
    rcases Nat.lt_or_ge A w.heap.size with hlt | hge
    · exact hlt
    · unfold AtAt at H; rw [Array.getElem?_eq_none hge] at H; cases H
  exact (hb.block A hlt).trans H
theorem AtAt.c0 {w : World} {A : Nat} {pos : Int} {v : Value} (H : AtAt w A pos v) : w.cell? ⟨A, 0, none⟩ = some (.int .i64 pos) := cell_of_row w A 0 _ _ _ H
theorem AtAt.c1 {w : World} {A : Nat} {pos : Int} {v : Value} (H : AtAt w A pos v) : w.cell? ⟨A, 1, none⟩ = some v := cell_of_row w A 1 _ _ _ H

set_option maxRecDepth 100000 in
set_option maxHeartbeats 4000000 in
theorem fault_at (ea : Nat → Addr) (c : Nat) (A : Nat) (pos : Int) (w : World) (h : SeesAt w ea) (hc : c < 17) (hA : AtAt w A pos (.iface 142 (.pointer (some (ea (101 + c)))))) :
    Calls Tryd.prog 46 #[.iface 66 (.pointer (some ⟨A, 0, none⟩))] w fun e w' => e = .returned (fltV (101 + (c : Int)) true pos) ∧ Below w.heap.size w w' := by
  have ta : ∀ w : World, (Instr.typeAssert (.iface 66 (.pointer (some ⟨A, 0, none⟩))) 33 66 true).run Tryd.prog w = .ok (.tuple #[.pointer (some ⟨A, 0, none⟩), .bool true]) w := fun w => by kernel_rfl
  obtain ⟨w1, hw1⟩ : ∃ w1, w1 = w.alloc (.cells #[.int .i64 0, .bool false, .int .i64 0, .int .i64 0, .int .i64 0, .string ⟨#[]⟩, .slice none 0 0] 37) := ⟨_, rfl⟩
  have hb1 : Below w.heap.size w w1 := by rw [hw1]; exact (Below.refl _ _).alloc (Nat.le_refl _) _
  have hS : StF w1 w.heap.size (.int .i64 0) (.bool false) (.int .i64 0) (.int .i64 0) (.int .i64 0) (.string ⟨#[]⟩) (.slice none 0 0) := by rw [hw1]; exact StF.new w _ _ _ _ _ _ _
  have hA1 := hA.below hb1
  have a0 := hA1.c0
  have a1 := hA1.c1
  rw [hw1] at a0 a1
  have HB := Lib.hid hb1
  have HS := Lib.hid hS
  have HW := Lib.hid hw1
  have HA := Lib.hid hA1
  have BC := Lib.hid (inner_c ea c w1 (h.below hb1) hc)
  unfold fltV
  unfold fltV at BC
  clear hb1 hS hw1 h hA hA1
  go_enter Tryd.func46, Tryd.ntmps46
  go_wp2_with fail
  rw [← HW.out]
  refine BC.out.mono ?_
  rintro e w3 ⟨rfl, hb3⟩
  have hs3 := HS.out.below hb3
  have ha3 := HA.out.below hb3
  have hz3 := hs3.lt
  have hAlt : A < w3.heap.size := by
    rcases Nat.lt_or_ge A w3.heap.size with hlt | hge
    · exact hlt
    · unfold AtAt at ha3; rw [Array.getElem?_eq_none hge] at ha3; cases ha3
  have ka : ∀ (p : Addr) (o : Obj), p.block < w3.heap.size → (w3.alloc o).cell? p = w3.cell? p := fun p o hp => World.cell?_of_block (w := w3) (Below.heap_alloc w3 o p.block hp)
  have b0 := fun o => (ka ⟨A, 0, none⟩ o hAlt).trans ha3.c0
  obtain ⟨c0, c1, c2, c3, c4, c5, c6⟩ := hs3.cells
  have d0 := fun o => (ka ⟨w.heap.size, 0, none⟩ o hz3).trans c0
  have d1 := fun o => (ka ⟨w.heap.size, 1, none⟩ o hz3).trans c1
  have d2 := fun o => (ka ⟨w.heap.size, 2, none⟩ o hz3).trans c2
  have d3 := fun o => (ka ⟨w.heap.size, 3, none⟩ o hz3).trans c3
  have d4 := fun o => (ka ⟨w.heap.size, 4, none⟩ o hz3).trans c4
  have d5 := fun o => (ka ⟨w.heap.size, 5, none⟩ o hz3).trans c5
  have d6 := fun o => (ka ⟨w.heap.size, 6, none⟩ o hz3).trans c6
  have hSo : ∀ o, StF (w3.alloc o) w.heap.size (.int .i64 0) (.bool false) (.int .i64 0) (.int .i64 0) (.int .i64 0) (.string ⟨#[]⟩) (.slice none 0 0) := fun o => (Below.heap_alloc w3 o _ hz3).trans hs3
  have f0 := fun o => (hSo o).fr 0
  have f1 := fun o => (hSo o).fr 1
  have f2 := fun o => (hSo o).fr 2
  have f3 := fun o => (hSo o).fr 3
  have f4 := fun o => (hSo o).fr 4
  have f5 := fun o => (hSo o).fr 5
  have f6 := fun o => (hSo o).fr 6
  have HSO := Lib.hid hSo
  have HB3 := Lib.hid (HB.out.trans (belowLe hb3 HB.out.size))
  clear hb3 hs3 ha3 hAlt hz3 ka hSo c0 c1 c2 c3 c4 c5 c6
  go_wp2_with fail
  refine ret_cell7 Tryd.results46 w.heap.size rfl rfl ((HSO.out _).set7 _ _ _ _ _ _ _) ?_
  exact ⟨rfl, below_set7 (HB3.out.alloc HB3.out.size _) (Nat.le_refl _) _ _ _ _ _ _ _⟩
end Go.Proofs.YtoemnccklakkeaaDoor
