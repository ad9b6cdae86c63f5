/- Contracts of the functions that the statement reaches, and the plain mathematics beneath: several texts joined. -/
import Derived.Test.YtgmnbdfbbcpciaaGreatDoorSmC
import Derived.Test.YtgmnbdfbbcpciaaGreatDoorShelf
import Derived.Test.YtgmnbdfbbcpciaaGreatDoorSmB
import Derived.Test.YtgmnbdfbbcpciaaGreatDoorSmA
namespace Go.Proofs.YtgmnbdfbbcpciaaGreatDoor
open Go.RowKit Go.Lib
set_option linter.unusedVariables false

set_option maxRecDepth 100000 in
set_option maxHeartbeats 2000000 in
theorem stands_0 (op ln : Int) (s : ByteArray) (k n : Int) (t : ByteArray) (vv vs : Value) (w : World) :
    Calls Tryz.prog 57 #[.agg #[.int .i64 op, .int .i64 ln, .string s, .int .i64 k, .int .i64 n, .string t, vv, vs], .int .i64 0] w fun e w' => e = .returned (.bool (standsP op 0)) ∧ Below w.heap.size w w' := by
  obtain ⟨wa, hwa⟩ : ∃ wa, wa = w.alloc (.cells #[.int .i64 op, .int .i64 ln, .string s, .int .i64 k, .int .i64 n, .string t, vv, vs] 33) := ⟨_, rfl⟩
  have hb : Below w.heap.size w wa := by rw [hwa]; exact (Below.refl _ _).alloc (Nat.le_refl _) _
  have hN : NdB wa w.heap.size (.int .i64 op) (.int .i64 ln) (.string s) (.int .i64 k) (.int .i64 n) (.string t) vv vs := by rw [hwa]; exact NdB.new _ _ _ _ _ _ _ _ _
  have v0 := hN.c0
  rw [hwa] at v0
  have HB := Lib.hid hb
  have HWA := Lib.hid hwa
  clear hb hN hwa
  by_cases hn : op = 2 ∨ op = 20 ∨ op = 22 ∨ op = 25 ∨ op = 26 ∨ op = 50 ∨ op = 52
  · rcases hn with rfl | rfl | rfl | rfl | rfl | rfl | rfl
    all_goals
      go_enter Tryz.func57, Tryz.ntmps57
      go_wp2_with fail
      rw [← HWA.out]
      go_ret
      exact ⟨rfl, HB.out⟩
  have n2 := beq_no (show op ≠ 2 by omega)
  have n20 := beq_no (show op ≠ 20 by omega)
  have n22 := beq_no (show op ≠ 22 by omega)
  have n25 := beq_no (show op ≠ 25 by omega)
  have n26 := beq_no (show op ≠ 26 by omega)
  have n50 := beq_no (show op ≠ 50 by omega)
  have n52 := beq_no (show op ≠ 52 by omega)
  have b26 := bne_yes (show op ≠ 26 by omega)
  have b50 := bne_yes (show op ≠ 50 by omega)
  have hk : op < 1 ∨ (1 ≤ op ∧ op ≤ 29) ∨ (30 ≤ op ∧ op ≤ 39) ∨ (40 ≤ op ∧ op ≤ 51) ∨ 53 ≤ op := by omega
  have HNX := Lib.hid hn
  clear hn
  rcases hk with h1 | ⟨h1, h2⟩ | ⟨h1, h2⟩ | ⟨h1, h2⟩ | h1
  · have g1 : ¬ (1 ≤ op) := by omega
    have g2 : op ≤ 29 := by omega
    have g3 : ¬ (40 ≤ op) := by omega
    have g4 : op ≤ 51 := by omega
    have HS := Lib.hid (show standsP op 0 = false by have hx := HNX.out; simp [standsP, isExpr]; try omega)
    go_enter Tryz.func57, Tryz.ntmps57
    go_wp2_with fail
    rw [← HWA.out]
    go_ret
    exact ⟨ret_val (by rw [HS.out]; rfl), HB.out⟩
  · have g1 : 1 ≤ op := by omega
    have g2 : op ≤ 29 := by omega
    have g3 : ¬ (40 ≤ op) := by omega
    have g4 : op ≤ 51 := by omega
    have HS := Lib.hid (show standsP op 0 = true by have hx := HNX.out; simp [standsP, isExpr]; try omega)
    go_enter Tryz.func57, Tryz.ntmps57
    go_wp2_with fail
    rw [← HWA.out]
    go_ret
    exact ⟨ret_val (by rw [HS.out]; rfl), HB.out⟩
  · have g1 : 1 ≤ op := by omega
    have g2 : ¬ (op ≤ 29) := by omega
    have g3 : ¬ (40 ≤ op) := by omega
    have g4 : op ≤ 51 := by omega
    have HS := Lib.hid (show standsP op 0 = false by have hx := HNX.out; simp [standsP, isExpr]; try omega)
    go_enter Tryz.func57, Tryz.ntmps57
    go_wp2_with fail
    rw [← HWA.out]
    go_ret
    exact ⟨ret_val (by rw [HS.out]; rfl), HB.out⟩
  · have g1 : 1 ≤ op := by omega
    have g2 : ¬ (op ≤ 29) := by omega
    have g3 : 40 ≤ op := by omega
    have g4 : op ≤ 51 := by omega
    have HS := Lib.hid (show standsP op 0 = false by have hx := HNX.out; simp [standsP, isExpr]; try omega)
    go_enter Tryz.func57, Tryz.ntmps57
    go_wp2_with fail
    rw [← HWA.out]
    go_ret
    exact ⟨ret_val (by rw [HS.out]; rfl), HB.out⟩
  · have g1 : 1 ≤ op := by omega
    have g2 : ¬ (op ≤ 29) := by omega
    have g3 : 40 ≤ op := by omega
    have g4 : ¬ (op ≤ 51) := by omega
    have HS := Lib.hid (show standsP op 0 = false by have hx := HNX.out; simp [standsP, isExpr]; try omega)
    go_enter Tryz.func57, Tryz.ntmps57
    go_wp2_with fail
    rw [← HWA.out]
    go_ret
    exact ⟨ret_val (by rw [HS.out]; rfl), HB.out⟩

set_option maxRecDepth 100000 in
set_option maxHeartbeats 2000000 in
theorem stands_1 (op ln : Int) (s : ByteArray) (k n : Int) (t : ByteArray) (vv vs : Value) (w : World) :
    Calls Tryz.prog 57 #[.agg #[.int .i64 op, .int .i64 ln, .string s, .int .i64 k, .int .i64 n, .string t, vv, vs], .int .i64 1] w fun e w' => e = .returned (.bool (standsP op 1)) ∧ Below w.heap.size w w' := by
  obtain ⟨wa, hwa⟩ : ∃ wa, wa = w.alloc (.cells #[.int .i64 op, .int .i64 ln, .string s, .int .i64 k, .int .i64 n, .string t, vv, vs] 33) := ⟨_, rfl⟩
  have hb : Below w.heap.size w wa := by rw [hwa]; exact (Below.refl _ _).alloc (Nat.le_refl _) _
  have hN : NdB wa w.heap.size (.int .i64 op) (.int .i64 ln) (.string s) (.int .i64 k) (.int .i64 n) (.string t) vv vs := by rw [hwa]; exact NdB.new _ _ _ _ _ _ _ _ _
  have v0 := hN.c0
  rw [hwa] at v0
  have HB := Lib.hid hb
  have HWA := Lib.hid hwa
  clear hb hN hwa
  by_cases hn : op = 2 ∨ op = 20 ∨ op = 22 ∨ op = 25 ∨ op = 26 ∨ op = 50 ∨ op = 52
  · rcases hn with rfl | rfl | rfl | rfl | rfl | rfl | rfl
    all_goals
      go_enter Tryz.func57, Tryz.ntmps57
      go_wp2_with fail
      rw [← HWA.out]
      go_ret
      exact ⟨rfl, HB.out⟩
  have n2 := beq_no (show op ≠ 2 by omega)
  have n20 := beq_no (show op ≠ 20 by omega)
  have n22 := beq_no (show op ≠ 22 by omega)
  have n25 := beq_no (show op ≠ 25 by omega)
  have n26 := beq_no (show op ≠ 26 by omega)
  have n50 := beq_no (show op ≠ 50 by omega)
  have n52 := beq_no (show op ≠ 52 by omega)
  have b26 := bne_yes (show op ≠ 26 by omega)
  have b50 := bne_yes (show op ≠ 50 by omega)
  have hk : op < 1 ∨ (1 ≤ op ∧ op ≤ 29) ∨ (30 ≤ op ∧ op ≤ 39) ∨ (40 ≤ op ∧ op ≤ 51) ∨ 53 ≤ op := by omega
  have HNX := Lib.hid hn
  clear hn
  rcases hk with h1 | ⟨h1, h2⟩ | ⟨h1, h2⟩ | ⟨h1, h2⟩ | h1
  · have g1 : ¬ (1 ≤ op) := by omega
    have g2 : op ≤ 29 := by omega
    have g3 : ¬ (40 ≤ op) := by omega
    have g4 : op ≤ 51 := by omega
    have HS := Lib.hid (show standsP op 1 = false by have hx := HNX.out; simp [standsP, isExpr]; try omega)
    go_enter Tryz.func57, Tryz.ntmps57
    go_wp2_with fail
    rw [← HWA.out]
    go_ret
    exact ⟨ret_val (by rw [HS.out]; rfl), HB.out⟩
  · have g1 : 1 ≤ op := by omega
    have g2 : op ≤ 29 := by omega
    have g3 : ¬ (40 ≤ op) := by omega
    have g4 : op ≤ 51 := by omega
    have HS := Lib.hid (show standsP op 1 = true by have hx := HNX.out; simp [standsP, isExpr]; try omega)
    go_enter Tryz.func57, Tryz.ntmps57
    go_wp2_with fail
    rw [← HWA.out]
    go_ret
    exact ⟨ret_val (by rw [HS.out]; rfl), HB.out⟩
  · have g1 : 1 ≤ op := by omega
    have g2 : ¬ (op ≤ 29) := by omega
    have g3 : ¬ (40 ≤ op) := by omega
    have g4 : op ≤ 51 := by omega
    have HS := Lib.hid (show standsP op 1 = false by have hx := HNX.out; simp [standsP, isExpr]; try omega)
    go_enter Tryz.func57, Tryz.ntmps57
    go_wp2_with fail
    rw [← HWA.out]
    go_ret
    exact ⟨ret_val (by rw [HS.out]; rfl), HB.out⟩
  · have g1 : 1 ≤ op := by omega
    have g2 : ¬ (op ≤ 29) := by omega
    have g3 : 40 ≤ op := by omega
    have g4 : op ≤ 51 := by omega
    have HS := Lib.hid (show standsP op 1 = false by have hx := HNX.out; simp [standsP, isExpr]; try omega)
    go_enter Tryz.func57, Tryz.ntmps57
    go_wp2_with fail
    rw [← HWA.out]
    go_ret
    exact ⟨ret_val (by rw [HS.out]; rfl), HB.out⟩
  · have g1 : 1 ≤ op := by omega
    have g2 : ¬ (op ≤ 29) := by omega
    have g3 : 40 ≤ op := by omega
    have g4 : ¬ (op ≤ 51) := by omega
    have HS := Lib.hid (show standsP op 1 = false by have hx := HNX.out; simp [standsP, isExpr]; try omega)
    go_enter Tryz.func57, Tryz.ntmps57
    go_wp2_with fail
    rw [← HWA.out]
    go_ret
    exact ⟨ret_val (by rw [HS.out]; rfl), HB.out⟩

set_option maxRecDepth 100000 in
set_option maxHeartbeats 2000000 in
theorem stands_2 (op ln : Int) (s : ByteArray) (k n : Int) (t : ByteArray) (vv vs : Value) (w : World) :
    Calls Tryz.prog 57 #[.agg #[.int .i64 op, .int .i64 ln, .string s, .int .i64 k, .int .i64 n, .string t, vv, vs], .int .i64 2] w fun e w' => e = .returned (.bool (standsP op 2)) ∧ Below w.heap.size w w' := by
  obtain ⟨wa, hwa⟩ : ∃ wa, wa = w.alloc (.cells #[.int .i64 op, .int .i64 ln, .string s, .int .i64 k, .int .i64 n, .string t, vv, vs] 33) := ⟨_, rfl⟩
  have hb : Below w.heap.size w wa := by rw [hwa]; exact (Below.refl _ _).alloc (Nat.le_refl _) _
  have hN : NdB wa w.heap.size (.int .i64 op) (.int .i64 ln) (.string s) (.int .i64 k) (.int .i64 n) (.string t) vv vs := by rw [hwa]; exact NdB.new _ _ _ _ _ _ _ _ _
  have v0 := hN.c0
  rw [hwa] at v0
  have HB := Lib.hid hb
  have HWA := Lib.hid hwa
  clear hb hN hwa
  by_cases hn : op = 2 ∨ op = 20 ∨ op = 22 ∨ op = 25 ∨ op = 26 ∨ op = 50 ∨ op = 52
  · rcases hn with rfl | rfl | rfl | rfl | rfl | rfl | rfl
    all_goals
      go_enter Tryz.func57, Tryz.ntmps57
      go_wp2_with fail
      rw [← HWA.out]
      go_ret
      exact ⟨rfl, HB.out⟩
  have n2 := beq_no (show op ≠ 2 by omega)
  have n20 := beq_no (show op ≠ 20 by omega)
  have n22 := beq_no (show op ≠ 22 by omega)
  have n25 := beq_no (show op ≠ 25 by omega)
  have n26 := beq_no (show op ≠ 26 by omega)
  have n50 := beq_no (show op ≠ 50 by omega)
  have n52 := beq_no (show op ≠ 52 by omega)
  have b26 := bne_yes (show op ≠ 26 by omega)
  have b50 := bne_yes (show op ≠ 50 by omega)
  have hk : op < 1 ∨ (1 ≤ op ∧ op ≤ 29) ∨ (30 ≤ op ∧ op ≤ 39) ∨ (40 ≤ op ∧ op ≤ 51) ∨ 53 ≤ op := by omega
  have HNX := Lib.hid hn
  clear hn
  rcases hk with h1 | ⟨h1, h2⟩ | ⟨h1, h2⟩ | ⟨h1, h2⟩ | h1
  · have g1 : ¬ (1 ≤ op) := by omega
    have g2 : op ≤ 29 := by omega
    have g3 : ¬ (40 ≤ op) := by omega
    have g4 : op ≤ 51 := by omega
    have HS := Lib.hid (show standsP op 2 = false by have hx := HNX.out; simp [standsP]; try omega)
    go_enter Tryz.func57, Tryz.ntmps57
    go_wp2_with fail
    rw [← HWA.out]
    go_ret
    exact ⟨ret_val (by rw [HS.out]; rfl), HB.out⟩
  · have g1 : 1 ≤ op := by omega
    have g2 : op ≤ 29 := by omega
    have g3 : ¬ (40 ≤ op) := by omega
    have g4 : op ≤ 51 := by omega
    have HS := Lib.hid (show standsP op 2 = false by have hx := HNX.out; simp [standsP]; try omega)
    go_enter Tryz.func57, Tryz.ntmps57
    go_wp2_with fail
    rw [← HWA.out]
    go_ret
    exact ⟨ret_val (by rw [HS.out]; rfl), HB.out⟩
  · have g1 : 1 ≤ op := by omega
    have g2 : ¬ (op ≤ 29) := by omega
    have g3 : ¬ (40 ≤ op) := by omega
    have g4 : op ≤ 51 := by omega
    have HS := Lib.hid (show standsP op 2 = false by have hx := HNX.out; simp [standsP]; try omega)
    go_enter Tryz.func57, Tryz.ntmps57
    go_wp2_with fail
    rw [← HWA.out]
    go_ret
    exact ⟨ret_val (by rw [HS.out]; rfl), HB.out⟩
  · have g1 : 1 ≤ op := by omega
    have g2 : ¬ (op ≤ 29) := by omega
    have g3 : 40 ≤ op := by omega
    have g4 : op ≤ 51 := by omega
    have HS := Lib.hid (show standsP op 2 = false by have hx := HNX.out; simp [standsP]; try omega)
    go_enter Tryz.func57, Tryz.ntmps57
    go_wp2_with fail
    rw [← HWA.out]
    go_ret
    exact ⟨ret_val (by rw [HS.out]; rfl), HB.out⟩
  · have g1 : 1 ≤ op := by omega
    have g2 : ¬ (op ≤ 29) := by omega
    have g3 : 40 ≤ op := by omega
    have g4 : ¬ (op ≤ 51) := by omega
    have HS := Lib.hid (show standsP op 2 = false by have hx := HNX.out; simp [standsP]; try omega)
    go_enter Tryz.func57, Tryz.ntmps57
    go_wp2_with fail
    rw [← HWA.out]
    go_ret
    exact ⟨ret_val (by rw [HS.out]; rfl), HB.out⟩

set_option maxRecDepth 100000 in
set_option maxHeartbeats 2000000 in
theorem stands_3 (op ln : Int) (s : ByteArray) (k n : Int) (t : ByteArray) (vv vs : Value) (w : World) :
    Calls Tryz.prog 57 #[.agg #[.int .i64 op, .int .i64 ln, .string s, .int .i64 k, .int .i64 n, .string t, vv, vs], .int .i64 3] w fun e w' => e = .returned (.bool (standsP op 3)) ∧ Below w.heap.size w w' := by
  obtain ⟨wa, hwa⟩ : ∃ wa, wa = w.alloc (.cells #[.int .i64 op, .int .i64 ln, .string s, .int .i64 k, .int .i64 n, .string t, vv, vs] 33) := ⟨_, rfl⟩
  have hb : Below w.heap.size w wa := by rw [hwa]; exact (Below.refl _ _).alloc (Nat.le_refl _) _
  have hN : NdB wa w.heap.size (.int .i64 op) (.int .i64 ln) (.string s) (.int .i64 k) (.int .i64 n) (.string t) vv vs := by rw [hwa]; exact NdB.new _ _ _ _ _ _ _ _ _
  have v0 := hN.c0
  rw [hwa] at v0
  have HB := Lib.hid hb
  have HWA := Lib.hid hwa
  clear hb hN hwa
  by_cases hn : op = 2 ∨ op = 20 ∨ op = 22 ∨ op = 25 ∨ op = 26 ∨ op = 50 ∨ op = 52
  · rcases hn with rfl | rfl | rfl | rfl | rfl | rfl | rfl
    all_goals
      go_enter Tryz.func57, Tryz.ntmps57
      go_wp2_with fail
      rw [← HWA.out]
      go_ret
      exact ⟨rfl, HB.out⟩
  have n2 := beq_no (show op ≠ 2 by omega)
  have n20 := beq_no (show op ≠ 20 by omega)
  have n22 := beq_no (show op ≠ 22 by omega)
  have n25 := beq_no (show op ≠ 25 by omega)
  have n26 := beq_no (show op ≠ 26 by omega)
  have n50 := beq_no (show op ≠ 50 by omega)
  have n52 := beq_no (show op ≠ 52 by omega)
  have b26 := bne_yes (show op ≠ 26 by omega)
  have b50 := bne_yes (show op ≠ 50 by omega)
  have hk : op < 1 ∨ (1 ≤ op ∧ op ≤ 29) ∨ (30 ≤ op ∧ op ≤ 39) ∨ (40 ≤ op ∧ op ≤ 51) ∨ 53 ≤ op := by omega
  have HNX := Lib.hid hn
  clear hn
  rcases hk with h1 | ⟨h1, h2⟩ | ⟨h1, h2⟩ | ⟨h1, h2⟩ | h1
  · have g1 : ¬ (1 ≤ op) := by omega
    have g2 : op ≤ 29 := by omega
    have g3 : ¬ (40 ≤ op) := by omega
    have g4 : op ≤ 51 := by omega
    have HS := Lib.hid (show standsP op 3 = false by have hx := HNX.out; simp [standsP]; try omega)
    go_enter Tryz.func57, Tryz.ntmps57
    go_wp2_with fail
    rw [← HWA.out]
    go_ret
    exact ⟨ret_val (by rw [HS.out]; rfl), HB.out⟩
  · have g1 : 1 ≤ op := by omega
    have g2 : op ≤ 29 := by omega
    have g3 : ¬ (40 ≤ op) := by omega
    have g4 : op ≤ 51 := by omega
    have HS := Lib.hid (show standsP op 3 = false by have hx := HNX.out; simp [standsP]; try omega)
    go_enter Tryz.func57, Tryz.ntmps57
    go_wp2_with fail
    rw [← HWA.out]
    go_ret
    exact ⟨ret_val (by rw [HS.out]; rfl), HB.out⟩
  · have g1 : 1 ≤ op := by omega
    have g2 : ¬ (op ≤ 29) := by omega
    have g3 : ¬ (40 ≤ op) := by omega
    have g4 : op ≤ 51 := by omega
    have HS := Lib.hid (show standsP op 3 = false by have hx := HNX.out; simp [standsP]; try omega)
    go_enter Tryz.func57, Tryz.ntmps57
    go_wp2_with fail
    rw [← HWA.out]
    go_ret
    exact ⟨ret_val (by rw [HS.out]; rfl), HB.out⟩
  · have g1 : 1 ≤ op := by omega
    have g2 : ¬ (op ≤ 29) := by omega
    have g3 : 40 ≤ op := by omega
    have g4 : op ≤ 51 := by omega
    have HS := Lib.hid (show standsP op 3 = false by have hx := HNX.out; simp [standsP]; try omega)
    go_enter Tryz.func57, Tryz.ntmps57
    go_wp2_with fail
    rw [← HWA.out]
    go_ret
    exact ⟨ret_val (by rw [HS.out]; rfl), HB.out⟩
  · have g1 : 1 ≤ op := by omega
    have g2 : ¬ (op ≤ 29) := by omega
    have g3 : 40 ≤ op := by omega
    have g4 : ¬ (op ≤ 51) := by omega
    have HS := Lib.hid (show standsP op 3 = false by have hx := HNX.out; simp [standsP]; try omega)
    go_enter Tryz.func57, Tryz.ntmps57
    go_wp2_with fail
    rw [← HWA.out]
    go_ret
    exact ⟨ret_val (by rw [HS.out]; rfl), HB.out⟩

set_option maxRecDepth 100000 in
set_option maxHeartbeats 2000000 in
theorem stands_4 (op ln : Int) (s : ByteArray) (k n : Int) (t : ByteArray) (vv vs : Value) (w : World) :
    Calls Tryz.prog 57 #[.agg #[.int .i64 op, .int .i64 ln, .string s, .int .i64 k, .int .i64 n, .string t, vv, vs], .int .i64 4] w fun e w' => e = .returned (.bool (standsP op 4)) ∧ Below w.heap.size w w' := by
  obtain ⟨wa, hwa⟩ : ∃ wa, wa = w.alloc (.cells #[.int .i64 op, .int .i64 ln, .string s, .int .i64 k, .int .i64 n, .string t, vv, vs] 33) := ⟨_, rfl⟩
  have hb : Below w.heap.size w wa := by rw [hwa]; exact (Below.refl _ _).alloc (Nat.le_refl _) _
  have hN : NdB wa w.heap.size (.int .i64 op) (.int .i64 ln) (.string s) (.int .i64 k) (.int .i64 n) (.string t) vv vs := by rw [hwa]; exact NdB.new _ _ _ _ _ _ _ _ _
  have v0 := hN.c0
  rw [hwa] at v0
  have HB := Lib.hid hb
  have HWA := Lib.hid hwa
  clear hb hN hwa
  by_cases hn : op = 2 ∨ op = 20 ∨ op = 22 ∨ op = 25 ∨ op = 26 ∨ op = 50 ∨ op = 52
  · rcases hn with rfl | rfl | rfl | rfl | rfl | rfl | rfl
    all_goals
      go_enter Tryz.func57, Tryz.ntmps57
      go_wp2_with fail
      rw [← HWA.out]
      go_ret
      exact ⟨rfl, HB.out⟩
  have n2 := beq_no (show op ≠ 2 by omega)
  have n20 := beq_no (show op ≠ 20 by omega)
  have n22 := beq_no (show op ≠ 22 by omega)
  have n25 := beq_no (show op ≠ 25 by omega)
  have n26 := beq_no (show op ≠ 26 by omega)
  have n50 := beq_no (show op ≠ 50 by omega)
  have n52 := beq_no (show op ≠ 52 by omega)
  have b26 := bne_yes (show op ≠ 26 by omega)
  have b50 := bne_yes (show op ≠ 50 by omega)
  have hk : op < 1 ∨ (1 ≤ op ∧ op ≤ 29) ∨ (30 ≤ op ∧ op ≤ 39) ∨ (40 ≤ op ∧ op ≤ 51) ∨ 53 ≤ op := by omega
  have HNX := Lib.hid hn
  clear hn
  rcases hk with h1 | ⟨h1, h2⟩ | ⟨h1, h2⟩ | ⟨h1, h2⟩ | h1
  · have g1 : ¬ (1 ≤ op) := by omega
    have g2 : op ≤ 29 := by omega
    have g3 : ¬ (40 ≤ op) := by omega
    have g4 : op ≤ 51 := by omega
    have HS := Lib.hid (show standsP op 4 = false by have hx := HNX.out; simp [standsP]; try omega)
    go_enter Tryz.func57, Tryz.ntmps57
    go_wp2_with fail
    rw [← HWA.out]
    go_ret
    exact ⟨ret_val (by rw [HS.out]; rfl), HB.out⟩
  · have g1 : 1 ≤ op := by omega
    have g2 : op ≤ 29 := by omega
    have g3 : ¬ (40 ≤ op) := by omega
    have g4 : op ≤ 51 := by omega
    have HS := Lib.hid (show standsP op 4 = false by have hx := HNX.out; simp [standsP]; try omega)
    go_enter Tryz.func57, Tryz.ntmps57
    go_wp2_with fail
    rw [← HWA.out]
    go_ret
    exact ⟨ret_val (by rw [HS.out]; rfl), HB.out⟩
  · have g1 : 1 ≤ op := by omega
    have g2 : ¬ (op ≤ 29) := by omega
    have g3 : ¬ (40 ≤ op) := by omega
    have g4 : op ≤ 51 := by omega
    have HS := Lib.hid (show standsP op 4 = false by have hx := HNX.out; simp [standsP]; try omega)
    go_enter Tryz.func57, Tryz.ntmps57
    go_wp2_with fail
    rw [← HWA.out]
    go_ret
    exact ⟨ret_val (by rw [HS.out]; rfl), HB.out⟩
  · have g1 : 1 ≤ op := by omega
    have g2 : ¬ (op ≤ 29) := by omega
    have g3 : 40 ≤ op := by omega
    have g4 : op ≤ 51 := by omega
    have HS := Lib.hid (show standsP op 4 = false by have hx := HNX.out; simp [standsP]; try omega)
    go_enter Tryz.func57, Tryz.ntmps57
    go_wp2_with fail
    rw [← HWA.out]
    go_ret
    exact ⟨ret_val (by rw [HS.out]; rfl), HB.out⟩
  · have g1 : 1 ≤ op := by omega
    have g2 : ¬ (op ≤ 29) := by omega
    have g3 : 40 ≤ op := by omega
    have g4 : ¬ (op ≤ 51) := by omega
    have HS := Lib.hid (show standsP op 4 = false by have hx := HNX.out; simp [standsP]; try omega)
    go_enter Tryz.func57, Tryz.ntmps57
    go_wp2_with fail
    rw [← HWA.out]
    go_ret
    exact ⟨ret_val (by rw [HS.out]; rfl), HB.out⟩

set_option maxRecDepth 100000 in
set_option maxHeartbeats 2000000 in
theorem stands_5 (op ln : Int) (s : ByteArray) (k n : Int) (t : ByteArray) (vv vs : Value) (w : World) :
    Calls Tryz.prog 57 #[.agg #[.int .i64 op, .int .i64 ln, .string s, .int .i64 k, .int .i64 n, .string t, vv, vs], .int .i64 5] w fun e w' => e = .returned (.bool (standsP op 5)) ∧ Below w.heap.size w w' := by
  obtain ⟨wa, hwa⟩ : ∃ wa, wa = w.alloc (.cells #[.int .i64 op, .int .i64 ln, .string s, .int .i64 k, .int .i64 n, .string t, vv, vs] 33) := ⟨_, rfl⟩
  have hb : Below w.heap.size w wa := by rw [hwa]; exact (Below.refl _ _).alloc (Nat.le_refl _) _
  have hN : NdB wa w.heap.size (.int .i64 op) (.int .i64 ln) (.string s) (.int .i64 k) (.int .i64 n) (.string t) vv vs := by rw [hwa]; exact NdB.new _ _ _ _ _ _ _ _ _
  have v0 := hN.c0
  rw [hwa] at v0
  have HB := Lib.hid hb
  have HWA := Lib.hid hwa
  clear hb hN hwa
  by_cases hn : op = 2 ∨ op = 20 ∨ op = 22 ∨ op = 25 ∨ op = 26 ∨ op = 50 ∨ op = 52
  · rcases hn with rfl | rfl | rfl | rfl | rfl | rfl | rfl
    all_goals
      go_enter Tryz.func57, Tryz.ntmps57
      go_wp2_with fail
      rw [← HWA.out]
      go_ret
      exact ⟨rfl, HB.out⟩
  have n2 := beq_no (show op ≠ 2 by omega)
  have n20 := beq_no (show op ≠ 20 by omega)
  have n22 := beq_no (show op ≠ 22 by omega)
  have n25 := beq_no (show op ≠ 25 by omega)
  have n26 := beq_no (show op ≠ 26 by omega)
  have n50 := beq_no (show op ≠ 50 by omega)
  have n52 := beq_no (show op ≠ 52 by omega)
  have b26 := bne_yes (show op ≠ 26 by omega)
  have b50 := bne_yes (show op ≠ 50 by omega)
  have hk : op < 1 ∨ (1 ≤ op ∧ op ≤ 29) ∨ (30 ≤ op ∧ op ≤ 39) ∨ (40 ≤ op ∧ op ≤ 51) ∨ 53 ≤ op := by omega
  have HNX := Lib.hid hn
  clear hn
  rcases hk with h1 | ⟨h1, h2⟩ | ⟨h1, h2⟩ | ⟨h1, h2⟩ | h1
  · have g1 : ¬ (1 ≤ op) := by omega
    have g2 : op ≤ 29 := by omega
    have g3 : ¬ (40 ≤ op) := by omega
    have g4 : op ≤ 51 := by omega
    have HS := Lib.hid (show standsP op 5 = false by have hx := HNX.out; simp [standsP]; try omega)
    go_enter Tryz.func57, Tryz.ntmps57
    go_wp2_with fail
    rw [← HWA.out]
    go_ret
    exact ⟨ret_val (by rw [HS.out]; rfl), HB.out⟩
  · have g1 : 1 ≤ op := by omega
    have g2 : op ≤ 29 := by omega
    have g3 : ¬ (40 ≤ op) := by omega
    have g4 : op ≤ 51 := by omega
    have HS := Lib.hid (show standsP op 5 = false by have hx := HNX.out; simp [standsP]; try omega)
    go_enter Tryz.func57, Tryz.ntmps57
    go_wp2_with fail
    rw [← HWA.out]
    go_ret
    exact ⟨ret_val (by rw [HS.out]; rfl), HB.out⟩
  · have g1 : 1 ≤ op := by omega
    have g2 : ¬ (op ≤ 29) := by omega
    have g3 : ¬ (40 ≤ op) := by omega
    have g4 : op ≤ 51 := by omega
    have HS := Lib.hid (show standsP op 5 = false by have hx := HNX.out; simp [standsP]; try omega)
    go_enter Tryz.func57, Tryz.ntmps57
    go_wp2_with fail
    rw [← HWA.out]
    go_ret
    exact ⟨ret_val (by rw [HS.out]; rfl), HB.out⟩
  · have g1 : 1 ≤ op := by omega
    have g2 : ¬ (op ≤ 29) := by omega
    have g3 : 40 ≤ op := by omega
    have g4 : op ≤ 51 := by omega
    have HS := Lib.hid (show standsP op 5 = false by have hx := HNX.out; simp [standsP]; try omega)
    go_enter Tryz.func57, Tryz.ntmps57
    go_wp2_with fail
    rw [← HWA.out]
    go_ret
    exact ⟨ret_val (by rw [HS.out]; rfl), HB.out⟩
  · have g1 : 1 ≤ op := by omega
    have g2 : ¬ (op ≤ 29) := by omega
    have g3 : 40 ≤ op := by omega
    have g4 : ¬ (op ≤ 51) := by omega
    have HS := Lib.hid (show standsP op 5 = false by have hx := HNX.out; simp [standsP]; try omega)
    go_enter Tryz.func57, Tryz.ntmps57
    go_wp2_with fail
    rw [← HWA.out]
    go_ret
    exact ⟨ret_val (by rw [HS.out]; rfl), HB.out⟩

set_option maxRecDepth 100000 in
set_option maxHeartbeats 2000000 in
theorem stands_6 (op ln : Int) (s : ByteArray) (k n : Int) (t : ByteArray) (vv vs : Value) (w : World) :
    Calls Tryz.prog 57 #[.agg #[.int .i64 op, .int .i64 ln, .string s, .int .i64 k, .int .i64 n, .string t, vv, vs], .int .i64 6] w fun e w' => e = .returned (.bool (standsP op 6)) ∧ Below w.heap.size w w' := by
  obtain ⟨wa, hwa⟩ : ∃ wa, wa = w.alloc (.cells #[.int .i64 op, .int .i64 ln, .string s, .int .i64 k, .int .i64 n, .string t, vv, vs] 33) := ⟨_, rfl⟩
  have hb : Below w.heap.size w wa := by rw [hwa]; exact (Below.refl _ _).alloc (Nat.le_refl _) _
  have hN : NdB wa w.heap.size (.int .i64 op) (.int .i64 ln) (.string s) (.int .i64 k) (.int .i64 n) (.string t) vv vs := by rw [hwa]; exact NdB.new _ _ _ _ _ _ _ _ _
  have v0 := hN.c0
  rw [hwa] at v0
  have HB := Lib.hid hb
  have HWA := Lib.hid hwa
  clear hb hN hwa
  by_cases hn : op = 2 ∨ op = 20 ∨ op = 22 ∨ op = 25 ∨ op = 26 ∨ op = 50 ∨ op = 52
  · rcases hn with rfl | rfl | rfl | rfl | rfl | rfl | rfl
    all_goals
      go_enter Tryz.func57, Tryz.ntmps57
      go_wp2_with fail
      rw [← HWA.out]
      go_ret
      exact ⟨rfl, HB.out⟩
  have n2 := beq_no (show op ≠ 2 by omega)
  have n20 := beq_no (show op ≠ 20 by omega)
  have n22 := beq_no (show op ≠ 22 by omega)
  have n25 := beq_no (show op ≠ 25 by omega)
  have n26 := beq_no (show op ≠ 26 by omega)
  have n50 := beq_no (show op ≠ 50 by omega)
  have n52 := beq_no (show op ≠ 52 by omega)
  have b26 := bne_yes (show op ≠ 26 by omega)
  have b50 := bne_yes (show op ≠ 50 by omega)
  have hk : op < 1 ∨ (1 ≤ op ∧ op ≤ 29) ∨ (30 ≤ op ∧ op ≤ 39) ∨ (40 ≤ op ∧ op ≤ 51) ∨ 53 ≤ op := by omega
  have HNX := Lib.hid hn
  clear hn
  rcases hk with h1 | ⟨h1, h2⟩ | ⟨h1, h2⟩ | ⟨h1, h2⟩ | h1
  · have g1 : ¬ (1 ≤ op) := by omega
    have g2 : op ≤ 29 := by omega
    have g3 : ¬ (40 ≤ op) := by omega
    have g4 : op ≤ 51 := by omega
    have HS := Lib.hid (show standsP op 6 = false by have hx := HNX.out; simp [standsP]; try omega)
    go_enter Tryz.func57, Tryz.ntmps57
    go_wp2_with fail
    rw [← HWA.out]
    go_ret
    exact ⟨ret_val (by rw [HS.out]; rfl), HB.out⟩
  · have g1 : 1 ≤ op := by omega
    have g2 : op ≤ 29 := by omega
    have g3 : ¬ (40 ≤ op) := by omega
    have g4 : op ≤ 51 := by omega
    have HS := Lib.hid (show standsP op 6 = false by have hx := HNX.out; simp [standsP]; try omega)
    go_enter Tryz.func57, Tryz.ntmps57
    go_wp2_with fail
    rw [← HWA.out]
    go_ret
    exact ⟨ret_val (by rw [HS.out]; rfl), HB.out⟩
  · have g1 : 1 ≤ op := by omega
    have g2 : ¬ (op ≤ 29) := by omega
    have g3 : ¬ (40 ≤ op) := by omega
    have g4 : op ≤ 51 := by omega
    have HS := Lib.hid (show standsP op 6 = false by have hx := HNX.out; simp [standsP]; try omega)
    go_enter Tryz.func57, Tryz.ntmps57
    go_wp2_with fail
    rw [← HWA.out]
    go_ret
    exact ⟨ret_val (by rw [HS.out]; rfl), HB.out⟩
  · have g1 : 1 ≤ op := by omega
    have g2 : ¬ (op ≤ 29) := by omega
    have g3 : 40 ≤ op := by omega
    have g4 : op ≤ 51 := by omega
    have HS := Lib.hid (show standsP op 6 = false by have hx := HNX.out; simp [standsP]; try omega)
    go_enter Tryz.func57, Tryz.ntmps57
    go_wp2_with fail
    rw [← HWA.out]
    go_ret
    exact ⟨ret_val (by rw [HS.out]; rfl), HB.out⟩
  · have g1 : 1 ≤ op := by omega
    have g2 : ¬ (op ≤ 29) := by omega
    have g3 : 40 ≤ op := by omega
    have g4 : ¬ (op ≤ 51) := by omega
    have HS := Lib.hid (show standsP op 6 = false by have hx := HNX.out; simp [standsP]; try omega)
    go_enter Tryz.func57, Tryz.ntmps57
    go_wp2_with fail
    rw [← HWA.out]
    go_ret
    exact ⟨ret_val (by rw [HS.out]; rfl), HB.out⟩

set_option maxRecDepth 100000 in
set_option maxHeartbeats 2000000 in
theorem stands_7 (op ln : Int) (s : ByteArray) (k n : Int) (t : ByteArray) (vv vs : Value) (w : World) :
    Calls Tryz.prog 57 #[.agg #[.int .i64 op, .int .i64 ln, .string s, .int .i64 k, .int .i64 n, .string t, vv, vs], .int .i64 7] w fun e w' => e = .returned (.bool (standsP op 7)) ∧ Below w.heap.size w w' := by
  obtain ⟨wa, hwa⟩ : ∃ wa, wa = w.alloc (.cells #[.int .i64 op, .int .i64 ln, .string s, .int .i64 k, .int .i64 n, .string t, vv, vs] 33) := ⟨_, rfl⟩
  have hb : Below w.heap.size w wa := by rw [hwa]; exact (Below.refl _ _).alloc (Nat.le_refl _) _
  have hN : NdB wa w.heap.size (.int .i64 op) (.int .i64 ln) (.string s) (.int .i64 k) (.int .i64 n) (.string t) vv vs := by rw [hwa]; exact NdB.new _ _ _ _ _ _ _ _ _
  have v0 := hN.c0
  rw [hwa] at v0
  have HB := Lib.hid hb
  have HWA := Lib.hid hwa
  clear hb hN hwa
  by_cases hn : op = 2 ∨ op = 20 ∨ op = 22 ∨ op = 25 ∨ op = 26 ∨ op = 50 ∨ op = 52
  · rcases hn with rfl | rfl | rfl | rfl | rfl | rfl | rfl
    all_goals
      go_enter Tryz.func57, Tryz.ntmps57
      go_wp2_with fail
      rw [← HWA.out]
      go_ret
      exact ⟨rfl, HB.out⟩
  have n2 := beq_no (show op ≠ 2 by omega)
  have n20 := beq_no (show op ≠ 20 by omega)
  have n22 := beq_no (show op ≠ 22 by omega)
  have n25 := beq_no (show op ≠ 25 by omega)
  have n26 := beq_no (show op ≠ 26 by omega)
  have n50 := beq_no (show op ≠ 50 by omega)
  have n52 := beq_no (show op ≠ 52 by omega)
  have b26 := bne_yes (show op ≠ 26 by omega)
  have b50 := bne_yes (show op ≠ 50 by omega)
  have hk : op < 1 ∨ (1 ≤ op ∧ op ≤ 29) ∨ (30 ≤ op ∧ op ≤ 39) ∨ (40 ≤ op ∧ op ≤ 51) ∨ 53 ≤ op := by omega
  have HNX := Lib.hid hn
  clear hn
  rcases hk with h1 | ⟨h1, h2⟩ | ⟨h1, h2⟩ | ⟨h1, h2⟩ | h1
  · have g1 : ¬ (1 ≤ op) := by omega
    have g2 : op ≤ 29 := by omega
    have g3 : ¬ (40 ≤ op) := by omega
    have g4 : op ≤ 51 := by omega
    have HS := Lib.hid (show standsP op 7 = false by have hx := HNX.out; simp [standsP]; try omega)
    go_enter Tryz.func57, Tryz.ntmps57
    go_wp2_with fail
    rw [← HWA.out]
    go_ret
    exact ⟨ret_val (by rw [HS.out]; rfl), HB.out⟩
  · have g1 : 1 ≤ op := by omega
    have g2 : op ≤ 29 := by omega
    have g3 : ¬ (40 ≤ op) := by omega
    have g4 : op ≤ 51 := by omega
    have HS := Lib.hid (show standsP op 7 = false by have hx := HNX.out; simp [standsP]; try omega)
    go_enter Tryz.func57, Tryz.ntmps57
    go_wp2_with fail
    rw [← HWA.out]
    go_ret
    exact ⟨ret_val (by rw [HS.out]; rfl), HB.out⟩
  · have g1 : 1 ≤ op := by omega
    have g2 : ¬ (op ≤ 29) := by omega
    have g3 : ¬ (40 ≤ op) := by omega
    have g4 : op ≤ 51 := by omega
    have HS := Lib.hid (show standsP op 7 = false by have hx := HNX.out; simp [standsP]; try omega)
    go_enter Tryz.func57, Tryz.ntmps57
    go_wp2_with fail
    rw [← HWA.out]
    go_ret
    exact ⟨ret_val (by rw [HS.out]; rfl), HB.out⟩
  · have g1 : 1 ≤ op := by omega
    have g2 : ¬ (op ≤ 29) := by omega
    have g3 : 40 ≤ op := by omega
    have g4 : op ≤ 51 := by omega
    have HS := Lib.hid (show standsP op 7 = true by have hx := HNX.out; simp [standsP]; try omega)
    go_enter Tryz.func57, Tryz.ntmps57
    go_wp2_with fail
    rw [← HWA.out]
    go_ret
    exact ⟨ret_val (by rw [HS.out]; rfl), HB.out⟩
  · have g1 : 1 ≤ op := by omega
    have g2 : ¬ (op ≤ 29) := by omega
    have g3 : 40 ≤ op := by omega
    have g4 : ¬ (op ≤ 51) := by omega
    have HS := Lib.hid (show standsP op 7 = false by have hx := HNX.out; simp [standsP]; try omega)
    go_enter Tryz.func57, Tryz.ntmps57
    go_wp2_with fail
    rw [← HWA.out]
    go_ret
    exact ⟨ret_val (by rw [HS.out]; rfl), HB.out⟩

set_option maxRecDepth 100000 in
set_option maxHeartbeats 2000000 in
theorem stands_8 (op ln : Int) (s : ByteArray) (k n : Int) (t : ByteArray) (vv vs : Value) (w : World) :
    Calls Tryz.prog 57 #[.agg #[.int .i64 op, .int .i64 ln, .string s, .int .i64 k, .int .i64 n, .string t, vv, vs], .int .i64 8] w fun e w' => e = .returned (.bool (standsP op 8)) ∧ Below w.heap.size w w' := by
  obtain ⟨wa, hwa⟩ : ∃ wa, wa = w.alloc (.cells #[.int .i64 op, .int .i64 ln, .string s, .int .i64 k, .int .i64 n, .string t, vv, vs] 33) := ⟨_, rfl⟩
  have hb : Below w.heap.size w wa := by rw [hwa]; exact (Below.refl _ _).alloc (Nat.le_refl _) _
  have hN : NdB wa w.heap.size (.int .i64 op) (.int .i64 ln) (.string s) (.int .i64 k) (.int .i64 n) (.string t) vv vs := by rw [hwa]; exact NdB.new _ _ _ _ _ _ _ _ _
  have v0 := hN.c0
  rw [hwa] at v0
  have HB := Lib.hid hb
  have HWA := Lib.hid hwa
  clear hb hN hwa
  by_cases hn : op = 2 ∨ op = 20 ∨ op = 22 ∨ op = 25 ∨ op = 26 ∨ op = 50 ∨ op = 52
  · rcases hn with rfl | rfl | rfl | rfl | rfl | rfl | rfl
    all_goals
      go_enter Tryz.func57, Tryz.ntmps57
      go_wp2_with fail
      rw [← HWA.out]
      go_ret
      exact ⟨rfl, HB.out⟩
  have n2 := beq_no (show op ≠ 2 by omega)
  have n20 := beq_no (show op ≠ 20 by omega)
  have n22 := beq_no (show op ≠ 22 by omega)
  have n25 := beq_no (show op ≠ 25 by omega)
  have n26 := beq_no (show op ≠ 26 by omega)
  have n50 := beq_no (show op ≠ 50 by omega)
  have n52 := beq_no (show op ≠ 52 by omega)
  have b26 := bne_yes (show op ≠ 26 by omega)
  have b50 := bne_yes (show op ≠ 50 by omega)
  have hk : op < 1 ∨ (1 ≤ op ∧ op ≤ 29) ∨ (30 ≤ op ∧ op ≤ 39) ∨ (40 ≤ op ∧ op ≤ 51) ∨ 53 ≤ op := by omega
  have HNX := Lib.hid hn
  clear hn
  rcases hk with h1 | ⟨h1, h2⟩ | ⟨h1, h2⟩ | ⟨h1, h2⟩ | h1
  · have g1 : ¬ (1 ≤ op) := by omega
    have g2 : op ≤ 29 := by omega
    have g3 : ¬ (40 ≤ op) := by omega
    have g4 : op ≤ 51 := by omega
    have HS := Lib.hid (show standsP op 8 = false by have hx := HNX.out; simp [standsP]; try omega)
    go_enter Tryz.func57, Tryz.ntmps57
    go_wp2_with fail
    rw [← HWA.out]
    go_ret
    exact ⟨ret_val (by rw [HS.out]; rfl), HB.out⟩
  · have g1 : 1 ≤ op := by omega
    have g2 : op ≤ 29 := by omega
    have g3 : ¬ (40 ≤ op) := by omega
    have g4 : op ≤ 51 := by omega
    have HS := Lib.hid (show standsP op 8 = false by have hx := HNX.out; simp [standsP]; try omega)
    go_enter Tryz.func57, Tryz.ntmps57
    go_wp2_with fail
    rw [← HWA.out]
    go_ret
    exact ⟨ret_val (by rw [HS.out]; rfl), HB.out⟩
  · have g1 : 1 ≤ op := by omega
    have g2 : ¬ (op ≤ 29) := by omega
    have g3 : ¬ (40 ≤ op) := by omega
    have g4 : op ≤ 51 := by omega
    have HS := Lib.hid (show standsP op 8 = false by have hx := HNX.out; simp [standsP]; try omega)
    go_enter Tryz.func57, Tryz.ntmps57
    go_wp2_with fail
    rw [← HWA.out]
    go_ret
    exact ⟨ret_val (by rw [HS.out]; rfl), HB.out⟩
  · have g1 : 1 ≤ op := by omega
    have g2 : ¬ (op ≤ 29) := by omega
    have g3 : 40 ≤ op := by omega
    have g4 : op ≤ 51 := by omega
    have HS := Lib.hid (show standsP op 8 = false by have hx := HNX.out; simp [standsP]; try omega)
    go_enter Tryz.func57, Tryz.ntmps57
    go_wp2_with fail
    rw [← HWA.out]
    go_ret
    exact ⟨ret_val (by rw [HS.out]; rfl), HB.out⟩
  · have g1 : 1 ≤ op := by omega
    have g2 : ¬ (op ≤ 29) := by omega
    have g3 : 40 ≤ op := by omega
    have g4 : ¬ (op ≤ 51) := by omega
    have HS := Lib.hid (show standsP op 8 = false by have hx := HNX.out; simp [standsP]; try omega)
    go_enter Tryz.func57, Tryz.ntmps57
    go_wp2_with fail
    rw [← HWA.out]
    go_ret
    exact ⟨ret_val (by rw [HS.out]; rfl), HB.out⟩

theorem stands_c (op ln : Int) (s : ByteArray) (k n : Int) (t : ByteArray) (vv vs : Value) (r : Nat) (w : World) (hr : r ≤ 8) :
    Calls Tryz.prog 57 #[.agg #[.int .i64 op, .int .i64 ln, .string s, .int .i64 k, .int .i64 n, .string t, vv, vs], .int .i64 (r : Int)] w fun e w' => e = .returned (.bool (standsP op r)) ∧ Below w.heap.size w w' := by
  have hk : r = 0 ∨ r = 1 ∨ r = 2 ∨ r = 3 ∨ r = 4 ∨ r = 5 ∨ r = 6 ∨ r = 7 ∨ r = 8 := by omega
  rcases hk with rfl | rfl | rfl | rfl | rfl | rfl | rfl | rfl | rfl
  · exact stands_0 op ln s k n t vv vs w
  · exact stands_1 op ln s k n t vv vs w
  · exact stands_2 op ln s k n t vv vs w
  · exact stands_3 op ln s k n t vv vs w
  · exact stands_4 op ln s k n t vv vs w
  · exact stands_5 op ln s k n t vv vs w
  · exact stands_6 op ln s k n t vv vs w
  · exact stands_7 op ln s k n t vv vs w
  · exact stands_8 op ln s k n t vv vs w
end Go.Proofs.YtgmnbdfbbcpciaaGreatDoor
namespace Go.Proofs.YtgmnbdfbbcpciaaGreatDoor
open Go.RowKit Go.Lib
set_option linter.unusedVariables false

/-- The keys in tree's order. -/
def tkeysL : List ByteArray := [⟨#[105, 102]⟩, ⟨#[101, 108, 115, 101, 105, 102]⟩, ⟨#[101, 108, 115, 101]⟩, ⟨#[101, 110, 100, 105, 102]⟩, ⟨#[102, 111, 114]⟩, ⟨#[105, 110]⟩, ⟨#[101, 110, 100, 102, 111, 114]⟩, ⟨#[119, 104, 105, 108, 101]⟩, ⟨#[101, 110, 100, 119, 104, 105, 108, 101]⟩, ⟨#[98, 114, 101, 97, 107]⟩, ⟨#[99, 111, 110, 116, 105, 110, 117, 101]⟩, ⟨#[114, 101, 116, 117, 114, 110]⟩, ⟨#[102, 111, 114, 107]⟩, ⟨#[101, 110, 100, 102, 111, 114, 107]⟩, ⟨#[116, 114, 121]⟩, ⟨#[101, 120, 99, 101, 112, 116]⟩, ⟨#[102, 105, 110, 97, 108, 108, 121]⟩, ⟨#[101, 110, 100, 116, 114, 121]⟩, ⟨#[97, 110, 121]⟩]
theorem tkeys_contains (x : ByteArray) : containsS (tkeysL.take 19) x = keysL.contains x := by
  have hlaw : ∀ a b : ByteArray, (a == b) = true ↔ a = b := fun a b => by
    show (a.data == b.data) = true ↔ a = b
    rw [beq_iff_eq]
    exact ⟨fun e => by cases a; cases b; simp only at e; rw [e], fun e => by rw [e]⟩
  have hp : (tkeysL.map (·.data)).Perm (keysL.map (·.data)) := List.isPerm_iff.1 (by decide +kernel)
  have hmem : ∀ y, y ∈ tkeysL ↔ y ∈ keysL := by
    intro y
    have h1 := hp.mem_iff (a := y.data)
    have key : ∀ l : List ByteArray, y.data ∈ l.map (·.data) ↔ y ∈ l := by
      intro l
      rw [List.mem_map]
      constructor
      · rintro ⟨z, h, e⟩; cases z; cases y; simp only at e; rw [← e]; exact h
      · intro h; exact ⟨y, h, rfl⟩
    rw [key, key] at h1
    exact h1
  rw [show tkeysL.take 19 = tkeysL from rfl, Bool.eq_iff_iff, containsS_iff, List.contains_iff_exists_mem_beq, hmem]
  constructor
  · intro h; exact ⟨x, h, (hlaw x x).2 rfl⟩
  · rintro ⟨y, h1, h2⟩; rw [(hlaw x y).1 h2]; exact h1

set_option maxRecDepth 100000 in
theorem tkeys_c (w : World) : Calls Tryz.prog 75 #[] w fun e w' => e = .returned (.slice (some ⟨w.heap.size, 0, none⟩) 19 19) ∧ Below w.heap.size w w' ∧ ∀ j, j < tkeysL.length → w'.cell? ⟨w.heap.size, 0 + j, none⟩ = some (.string (tkeysL.getD j ByteArray.empty)) := by
  go_enter Tryz.func75, Tryz.ntmps75
  go_wp2_with fail
  go_ret
  refine ⟨rfl, (Below.refl _ _).alloc (Nat.le_refl _) _, fun j hj => ?_⟩
  have hb := heap_alloc_new w (.cells #[.string ⟨#[105, 102]⟩, .string ⟨#[101, 108, 115, 101, 105, 102]⟩, .string ⟨#[101, 108, 115, 101]⟩, .string ⟨#[101, 110, 100, 105, 102]⟩, .string ⟨#[102, 111, 114]⟩, .string ⟨#[105, 110]⟩, .string ⟨#[101, 110, 100, 102, 111, 114]⟩, .string ⟨#[119, 104, 105, 108, 101]⟩, .string ⟨#[101, 110, 100, 119, 104, 105, 108, 101]⟩, .string ⟨#[98, 114, 101, 97, 107]⟩, .string ⟨#[99, 111, 110, 116, 105, 110, 117, 101]⟩, .string ⟨#[114, 101, 116, 117, 114, 110]⟩, .string ⟨#[102, 111, 114, 107]⟩, .string ⟨#[101, 110, 100, 102, 111, 114, 107]⟩, .string ⟨#[116, 114, 121]⟩, .string ⟨#[101, 120, 99, 101, 112, 116]⟩, .string ⟨#[102, 105, 110, 97, 108, 108, 121]⟩, .string ⟨#[101, 110, 100, 116, 114, 121]⟩, .string ⟨#[97, 110, 121]⟩] 9)
  rw [Nat.zero_add, cell_of_row _ _ j _ _ _ hb]
  have hj' : j < 19 := hj
  have : ∀ j : Fin 19, (#[.string ⟨#[105, 102]⟩, .string ⟨#[101, 108, 115, 101, 105, 102]⟩, .string ⟨#[101, 108, 115, 101]⟩, .string ⟨#[101, 110, 100, 105, 102]⟩, .string ⟨#[102, 111, 114]⟩, .string ⟨#[105, 110]⟩, .string ⟨#[101, 110, 100, 102, 111, 114]⟩, .string ⟨#[119, 104, 105, 108, 101]⟩, .string ⟨#[101, 110, 100, 119, 104, 105, 108, 101]⟩, .string ⟨#[98, 114, 101, 97, 107]⟩, .string ⟨#[99, 111, 110, 116, 105, 110, 117, 101]⟩, .string ⟨#[114, 101, 116, 117, 114, 110]⟩, .string ⟨#[102, 111, 114, 107]⟩, .string ⟨#[101, 110, 100, 102, 111, 114, 107]⟩, .string ⟨#[116, 114, 121]⟩, .string ⟨#[101, 120, 99, 101, 112, 116]⟩, .string ⟨#[102, 105, 110, 97, 108, 108, 121]⟩, .string ⟨#[101, 110, 100, 116, 114, 121]⟩, .string ⟨#[97, 110, 121]⟩] : Array Value)[j.val]? = some (.string (tkeysL.getD j.val ByteArray.empty)) := by
    intro j
    match j with
    | ⟨0, _⟩ => rfl
    | ⟨1, _⟩ => rfl
    | ⟨2, _⟩ => rfl
    | ⟨3, _⟩ => rfl
    | ⟨4, _⟩ => rfl
    | ⟨5, _⟩ => rfl
    | ⟨6, _⟩ => rfl
    | ⟨7, _⟩ => rfl
    | ⟨8, _⟩ => rfl
    | ⟨9, _⟩ => rfl
    | ⟨10, _⟩ => rfl
    | ⟨11, _⟩ => rfl
    | ⟨12, _⟩ => rfl
    | ⟨13, _⟩ => rfl
    | ⟨14, _⟩ => rfl
    | ⟨15, _⟩ => rfl
    | ⟨16, _⟩ => rfl
    | ⟨17, _⟩ => rfl
    | ⟨18, _⟩ => rfl
    | ⟨_ + 19, h⟩ => exact absurd h (by omega)
  exact this ⟨j, hj'⟩

theorem nmCh_eq (c : UInt8) : nmCh c = decide ((97 ≤ c.toNat ∧ c.toNat ≤ 122) ∨ (48 ≤ c.toNat ∧ c.toNat ≤ 57) ∨ c.toNat = 95) := by
  unfold nmCh
  rw [Bool.eq_iff_iff]
  simp only [Bool.or_eq_true, Bool.and_eq_true, decide_eq_true_eq, beq_iff_eq, UInt8.le_iff_toNat_le, ← UInt8.toNat_inj]
  constructor
  · rintro ((h | h) | h)
    · exact .inl h
    · exact .inr (.inl h)
    · exact .inr (.inr h)
  · rintro (h | h | h)
    · exact .inl (.inl h)
    · exact .inl (.inr h)
    · exact .inr h
theorem head_get (s : ByteArray) (h : 0 < s.size) : s.data.toList.getD 0 0 = s[0] := by
  rw [List.getD_eq_getElem?_getD, List.getElem?_eq_getElem (by simpa using h)]; rfl
theorem dg_eq (c : UInt8) : (decide (48 ≤ c) && decide (c ≤ 57)) = decide (48 ≤ c.toNat ∧ c.toNat ≤ 57) := by
  rw [Bool.eq_iff_iff]
  simp only [Bool.and_eq_true, decide_eq_true_eq, UInt8.le_iff_toNat_le]
  exact Iff.rfl
theorem nm_bad (s : ByteArray) (k : Nat) (hk : k < s.size) (h : nmCh s[k] = false) : nameB s = false := by
  have : s.data.toList.all nmCh = false := by
    rw [Bool.eq_false_iff]
    intro hn
    rw [List.all_eq_true] at hn
    have := hn s[k] (by show s.data[k] ∈ s.data.toList; simp)
    rw [h] at this; cases this
  unfold nameB
  rw [this]; simp
theorem nm_all (s : ByteArray) (h0 : 1 ≤ s.size) (h1 : s.size ≤ 32) (hd : ¬ (48 ≤ s[0].toNat ∧ s[0].toNat ≤ 57)) (ha : s.data.toList.all nmCh = true) : nameB s = !keysL.contains s := by
  unfold nameB
  rw [head_get s (by omega), dg_eq, ha, decide_eq_true h0, decide_eq_true h1, decide_eq_false hd]
  simp

set_option maxRecDepth 100000 in
set_option maxHeartbeats 2000000 in
theorem name_tc (s : ByteArray) (w : World) (hs : s.size ≤ 140737488351232) :
    Calls Tryz.prog 60 #[.string s] w fun e w' => e = .returned (.bool (nameB s)) ∧ Below w.heap.size w w' := by
  by_cases h0 : s.size < 1
  · have HS := Lib.hid (show nameB s = false by unfold nameB; rw [decide_eq_false (show ¬ 1 ≤ s.size by omega)]; simp)
    have q : (s.size : Int) < 1 := by omega
    clear h0
    go_enter Tryz.func60, Tryz.ntmps60
    go_wp2_with fail
    go_ret
    exact ⟨ret_bool (by rw [HS.out]), Below.refl _ _⟩
  by_cases h1 : 32 < s.size
  · have HS := Lib.hid (show nameB s = false by unfold nameB; rw [decide_eq_false (show ¬ s.size ≤ 32 by omega)]; simp)
    have q : (32 : Int) < s.size := by omega
    have q1 : ¬ ((s.size : Int) < 1) := by omega
    clear h0 h1
    go_enter Tryz.func60, Tryz.ntmps60
    go_wp2_with fail
    go_ret
    exact ⟨ret_bool (by rw [HS.out]), Below.refl _ _⟩
  have q1 : ¬ ((s.size : Int) < 1) := by omega
  have q2 : ¬ ((32 : Int) < s.size) := by omega
  have q3 : 0 < s.size := by omega
  by_cases hd : 48 ≤ s[0].toNat ∧ s[0].toNat ≤ 57
  · have HS := Lib.hid (show nameB s = false by unfold nameB; rw [head_get s q3, dg_eq, decide_eq_true hd]; simp)
    have q4 : (48 : Int) ≤ (s[0].toNat : Int) := by omega
    have q5 : (s[0].toNat : Int) ≤ 57 := by omega
    clear h0 h1 hd
    go_enter Tryz.func60, Tryz.ntmps60
    go_wp2_with fail
    go_ret
    exact ⟨ret_bool (by rw [HS.out]), Below.refl _ _⟩
  have HA := Lib.hid (nm_all s (by omega) (by omega) hd)
  have q45 : ¬ ((48 : Int) ≤ (s[0].toNat : Int)) ∨ ((48 : Int) ≤ (s[0].toNat : Int) ∧ ¬ ((s[0].toNat : Int) ≤ 57)) := by omega
  clear h0 h1 hd
  rcases q45 with q4 | ⟨q4, q5⟩
  · go_enter Tryz.func60, Tryz.ntmps60
    go_wp2_with fail
    go_loop [25] (fun i => ∃ k : Nat, k ≤ s.size ∧ i = .int .i64 k ∧ Hid ((s.data.toList.take k).all nmCh = true)) (fun i => s.size - (RowKit.intOf i).toNat)
    case atStart => exact ⟨0, Nat.zero_le _, rfl, rfl⟩
    case round =>
      obtain ⟨k, hk, rfl, hall⟩ := hrel
      by_cases hlt : k < s.size
      · have hts := Lib.hid (take_snoc s k hlt)
        have hne := Lib.hid (nmCh_eq s[k])
        have hcase : ((s[k].toNat : Int) < 97 ∧ (s[k].toNat : Int) < 48) ∨ ((s[k].toNat : Int) < 97 ∧ 48 ≤ (s[k].toNat : Int) ∧ (s[k].toNat : Int) ≤ 57) ∨ (((s[k].toNat : Int) < 97 ∧ 57 < (s[k].toNat : Int)) ∧ (s[k].toNat : Int) = 95) ∨ (((s[k].toNat : Int) < 97 ∧ 57 < (s[k].toNat : Int)) ∧ (s[k].toNat : Int) ≠ 95) ∨ (122 < (s[k].toNat : Int)) ∨ (97 ≤ (s[k].toNat : Int) ∧ (s[k].toNat : Int) ≤ 122) := by omega
        rcases hcase with ⟨g1, g2⟩ | ⟨g1, g2, g3⟩ | ⟨⟨g1, g2⟩, g3⟩ | ⟨⟨g1, g2⟩, g3⟩ | g1 | ⟨g1, g2⟩
        · have g4 := bne_yes (show (s[k].toNat : Int) ≠ 95 by omega)
          go_wp2_with fail
          go_ret
          exact ⟨ret_bool (nm_bad s k hlt (by rw [hne.out]; exact decide_eq_false (by omega))).symm, Below.refl _ _⟩
        · have g4 : ¬ ((s[k].toNat : Int) < 48) := by omega
          have g5 : ¬ (57 < (s[k].toNat : Int)) := by omega
          go_wp2_with fail
          refine ⟨⟨k + 1, by omega, by go_num, ?_⟩, by simp [RowKit.intOf]; omega⟩
          show List.all _ nmCh = true
          rw [hts.out, List.all_append, hall.out, List.all_cons, hne.out, decide_eq_true (by omega)]
          rfl
        · have g5 : ¬ ((s[k].toNat : Int) < 48) := by omega
          have g4 : ((s[k].toNat : Int) != 95) = false := by rw [g3]; rfl
          go_wp2_with fail
          refine ⟨⟨k + 1, by omega, by go_num, ?_⟩, by simp [RowKit.intOf]; omega⟩
          show List.all _ nmCh = true
          rw [hts.out, List.all_append, hall.out, List.all_cons, hne.out, decide_eq_true (by omega)]
          rfl
        · have g5 : ¬ ((s[k].toNat : Int) < 48) := by omega
          have g4 := bne_yes g3
          go_wp2_with fail
          go_ret
          exact ⟨ret_bool (nm_bad s k hlt (by rw [hne.out]; exact decide_eq_false (by omega))).symm, Below.refl _ _⟩
        · have g5 : ¬ ((s[k].toNat : Int) < 97) := by omega
          have g6 : ¬ ((s[k].toNat : Int) < 48) := by omega
          have g7 : 57 < (s[k].toNat : Int) := by omega
          have g4 := bne_yes (show (s[k].toNat : Int) ≠ 95 by omega)
          go_wp2_with fail
          go_ret
          exact ⟨ret_bool (nm_bad s k hlt (by rw [hne.out]; exact decide_eq_false (by omega))).symm, Below.refl _ _⟩
        · have g5 : ¬ ((s[k].toNat : Int) < 97) := by omega
          have g6 : ¬ (122 < (s[k].toNat : Int)) := by omega
          go_wp2_with fail
          refine ⟨⟨k + 1, by omega, by go_num, ?_⟩, by simp [RowKit.intOf]; omega⟩
          show List.all _ nmCh = true
          rw [hts.out, List.all_append, hall.out, List.all_cons, hne.out, decide_eq_true (by omega)]
          rfl
      · obtain rfl : k = s.size := by omega
        have HN := Lib.hid (show nameB s = !keysL.contains s from HA.out (by have := hall.out; rw [List.take_of_length_le (by simp)] at this; exact this))
        clear HA hall
        go_wp2_with fail
        refine (tkeys_c w).mono ?_
        rintro e w2 ⟨rfl, hb2, hk2⟩
        have HB2 := Lib.hid hb2
        have HC := Lib.hid (Tryz.slices_Contains_string w.heap.size 0 19 19 tkeysL s w2 (by decide) (by decide) hk2)
        rw [tkeys_contains] at HC
        clear hb2 hk2
        go_wp2_with fail
        refine HC.out.mono ?_
        rintro e w3 ⟨rfl, rfl⟩
        go_wp2_with fail
        go_ret
        exact ⟨ret_bool HN.out.symm, HB2.out⟩
  · go_enter Tryz.func60, Tryz.ntmps60
    go_wp2_with fail
    go_loop [25] (fun i => ∃ k : Nat, k ≤ s.size ∧ i = .int .i64 k ∧ Hid ((s.data.toList.take k).all nmCh = true)) (fun i => s.size - (RowKit.intOf i).toNat)
    case atStart => exact ⟨0, Nat.zero_le _, rfl, rfl⟩
    case round =>
      obtain ⟨k, hk, rfl, hall⟩ := hrel
      by_cases hlt : k < s.size
      · have hts := Lib.hid (take_snoc s k hlt)
        have hne := Lib.hid (nmCh_eq s[k])
        have hcase : ((s[k].toNat : Int) < 97 ∧ (s[k].toNat : Int) < 48) ∨ ((s[k].toNat : Int) < 97 ∧ 48 ≤ (s[k].toNat : Int) ∧ (s[k].toNat : Int) ≤ 57) ∨ (((s[k].toNat : Int) < 97 ∧ 57 < (s[k].toNat : Int)) ∧ (s[k].toNat : Int) = 95) ∨ (((s[k].toNat : Int) < 97 ∧ 57 < (s[k].toNat : Int)) ∧ (s[k].toNat : Int) ≠ 95) ∨ (122 < (s[k].toNat : Int)) ∨ (97 ≤ (s[k].toNat : Int) ∧ (s[k].toNat : Int) ≤ 122) := by omega
        rcases hcase with ⟨g1, g2⟩ | ⟨g1, g2, g3⟩ | ⟨⟨g1, g2⟩, g3⟩ | ⟨⟨g1, g2⟩, g3⟩ | g1 | ⟨g1, g2⟩
        · have g4 := bne_yes (show (s[k].toNat : Int) ≠ 95 by omega)
          go_wp2_with fail
          go_ret
          exact ⟨ret_bool (nm_bad s k hlt (by rw [hne.out]; exact decide_eq_false (by omega))).symm, Below.refl _ _⟩
        · have g4 : ¬ ((s[k].toNat : Int) < 48) := by omega
          have g5 : ¬ (57 < (s[k].toNat : Int)) := by omega
          go_wp2_with fail
          refine ⟨⟨k + 1, by omega, by go_num, ?_⟩, by simp [RowKit.intOf]; omega⟩
          show List.all _ nmCh = true
          rw [hts.out, List.all_append, hall.out, List.all_cons, hne.out, decide_eq_true (by omega)]
          rfl
        · have g5 : ¬ ((s[k].toNat : Int) < 48) := by omega
          have g4 : ((s[k].toNat : Int) != 95) = false := by rw [g3]; rfl
          go_wp2_with fail
          refine ⟨⟨k + 1, by omega, by go_num, ?_⟩, by simp [RowKit.intOf]; omega⟩
          show List.all _ nmCh = true
          rw [hts.out, List.all_append, hall.out, List.all_cons, hne.out, decide_eq_true (by omega)]
          rfl
        · have g5 : ¬ ((s[k].toNat : Int) < 48) := by omega
          have g4 := bne_yes g3
          go_wp2_with fail
          go_ret
          exact ⟨ret_bool (nm_bad s k hlt (by rw [hne.out]; exact decide_eq_false (by omega))).symm, Below.refl _ _⟩
        · have g5 : ¬ ((s[k].toNat : Int) < 97) := by omega
          have g6 : ¬ ((s[k].toNat : Int) < 48) := by omega
          have g7 : 57 < (s[k].toNat : Int) := by omega
          have g4 := bne_yes (show (s[k].toNat : Int) ≠ 95 by omega)
          go_wp2_with fail
          go_ret
          exact ⟨ret_bool (nm_bad s k hlt (by rw [hne.out]; exact decide_eq_false (by omega))).symm, Below.refl _ _⟩
        · have g5 : ¬ ((s[k].toNat : Int) < 97) := by omega
          have g6 : ¬ (122 < (s[k].toNat : Int)) := by omega
          go_wp2_with fail
          refine ⟨⟨k + 1, by omega, by go_num, ?_⟩, by simp [RowKit.intOf]; omega⟩
          show List.all _ nmCh = true
          rw [hts.out, List.all_append, hall.out, List.all_cons, hne.out, decide_eq_true (by omega)]
          rfl
      · obtain rfl : k = s.size := by omega
        have HN := Lib.hid (show nameB s = !keysL.contains s from HA.out (by have := hall.out; rw [List.take_of_length_le (by simp)] at this; exact this))
        clear HA hall
        go_wp2_with fail
        refine (tkeys_c w).mono ?_
        rintro e w2 ⟨rfl, hb2, hk2⟩
        have HB2 := Lib.hid hb2
        have HC := Lib.hid (Tryz.slices_Contains_string w.heap.size 0 19 19 tkeysL s w2 (by decide) (by decide) hk2)
        rw [tkeys_contains] at HC
        clear hb2 hk2
        go_wp2_with fail
        refine HC.out.mono ?_
        rintro e w3 ⟨rfl, rfl⟩
        go_wp2_with fail
        go_ret
        exact ⟨ret_bool HN.out.symm, HB2.out⟩
end Go.Proofs.YtgmnbdfbbcpciaaGreatDoor
namespace Go.Proofs.YtgmnbdfbbcpciaaGreatDoor
open Go.RowKit Go.Lib
set_option linter.unusedVariables false

set_option maxRecDepth 100000 in
set_option maxHeartbeats 2000000 in
theorem roles_5 (ln : Int) (s : ByteArray) (k n : Int) (t : ByteArray) (vv : Value) (sa : Option Addr) (m sc : Nat) (w : World) (hm : m ≤ 4096) :
    Calls Tryz.prog 45 #[.agg #[.int .i64 5, .int .i64 ln, .string s, .int .i64 k, .int .i64 n, .string t, vv, .slice sa m sc]] w (RolesOut w 5 m) := by
  obtain ⟨wa, hwa⟩ : ∃ wa, wa = w.alloc (.cells #[.int .i64 5, .int .i64 ln, .string s, .int .i64 k, .int .i64 n, .string t, vv, .slice sa m sc] 33) := ⟨_, rfl⟩
  have hb : Below w.heap.size w wa := by rw [hwa]; exact (Below.refl _ _).alloc (Nat.le_refl _) _
  have hN : NdB wa w.heap.size (.int .i64 5) (.int .i64 ln) (.string s) (.int .i64 k) (.int .i64 n) (.string t) vv (.slice sa m sc) := by rw [hwa]; exact NdB.new _ _ _ _ _ _ _ _ _
  have v0 := hN.c0; have v7 := hN.c7
  rw [hwa] at v0 v7
  have HB := Lib.hid hb
  have HWA := Lib.hid hwa
  clear hb hN hwa
  go_enter Tryz.func45, Tryz.ntmps45
  go_wp2_with fail
  rw [← HWA.out]
  refine (all_c 0 2 wa (by decide) (by omega)).mono ?_
  rintro e w2 ⟨v, rfl, ho, hb2⟩
  have HO := Lib.hid ho
  have HB2 := Lib.hid (HB.out.trans (below_le' hb2 HB.out.size))
  clear ho hb2
  go_wp2_with fail
  go_ret2
  exact ⟨v, ret_tup (c := .nilIface) (by rw [show (2 : Int) = ((2 : Nat) : Int) from rfl, eq_nat]; rfl), by
    have h := own_lower HO.out HB.out.size
    have e : (rolesP 5 m).1 = List.replicate 2 0 := rfl
    rw [e, List.length_replicate]; exact h, HB2.out⟩

set_option maxRecDepth 100000 in
set_option maxHeartbeats 2000000 in
theorem roles_6 (ln : Int) (s : ByteArray) (k n : Int) (t : ByteArray) (vv : Value) (sa : Option Addr) (m sc : Nat) (w : World) (hm : m ≤ 4096) :
    Calls Tryz.prog 45 #[.agg #[.int .i64 6, .int .i64 ln, .string s, .int .i64 k, .int .i64 n, .string t, vv, .slice sa m sc]] w (RolesOut w 6 m) := by
  obtain ⟨wa, hwa⟩ : ∃ wa, wa = w.alloc (.cells #[.int .i64 6, .int .i64 ln, .string s, .int .i64 k, .int .i64 n, .string t, vv, .slice sa m sc] 33) := ⟨_, rfl⟩
  have hb : Below w.heap.size w wa := by rw [hwa]; exact (Below.refl _ _).alloc (Nat.le_refl _) _
  have hN : NdB wa w.heap.size (.int .i64 6) (.int .i64 ln) (.string s) (.int .i64 k) (.int .i64 n) (.string t) vv (.slice sa m sc) := by rw [hwa]; exact NdB.new _ _ _ _ _ _ _ _ _
  have v0 := hN.c0; have v7 := hN.c7
  rw [hwa] at v0 v7
  have HB := Lib.hid hb
  have HWA := Lib.hid hwa
  clear hb hN hwa
  go_enter Tryz.func45, Tryz.ntmps45
  go_wp2_with fail
  rw [← HWA.out]
  refine (all_c 0 2 wa (by decide) (by omega)).mono ?_
  rintro e w2 ⟨v, rfl, ho, hb2⟩
  have HO := Lib.hid ho
  have HB2 := Lib.hid (HB.out.trans (below_le' hb2 HB.out.size))
  clear ho hb2
  go_wp2_with fail
  go_ret2
  exact ⟨v, ret_tup (c := .nilIface) (by rw [show (2 : Int) = ((2 : Nat) : Int) from rfl, eq_nat]; rfl), by
    have h := own_lower HO.out HB.out.size
    have e : (rolesP 6 m).1 = List.replicate 2 0 := rfl
    rw [e, List.length_replicate]; exact h, HB2.out⟩

set_option maxRecDepth 100000 in
set_option maxHeartbeats 2000000 in
theorem roles_7 (ln : Int) (s : ByteArray) (k n : Int) (t : ByteArray) (vv : Value) (sa : Option Addr) (m sc : Nat) (w : World) (hm : m ≤ 4096) :
    Calls Tryz.prog 45 #[.agg #[.int .i64 7, .int .i64 ln, .string s, .int .i64 k, .int .i64 n, .string t, vv, .slice sa m sc]] w (RolesOut w 7 m) := by
  obtain ⟨wa, hwa⟩ : ∃ wa, wa = w.alloc (.cells #[.int .i64 7, .int .i64 ln, .string s, .int .i64 k, .int .i64 n, .string t, vv, .slice sa m sc] 33) := ⟨_, rfl⟩
  have hb : Below w.heap.size w wa := by rw [hwa]; exact (Below.refl _ _).alloc (Nat.le_refl _) _
  have hN : NdB wa w.heap.size (.int .i64 7) (.int .i64 ln) (.string s) (.int .i64 k) (.int .i64 n) (.string t) vv (.slice sa m sc) := by rw [hwa]; exact NdB.new _ _ _ _ _ _ _ _ _
  have v0 := hN.c0; have v7 := hN.c7
  rw [hwa] at v0 v7
  have HB := Lib.hid hb
  have HWA := Lib.hid hwa
  clear hb hN hwa
  go_enter Tryz.func45, Tryz.ntmps45
  go_wp2_with fail
  rw [← HWA.out]
  refine (all_c 0 2 wa (by decide) (by omega)).mono ?_
  rintro e w2 ⟨v, rfl, ho, hb2⟩
  have HO := Lib.hid ho
  have HB2 := Lib.hid (HB.out.trans (below_le' hb2 HB.out.size))
  clear ho hb2
  go_wp2_with fail
  go_ret2
  exact ⟨v, ret_tup (c := .nilIface) (by rw [show (2 : Int) = ((2 : Nat) : Int) from rfl, eq_nat]; rfl), by
    have h := own_lower HO.out HB.out.size
    have e : (rolesP 7 m).1 = List.replicate 2 0 := rfl
    rw [e, List.length_replicate]; exact h, HB2.out⟩

set_option maxRecDepth 100000 in
set_option maxHeartbeats 2000000 in
theorem roles_8 (ln : Int) (s : ByteArray) (k n : Int) (t : ByteArray) (vv : Value) (sa : Option Addr) (m sc : Nat) (w : World) (hm : m ≤ 4096) :
    Calls Tryz.prog 45 #[.agg #[.int .i64 8, .int .i64 ln, .string s, .int .i64 k, .int .i64 n, .string t, vv, .slice sa m sc]] w (RolesOut w 8 m) := by
  obtain ⟨wa, hwa⟩ : ∃ wa, wa = w.alloc (.cells #[.int .i64 8, .int .i64 ln, .string s, .int .i64 k, .int .i64 n, .string t, vv, .slice sa m sc] 33) := ⟨_, rfl⟩
  have hb : Below w.heap.size w wa := by rw [hwa]; exact (Below.refl _ _).alloc (Nat.le_refl _) _
  have hN : NdB wa w.heap.size (.int .i64 8) (.int .i64 ln) (.string s) (.int .i64 k) (.int .i64 n) (.string t) vv (.slice sa m sc) := by rw [hwa]; exact NdB.new _ _ _ _ _ _ _ _ _
  have v0 := hN.c0; have v7 := hN.c7
  rw [hwa] at v0 v7
  have HB := Lib.hid hb
  have HWA := Lib.hid hwa
  clear hb hN hwa
  go_enter Tryz.func45, Tryz.ntmps45
  go_wp2_with fail
  rw [← HWA.out]
  refine (all_c 0 2 wa (by decide) (by omega)).mono ?_
  rintro e w2 ⟨v, rfl, ho, hb2⟩
  have HO := Lib.hid ho
  have HB2 := Lib.hid (HB.out.trans (below_le' hb2 HB.out.size))
  clear ho hb2
  go_wp2_with fail
  go_ret2
  exact ⟨v, ret_tup (c := .nilIface) (by rw [show (2 : Int) = ((2 : Nat) : Int) from rfl, eq_nat]; rfl), by
    have h := own_lower HO.out HB.out.size
    have e : (rolesP 8 m).1 = List.replicate 2 0 := rfl
    rw [e, List.length_replicate]; exact h, HB2.out⟩

set_option maxRecDepth 100000 in
set_option maxHeartbeats 2000000 in
theorem roles_9 (ln : Int) (s : ByteArray) (k n : Int) (t : ByteArray) (vv : Value) (sa : Option Addr) (m sc : Nat) (w : World) (hm : m ≤ 4096) :
    Calls Tryz.prog 45 #[.agg #[.int .i64 9, .int .i64 ln, .string s, .int .i64 k, .int .i64 n, .string t, vv, .slice sa m sc]] w (RolesOut w 9 m) := by
  obtain ⟨wa, hwa⟩ : ∃ wa, wa = w.alloc (.cells #[.int .i64 9, .int .i64 ln, .string s, .int .i64 k, .int .i64 n, .string t, vv, .slice sa m sc] 33) := ⟨_, rfl⟩
  have hb : Below w.heap.size w wa := by rw [hwa]; exact (Below.refl _ _).alloc (Nat.le_refl _) _
  have hN : NdB wa w.heap.size (.int .i64 9) (.int .i64 ln) (.string s) (.int .i64 k) (.int .i64 n) (.string t) vv (.slice sa m sc) := by rw [hwa]; exact NdB.new _ _ _ _ _ _ _ _ _
  have v0 := hN.c0; have v7 := hN.c7
  rw [hwa] at v0 v7
  have HB := Lib.hid hb
  have HWA := Lib.hid hwa
  clear hb hN hwa
  go_enter Tryz.func45, Tryz.ntmps45
  go_wp2_with fail
  rw [← HWA.out]
  refine (all_c 0 2 wa (by decide) (by omega)).mono ?_
  rintro e w2 ⟨v, rfl, ho, hb2⟩
  have HO := Lib.hid ho
  have HB2 := Lib.hid (HB.out.trans (below_le' hb2 HB.out.size))
  clear ho hb2
  go_wp2_with fail
  go_ret2
  exact ⟨v, ret_tup (c := .nilIface) (by rw [show (2 : Int) = ((2 : Nat) : Int) from rfl, eq_nat]; rfl), by
    have h := own_lower HO.out HB.out.size
    have e : (rolesP 9 m).1 = List.replicate 2 0 := rfl
    rw [e, List.length_replicate]; exact h, HB2.out⟩

set_option maxRecDepth 100000 in
set_option maxHeartbeats 2000000 in
theorem roles_10 (ln : Int) (s : ByteArray) (k n : Int) (t : ByteArray) (vv : Value) (sa : Option Addr) (m sc : Nat) (w : World) (hm : m ≤ 4096) :
    Calls Tryz.prog 45 #[.agg #[.int .i64 10, .int .i64 ln, .string s, .int .i64 k, .int .i64 n, .string t, vv, .slice sa m sc]] w (RolesOut w 10 m) := by
  obtain ⟨wa, hwa⟩ : ∃ wa, wa = w.alloc (.cells #[.int .i64 10, .int .i64 ln, .string s, .int .i64 k, .int .i64 n, .string t, vv, .slice sa m sc] 33) := ⟨_, rfl⟩
  have hb : Below w.heap.size w wa := by rw [hwa]; exact (Below.refl _ _).alloc (Nat.le_refl _) _
  have hN : NdB wa w.heap.size (.int .i64 10) (.int .i64 ln) (.string s) (.int .i64 k) (.int .i64 n) (.string t) vv (.slice sa m sc) := by rw [hwa]; exact NdB.new _ _ _ _ _ _ _ _ _
  have v0 := hN.c0; have v7 := hN.c7
  rw [hwa] at v0 v7
  have HB := Lib.hid hb
  have HWA := Lib.hid hwa
  clear hb hN hwa
  go_enter Tryz.func45, Tryz.ntmps45
  go_wp2_with fail
  rw [← HWA.out]
  refine (all_c 0 2 wa (by decide) (by omega)).mono ?_
  rintro e w2 ⟨v, rfl, ho, hb2⟩
  have HO := Lib.hid ho
  have HB2 := Lib.hid (HB.out.trans (below_le' hb2 HB.out.size))
  clear ho hb2
  go_wp2_with fail
  go_ret2
  exact ⟨v, ret_tup (c := .nilIface) (by rw [show (2 : Int) = ((2 : Nat) : Int) from rfl, eq_nat]; rfl), by
    have h := own_lower HO.out HB.out.size
    have e : (rolesP 10 m).1 = List.replicate 2 0 := rfl
    rw [e, List.length_replicate]; exact h, HB2.out⟩

set_option maxRecDepth 100000 in
set_option maxHeartbeats 2000000 in
theorem roles_11 (ln : Int) (s : ByteArray) (k n : Int) (t : ByteArray) (vv : Value) (sa : Option Addr) (m sc : Nat) (w : World) (hm : m ≤ 4096) :
    Calls Tryz.prog 45 #[.agg #[.int .i64 11, .int .i64 ln, .string s, .int .i64 k, .int .i64 n, .string t, vv, .slice sa m sc]] w (RolesOut w 11 m) := by
  obtain ⟨wa, hwa⟩ : ∃ wa, wa = w.alloc (.cells #[.int .i64 11, .int .i64 ln, .string s, .int .i64 k, .int .i64 n, .string t, vv, .slice sa m sc] 33) := ⟨_, rfl⟩
  have hb : Below w.heap.size w wa := by rw [hwa]; exact (Below.refl _ _).alloc (Nat.le_refl _) _
  have hN : NdB wa w.heap.size (.int .i64 11) (.int .i64 ln) (.string s) (.int .i64 k) (.int .i64 n) (.string t) vv (.slice sa m sc) := by rw [hwa]; exact NdB.new _ _ _ _ _ _ _ _ _
  have v0 := hN.c0; have v7 := hN.c7
  rw [hwa] at v0 v7
  have HB := Lib.hid hb
  have HWA := Lib.hid hwa
  clear hb hN hwa
  go_enter Tryz.func45, Tryz.ntmps45
  go_wp2_with fail
  rw [← HWA.out]
  refine (all_c 0 2 wa (by decide) (by omega)).mono ?_
  rintro e w2 ⟨v, rfl, ho, hb2⟩
  have HO := Lib.hid ho
  have HB2 := Lib.hid (HB.out.trans (below_le' hb2 HB.out.size))
  clear ho hb2
  go_wp2_with fail
  go_ret2
  exact ⟨v, ret_tup (c := .nilIface) (by rw [show (2 : Int) = ((2 : Nat) : Int) from rfl, eq_nat]; rfl), by
    have h := own_lower HO.out HB.out.size
    have e : (rolesP 11 m).1 = List.replicate 2 0 := rfl
    rw [e, List.length_replicate]; exact h, HB2.out⟩

set_option maxRecDepth 100000 in
set_option maxHeartbeats 2000000 in
theorem roles_12 (ln : Int) (s : ByteArray) (k n : Int) (t : ByteArray) (vv : Value) (sa : Option Addr) (m sc : Nat) (w : World) (hm : m ≤ 4096) :
    Calls Tryz.prog 45 #[.agg #[.int .i64 12, .int .i64 ln, .string s, .int .i64 k, .int .i64 n, .string t, vv, .slice sa m sc]] w (RolesOut w 12 m) := by
  obtain ⟨wa, hwa⟩ : ∃ wa, wa = w.alloc (.cells #[.int .i64 12, .int .i64 ln, .string s, .int .i64 k, .int .i64 n, .string t, vv, .slice sa m sc] 33) := ⟨_, rfl⟩
  have hb : Below w.heap.size w wa := by rw [hwa]; exact (Below.refl _ _).alloc (Nat.le_refl _) _
  have hN : NdB wa w.heap.size (.int .i64 12) (.int .i64 ln) (.string s) (.int .i64 k) (.int .i64 n) (.string t) vv (.slice sa m sc) := by rw [hwa]; exact NdB.new _ _ _ _ _ _ _ _ _
  have v0 := hN.c0; have v7 := hN.c7
  rw [hwa] at v0 v7
  have HB := Lib.hid hb
  have HWA := Lib.hid hwa
  clear hb hN hwa
  go_enter Tryz.func45, Tryz.ntmps45
  go_wp2_with fail
  rw [← HWA.out]
  refine (all_c 0 2 wa (by decide) (by omega)).mono ?_
  rintro e w2 ⟨v, rfl, ho, hb2⟩
  have HO := Lib.hid ho
  have HB2 := Lib.hid (HB.out.trans (below_le' hb2 HB.out.size))
  clear ho hb2
  go_wp2_with fail
  go_ret2
  exact ⟨v, ret_tup (c := .nilIface) (by rw [show (2 : Int) = ((2 : Nat) : Int) from rfl, eq_nat]; rfl), by
    have h := own_lower HO.out HB.out.size
    have e : (rolesP 12 m).1 = List.replicate 2 0 := rfl
    rw [e, List.length_replicate]; exact h, HB2.out⟩

set_option maxRecDepth 100000 in
set_option maxHeartbeats 2000000 in
theorem roles_13 (ln : Int) (s : ByteArray) (k n : Int) (t : ByteArray) (vv : Value) (sa : Option Addr) (m sc : Nat) (w : World) (hm : m ≤ 4096) :
    Calls Tryz.prog 45 #[.agg #[.int .i64 13, .int .i64 ln, .string s, .int .i64 k, .int .i64 n, .string t, vv, .slice sa m sc]] w (RolesOut w 13 m) := by
  obtain ⟨wa, hwa⟩ : ∃ wa, wa = w.alloc (.cells #[.int .i64 13, .int .i64 ln, .string s, .int .i64 k, .int .i64 n, .string t, vv, .slice sa m sc] 33) := ⟨_, rfl⟩
  have hb : Below w.heap.size w wa := by rw [hwa]; exact (Below.refl _ _).alloc (Nat.le_refl _) _
  have hN : NdB wa w.heap.size (.int .i64 13) (.int .i64 ln) (.string s) (.int .i64 k) (.int .i64 n) (.string t) vv (.slice sa m sc) := by rw [hwa]; exact NdB.new _ _ _ _ _ _ _ _ _
  have v0 := hN.c0; have v7 := hN.c7
  rw [hwa] at v0 v7
  have HB := Lib.hid hb
  have HWA := Lib.hid hwa
  clear hb hN hwa
  go_enter Tryz.func45, Tryz.ntmps45
  go_wp2_with fail
  rw [← HWA.out]
  refine (all_c 0 2 wa (by decide) (by omega)).mono ?_
  rintro e w2 ⟨v, rfl, ho, hb2⟩
  have HO := Lib.hid ho
  have HB2 := Lib.hid (HB.out.trans (below_le' hb2 HB.out.size))
  clear ho hb2
  go_wp2_with fail
  go_ret2
  exact ⟨v, ret_tup (c := .nilIface) (by rw [show (2 : Int) = ((2 : Nat) : Int) from rfl, eq_nat]; rfl), by
    have h := own_lower HO.out HB.out.size
    have e : (rolesP 13 m).1 = List.replicate 2 0 := rfl
    rw [e, List.length_replicate]; exact h, HB2.out⟩

set_option maxRecDepth 100000 in
set_option maxHeartbeats 2000000 in
theorem roles_14 (ln : Int) (s : ByteArray) (k n : Int) (t : ByteArray) (vv : Value) (sa : Option Addr) (m sc : Nat) (w : World) (hm : m ≤ 4096) :
    Calls Tryz.prog 45 #[.agg #[.int .i64 14, .int .i64 ln, .string s, .int .i64 k, .int .i64 n, .string t, vv, .slice sa m sc]] w (RolesOut w 14 m) := by
  obtain ⟨wa, hwa⟩ : ∃ wa, wa = w.alloc (.cells #[.int .i64 14, .int .i64 ln, .string s, .int .i64 k, .int .i64 n, .string t, vv, .slice sa m sc] 33) := ⟨_, rfl⟩
  have hb : Below w.heap.size w wa := by rw [hwa]; exact (Below.refl _ _).alloc (Nat.le_refl _) _
  have hN : NdB wa w.heap.size (.int .i64 14) (.int .i64 ln) (.string s) (.int .i64 k) (.int .i64 n) (.string t) vv (.slice sa m sc) := by rw [hwa]; exact NdB.new _ _ _ _ _ _ _ _ _
  have v0 := hN.c0; have v7 := hN.c7
  rw [hwa] at v0 v7
  have HB := Lib.hid hb
  have HWA := Lib.hid hwa
  clear hb hN hwa
  go_enter Tryz.func45, Tryz.ntmps45
  go_wp2_with fail
  rw [← HWA.out]
  refine (all_c 0 2 wa (by decide) (by omega)).mono ?_
  rintro e w2 ⟨v, rfl, ho, hb2⟩
  have HO := Lib.hid ho
  have HB2 := Lib.hid (HB.out.trans (below_le' hb2 HB.out.size))
  clear ho hb2
  go_wp2_with fail
  go_ret2
  exact ⟨v, ret_tup (c := .nilIface) (by rw [show (2 : Int) = ((2 : Nat) : Int) from rfl, eq_nat]; rfl), by
    have h := own_lower HO.out HB.out.size
    have e : (rolesP 14 m).1 = List.replicate 2 0 := rfl
    rw [e, List.length_replicate]; exact h, HB2.out⟩

set_option maxRecDepth 100000 in
set_option maxHeartbeats 2000000 in
theorem roles_15 (ln : Int) (s : ByteArray) (k n : Int) (t : ByteArray) (vv : Value) (sa : Option Addr) (m sc : Nat) (w : World) (hm : m ≤ 4096) :
    Calls Tryz.prog 45 #[.agg #[.int .i64 15, .int .i64 ln, .string s, .int .i64 k, .int .i64 n, .string t, vv, .slice sa m sc]] w (RolesOut w 15 m) := by
  obtain ⟨wa, hwa⟩ : ∃ wa, wa = w.alloc (.cells #[.int .i64 15, .int .i64 ln, .string s, .int .i64 k, .int .i64 n, .string t, vv, .slice sa m sc] 33) := ⟨_, rfl⟩
  have hb : Below w.heap.size w wa := by rw [hwa]; exact (Below.refl _ _).alloc (Nat.le_refl _) _
  have hN : NdB wa w.heap.size (.int .i64 15) (.int .i64 ln) (.string s) (.int .i64 k) (.int .i64 n) (.string t) vv (.slice sa m sc) := by rw [hwa]; exact NdB.new _ _ _ _ _ _ _ _ _
  have v0 := hN.c0; have v7 := hN.c7
  rw [hwa] at v0 v7
  have HB := Lib.hid hb
  have HWA := Lib.hid hwa
  clear hb hN hwa
  go_enter Tryz.func45, Tryz.ntmps45
  go_wp2_with fail
  rw [← HWA.out]
  refine (all_c 0 2 wa (by decide) (by omega)).mono ?_
  rintro e w2 ⟨v, rfl, ho, hb2⟩
  have HO := Lib.hid ho
  have HB2 := Lib.hid (HB.out.trans (below_le' hb2 HB.out.size))
  clear ho hb2
  go_wp2_with fail
  go_ret2
  exact ⟨v, ret_tup (c := .nilIface) (by rw [show (2 : Int) = ((2 : Nat) : Int) from rfl, eq_nat]; rfl), by
    have h := own_lower HO.out HB.out.size
    have e : (rolesP 15 m).1 = List.replicate 2 0 := rfl
    rw [e, List.length_replicate]; exact h, HB2.out⟩

set_option maxRecDepth 100000 in
set_option maxHeartbeats 2000000 in
theorem roles_16 (ln : Int) (s : ByteArray) (k n : Int) (t : ByteArray) (vv : Value) (sa : Option Addr) (m sc : Nat) (w : World) (hm : m ≤ 4096) :
    Calls Tryz.prog 45 #[.agg #[.int .i64 16, .int .i64 ln, .string s, .int .i64 k, .int .i64 n, .string t, vv, .slice sa m sc]] w (RolesOut w 16 m) := by
  obtain ⟨wa, hwa⟩ : ∃ wa, wa = w.alloc (.cells #[.int .i64 16, .int .i64 ln, .string s, .int .i64 k, .int .i64 n, .string t, vv, .slice sa m sc] 33) := ⟨_, rfl⟩
  have hb : Below w.heap.size w wa := by rw [hwa]; exact (Below.refl _ _).alloc (Nat.le_refl _) _
  have hN : NdB wa w.heap.size (.int .i64 16) (.int .i64 ln) (.string s) (.int .i64 k) (.int .i64 n) (.string t) vv (.slice sa m sc) := by rw [hwa]; exact NdB.new _ _ _ _ _ _ _ _ _
  have v0 := hN.c0; have v7 := hN.c7
  rw [hwa] at v0 v7
  have HB := Lib.hid hb
  have HWA := Lib.hid hwa
  clear hb hN hwa
  go_enter Tryz.func45, Tryz.ntmps45
  go_wp2_with fail
  rw [← HWA.out]
  refine (all_c 0 2 wa (by decide) (by omega)).mono ?_
  rintro e w2 ⟨v, rfl, ho, hb2⟩
  have HO := Lib.hid ho
  have HB2 := Lib.hid (HB.out.trans (below_le' hb2 HB.out.size))
  clear ho hb2
  go_wp2_with fail
  go_ret2
  exact ⟨v, ret_tup (c := .nilIface) (by rw [show (2 : Int) = ((2 : Nat) : Int) from rfl, eq_nat]; rfl), by
    have h := own_lower HO.out HB.out.size
    have e : (rolesP 16 m).1 = List.replicate 2 0 := rfl
    rw [e, List.length_replicate]; exact h, HB2.out⟩

set_option maxRecDepth 100000 in
set_option maxHeartbeats 2000000 in
theorem roles_17 (ln : Int) (s : ByteArray) (k n : Int) (t : ByteArray) (vv : Value) (sa : Option Addr) (m sc : Nat) (w : World) (hm : m ≤ 4096) :
    Calls Tryz.prog 45 #[.agg #[.int .i64 17, .int .i64 ln, .string s, .int .i64 k, .int .i64 n, .string t, vv, .slice sa m sc]] w (RolesOut w 17 m) := by
  obtain ⟨wa, hwa⟩ : ∃ wa, wa = w.alloc (.cells #[.int .i64 17, .int .i64 ln, .string s, .int .i64 k, .int .i64 n, .string t, vv, .slice sa m sc] 33) := ⟨_, rfl⟩
  have hb : Below w.heap.size w wa := by rw [hwa]; exact (Below.refl _ _).alloc (Nat.le_refl _) _
  have hN : NdB wa w.heap.size (.int .i64 17) (.int .i64 ln) (.string s) (.int .i64 k) (.int .i64 n) (.string t) vv (.slice sa m sc) := by rw [hwa]; exact NdB.new _ _ _ _ _ _ _ _ _
  have v0 := hN.c0; have v7 := hN.c7
  rw [hwa] at v0 v7
  have HB := Lib.hid hb
  have HWA := Lib.hid hwa
  clear hb hN hwa
  go_enter Tryz.func45, Tryz.ntmps45
  go_wp2_with fail
  rw [← HWA.out]
  refine (all_c 0 2 wa (by decide) (by omega)).mono ?_
  rintro e w2 ⟨v, rfl, ho, hb2⟩
  have HO := Lib.hid ho
  have HB2 := Lib.hid (HB.out.trans (below_le' hb2 HB.out.size))
  clear ho hb2
  go_wp2_with fail
  go_ret2
  exact ⟨v, ret_tup (c := .nilIface) (by rw [show (2 : Int) = ((2 : Nat) : Int) from rfl, eq_nat]; rfl), by
    have h := own_lower HO.out HB.out.size
    have e : (rolesP 17 m).1 = List.replicate 2 0 := rfl
    rw [e, List.length_replicate]; exact h, HB2.out⟩

set_option maxRecDepth 100000 in
set_option maxHeartbeats 2000000 in
theorem roles_18 (ln : Int) (s : ByteArray) (k n : Int) (t : ByteArray) (vv : Value) (sa : Option Addr) (m sc : Nat) (w : World) (hm : m ≤ 4096) :
    Calls Tryz.prog 45 #[.agg #[.int .i64 18, .int .i64 ln, .string s, .int .i64 k, .int .i64 n, .string t, vv, .slice sa m sc]] w (RolesOut w 18 m) := by
  obtain ⟨wa, hwa⟩ : ∃ wa, wa = w.alloc (.cells #[.int .i64 18, .int .i64 ln, .string s, .int .i64 k, .int .i64 n, .string t, vv, .slice sa m sc] 33) := ⟨_, rfl⟩
  have hb : Below w.heap.size w wa := by rw [hwa]; exact (Below.refl _ _).alloc (Nat.le_refl _) _
  have hN : NdB wa w.heap.size (.int .i64 18) (.int .i64 ln) (.string s) (.int .i64 k) (.int .i64 n) (.string t) vv (.slice sa m sc) := by rw [hwa]; exact NdB.new _ _ _ _ _ _ _ _ _
  have v0 := hN.c0; have v7 := hN.c7
  rw [hwa] at v0 v7
  have HB := Lib.hid hb
  have HWA := Lib.hid hwa
  clear hb hN hwa
  go_enter Tryz.func45, Tryz.ntmps45
  go_wp2_with fail
  rw [← HWA.out]
  refine (all_c 0 2 wa (by decide) (by omega)).mono ?_
  rintro e w2 ⟨v, rfl, ho, hb2⟩
  have HO := Lib.hid ho
  have HB2 := Lib.hid (HB.out.trans (below_le' hb2 HB.out.size))
  clear ho hb2
  go_wp2_with fail
  go_ret2
  exact ⟨v, ret_tup (c := .nilIface) (by rw [show (2 : Int) = ((2 : Nat) : Int) from rfl, eq_nat]; rfl), by
    have h := own_lower HO.out HB.out.size
    have e : (rolesP 18 m).1 = List.replicate 2 0 := rfl
    rw [e, List.length_replicate]; exact h, HB2.out⟩

set_option maxRecDepth 100000 in
set_option maxHeartbeats 2000000 in
theorem roles_20 (ln : Int) (s : ByteArray) (k n : Int) (t : ByteArray) (vv : Value) (sa : Option Addr) (m sc : Nat) (w : World) (hm : m ≤ 4096) :
    Calls Tryz.prog 45 #[.agg #[.int .i64 20, .int .i64 ln, .string s, .int .i64 k, .int .i64 n, .string t, vv, .slice sa m sc]] w (RolesOut w 20 m) := by
  obtain ⟨wa, hwa⟩ : ∃ wa, wa = w.alloc (.cells #[.int .i64 20, .int .i64 ln, .string s, .int .i64 k, .int .i64 n, .string t, vv, .slice sa m sc] 33) := ⟨_, rfl⟩
  have hb : Below w.heap.size w wa := by rw [hwa]; exact (Below.refl _ _).alloc (Nat.le_refl _) _
  have hN : NdB wa w.heap.size (.int .i64 20) (.int .i64 ln) (.string s) (.int .i64 k) (.int .i64 n) (.string t) vv (.slice sa m sc) := by rw [hwa]; exact NdB.new _ _ _ _ _ _ _ _ _
  have v0 := hN.c0; have v7 := hN.c7
  rw [hwa] at v0 v7
  have HB := Lib.hid hb
  have HWA := Lib.hid hwa
  clear hb hN hwa
  go_enter Tryz.func45, Tryz.ntmps45
  go_wp2_with fail
  rw [← HWA.out]
  refine (all_c 0 2 wa (by decide) (by omega)).mono ?_
  rintro e w2 ⟨v, rfl, ho, hb2⟩
  have HO := Lib.hid ho
  have HB2 := Lib.hid (HB.out.trans (below_le' hb2 HB.out.size))
  clear ho hb2
  go_wp2_with fail
  go_ret2
  exact ⟨v, ret_tup (c := .nilIface) (by rw [show (2 : Int) = ((2 : Nat) : Int) from rfl, eq_nat]; rfl), by
    have h := own_lower HO.out HB.out.size
    have e : (rolesP 20 m).1 = List.replicate 2 0 := rfl
    rw [e, List.length_replicate]; exact h, HB2.out⟩

set_option maxRecDepth 100000 in
set_option maxHeartbeats 2000000 in
theorem roles_22 (ln : Int) (s : ByteArray) (k n : Int) (t : ByteArray) (vv : Value) (sa : Option Addr) (m sc : Nat) (w : World) (hm : m ≤ 4096) :
    Calls Tryz.prog 45 #[.agg #[.int .i64 22, .int .i64 ln, .string s, .int .i64 k, .int .i64 n, .string t, vv, .slice sa m sc]] w (RolesOut w 22 m) := by
  obtain ⟨wa, hwa⟩ : ∃ wa, wa = w.alloc (.cells #[.int .i64 22, .int .i64 ln, .string s, .int .i64 k, .int .i64 n, .string t, vv, .slice sa m sc] 33) := ⟨_, rfl⟩
  have hb : Below w.heap.size w wa := by rw [hwa]; exact (Below.refl _ _).alloc (Nat.le_refl _) _
  have hN : NdB wa w.heap.size (.int .i64 22) (.int .i64 ln) (.string s) (.int .i64 k) (.int .i64 n) (.string t) vv (.slice sa m sc) := by rw [hwa]; exact NdB.new _ _ _ _ _ _ _ _ _
  have v0 := hN.c0; have v7 := hN.c7
  rw [hwa] at v0 v7
  have HB := Lib.hid hb
  have HWA := Lib.hid hwa
  clear hb hN hwa
  go_enter Tryz.func45, Tryz.ntmps45
  go_wp2_with fail
  rw [← HWA.out]
  refine (all_c 0 2 wa (by decide) (by omega)).mono ?_
  rintro e w2 ⟨v, rfl, ho, hb2⟩
  have HO := Lib.hid ho
  have HB2 := Lib.hid (HB.out.trans (below_le' hb2 HB.out.size))
  clear ho hb2
  go_wp2_with fail
  go_ret2
  exact ⟨v, ret_tup (c := .nilIface) (by rw [show (2 : Int) = ((2 : Nat) : Int) from rfl, eq_nat]; rfl), by
    have h := own_lower HO.out HB.out.size
    have e : (rolesP 22 m).1 = List.replicate 2 0 := rfl
    rw [e, List.length_replicate]; exact h, HB2.out⟩
end Go.Proofs.YtgmnbdfbbcpciaaGreatDoor
namespace Go.Proofs.YtgmnbdfbbcpciaaGreatDoor
open Go.RowKit Go.Lib
set_option linter.unusedVariables false

set_option maxRecDepth 100000 in
set_option maxHeartbeats 2000000 in
theorem roles_27 (ln : Int) (s : ByteArray) (k n : Int) (t : ByteArray) (vv : Value) (sa : Option Addr) (m sc : Nat) (w : World) (hm : m ≤ 4096) :
    Calls Tryz.prog 45 #[.agg #[.int .i64 27, .int .i64 ln, .string s, .int .i64 k, .int .i64 n, .string t, vv, .slice sa m sc]] w (RolesOut w 27 m) := by
  obtain ⟨wa, hwa⟩ : ∃ wa, wa = w.alloc (.cells #[.int .i64 27, .int .i64 ln, .string s, .int .i64 k, .int .i64 n, .string t, vv, .slice sa m sc] 33) := ⟨_, rfl⟩
  have hb : Below w.heap.size w wa := by rw [hwa]; exact (Below.refl _ _).alloc (Nat.le_refl _) _
  have hN : NdB wa w.heap.size (.int .i64 27) (.int .i64 ln) (.string s) (.int .i64 k) (.int .i64 n) (.string t) vv (.slice sa m sc) := by rw [hwa]; exact NdB.new _ _ _ _ _ _ _ _ _
  have v0 := hN.c0; have v7 := hN.c7
  rw [hwa] at v0 v7
  have HB := Lib.hid hb
  have HWA := Lib.hid hwa
  clear hb hN hwa
  go_enter Tryz.func45, Tryz.ntmps45
  go_wp2_with fail
  rw [← HWA.out]
  go_ret2
  refine ⟨_, ret_tup (c := .nilIface) (by rw [show (2 : Int) = ((2 : Nat) : Int) from rfl, eq_nat]; rfl), ?_, HB.out.alloc HB.out.size _⟩
  have h := own_lit (cs := #[.int .i64 2, .int .i64 0]) (n := 2) wa HB.out.size (by decide) rfl
  have hz : wa.heap.size = w.heap.size + 1 := by rw [HWA.out]; simp
  rw [hz] at h
  exact h

set_option maxRecDepth 100000 in
set_option maxHeartbeats 2000000 in
theorem roles_42 (ln : Int) (s : ByteArray) (k n : Int) (t : ByteArray) (vv : Value) (sa : Option Addr) (m sc : Nat) (w : World) (hm : m ≤ 4096) :
    Calls Tryz.prog 45 #[.agg #[.int .i64 42, .int .i64 ln, .string s, .int .i64 k, .int .i64 n, .string t, vv, .slice sa m sc]] w (RolesOut w 42 m) := by
  obtain ⟨wa, hwa⟩ : ∃ wa, wa = w.alloc (.cells #[.int .i64 42, .int .i64 ln, .string s, .int .i64 k, .int .i64 n, .string t, vv, .slice sa m sc] 33) := ⟨_, rfl⟩
  have hb : Below w.heap.size w wa := by rw [hwa]; exact (Below.refl _ _).alloc (Nat.le_refl _) _
  have hN : NdB wa w.heap.size (.int .i64 42) (.int .i64 ln) (.string s) (.int .i64 k) (.int .i64 n) (.string t) vv (.slice sa m sc) := by rw [hwa]; exact NdB.new _ _ _ _ _ _ _ _ _
  have v0 := hN.c0; have v7 := hN.c7
  rw [hwa] at v0 v7
  have HB := Lib.hid hb
  have HWA := Lib.hid hwa
  clear hb hN hwa
  go_enter Tryz.func45, Tryz.ntmps45
  go_wp2_with fail
  rw [← HWA.out]
  go_ret2
  refine ⟨_, ret_tup (c := .nilIface) (by rw [show (2 : Int) = ((2 : Nat) : Int) from rfl, eq_nat]; rfl), ?_, HB.out.alloc HB.out.size _⟩
  have h := own_lit (cs := #[.int .i64 0, .int .i64 6]) (n := 2) wa HB.out.size (by decide) rfl
  have hz : wa.heap.size = w.heap.size + 1 := by rw [HWA.out]; simp
  rw [hz] at h
  exact h

set_option maxRecDepth 100000 in
set_option maxHeartbeats 2000000 in
theorem roles_44 (ln : Int) (s : ByteArray) (k n : Int) (t : ByteArray) (vv : Value) (sa : Option Addr) (m sc : Nat) (w : World) (hm : m ≤ 4096) :
    Calls Tryz.prog 45 #[.agg #[.int .i64 44, .int .i64 ln, .string s, .int .i64 k, .int .i64 n, .string t, vv, .slice sa m sc]] w (RolesOut w 44 m) := by
  obtain ⟨wa, hwa⟩ : ∃ wa, wa = w.alloc (.cells #[.int .i64 44, .int .i64 ln, .string s, .int .i64 k, .int .i64 n, .string t, vv, .slice sa m sc] 33) := ⟨_, rfl⟩
  have hb : Below w.heap.size w wa := by rw [hwa]; exact (Below.refl _ _).alloc (Nat.le_refl _) _
  have hN : NdB wa w.heap.size (.int .i64 44) (.int .i64 ln) (.string s) (.int .i64 k) (.int .i64 n) (.string t) vv (.slice sa m sc) := by rw [hwa]; exact NdB.new _ _ _ _ _ _ _ _ _
  have v0 := hN.c0; have v7 := hN.c7
  rw [hwa] at v0 v7
  have HB := Lib.hid hb
  have HWA := Lib.hid hwa
  clear hb hN hwa
  go_enter Tryz.func45, Tryz.ntmps45
  go_wp2_with fail
  rw [← HWA.out]
  go_ret2
  refine ⟨_, ret_tup (c := .nilIface) (by rw [show (2 : Int) = ((2 : Nat) : Int) from rfl, eq_nat]; rfl), ?_, HB.out.alloc HB.out.size _⟩
  have h := own_lit (cs := #[.int .i64 0, .int .i64 6]) (n := 2) wa HB.out.size (by decide) rfl
  have hz : wa.heap.size = w.heap.size + 1 := by rw [HWA.out]; simp
  rw [hz] at h
  exact h

set_option maxRecDepth 100000 in
set_option maxHeartbeats 2000000 in
theorem roles_48 (ln : Int) (s : ByteArray) (k n : Int) (t : ByteArray) (vv : Value) (sa : Option Addr) (m sc : Nat) (w : World) (hm : m ≤ 4096) :
    Calls Tryz.prog 45 #[.agg #[.int .i64 48, .int .i64 ln, .string s, .int .i64 k, .int .i64 n, .string t, vv, .slice sa m sc]] w (RolesOut w 48 m) := by
  obtain ⟨wa, hwa⟩ : ∃ wa, wa = w.alloc (.cells #[.int .i64 48, .int .i64 ln, .string s, .int .i64 k, .int .i64 n, .string t, vv, .slice sa m sc] 33) := ⟨_, rfl⟩
  have hb : Below w.heap.size w wa := by rw [hwa]; exact (Below.refl _ _).alloc (Nat.le_refl _) _
  have hN : NdB wa w.heap.size (.int .i64 48) (.int .i64 ln) (.string s) (.int .i64 k) (.int .i64 n) (.string t) vv (.slice sa m sc) := by rw [hwa]; exact NdB.new _ _ _ _ _ _ _ _ _
  have v0 := hN.c0; have v7 := hN.c7
  rw [hwa] at v0 v7
  have HB := Lib.hid hb
  have HWA := Lib.hid hwa
  clear hb hN hwa
  go_enter Tryz.func45, Tryz.ntmps45
  go_wp2_with fail
  rw [← HWA.out]
  go_ret2
  refine ⟨_, ret_tup (c := .nilIface) (by rw [show (2 : Int) = ((2 : Nat) : Int) from rfl, eq_nat]; rfl), ?_, HB.out.alloc HB.out.size _⟩
  have h := own_lit (cs := #[.int .i64 0, .int .i64 6]) (n := 2) wa HB.out.size (by decide) rfl
  have hz : wa.heap.size = w.heap.size + 1 := by rw [HWA.out]; simp
  rw [hz] at h
  exact h

set_option maxRecDepth 100000 in
set_option maxHeartbeats 2000000 in
theorem roles_43 (ln : Int) (s : ByteArray) (k n : Int) (t : ByteArray) (vv : Value) (sa : Option Addr) (m sc : Nat) (w : World) (hm : m ≤ 4096) :
    Calls Tryz.prog 45 #[.agg #[.int .i64 43, .int .i64 ln, .string s, .int .i64 k, .int .i64 n, .string t, vv, .slice sa m sc]] w (RolesOut w 43 m) := by
  obtain ⟨wa, hwa⟩ : ∃ wa, wa = w.alloc (.cells #[.int .i64 43, .int .i64 ln, .string s, .int .i64 k, .int .i64 n, .string t, vv, .slice sa m sc] 33) := ⟨_, rfl⟩
  have hb : Below w.heap.size w wa := by rw [hwa]; exact (Below.refl _ _).alloc (Nat.le_refl _) _
  have hN : NdB wa w.heap.size (.int .i64 43) (.int .i64 ln) (.string s) (.int .i64 k) (.int .i64 n) (.string t) vv (.slice sa m sc) := by rw [hwa]; exact NdB.new _ _ _ _ _ _ _ _ _
  have v0 := hN.c0; have v7 := hN.c7
  rw [hwa] at v0 v7
  have HB := Lib.hid hb
  have HWA := Lib.hid hwa
  clear hb hN hwa
  go_enter Tryz.func45, Tryz.ntmps45
  go_wp2_with fail
  rw [← HWA.out]
  go_ret2
  refine ⟨_, ret_tup (c := .nilIface) (by rw [show (3 : Int) = ((3 : Nat) : Int) from rfl, eq_nat]; rfl), ?_, HB.out.alloc HB.out.size _⟩
  have h := own_lit (cs := #[.int .i64 0, .int .i64 0, .int .i64 6]) (n := 3) wa HB.out.size (by decide) rfl
  have hz : wa.heap.size = w.heap.size + 1 := by rw [HWA.out]; simp
  rw [hz] at h
  exact h

set_option maxRecDepth 100000 in
set_option maxHeartbeats 2000000 in
theorem roles_50 (ln : Int) (s : ByteArray) (k n : Int) (t : ByteArray) (vv : Value) (sa : Option Addr) (m sc : Nat) (w : World) (hm : m ≤ 4096) :
    Calls Tryz.prog 45 #[.agg #[.int .i64 50, .int .i64 ln, .string s, .int .i64 k, .int .i64 n, .string t, vv, .slice sa m sc]] w (RolesOut w 50 m) := by
  obtain ⟨wa, hwa⟩ : ∃ wa, wa = w.alloc (.cells #[.int .i64 50, .int .i64 ln, .string s, .int .i64 k, .int .i64 n, .string t, vv, .slice sa m sc] 33) := ⟨_, rfl⟩
  have hb : Below w.heap.size w wa := by rw [hwa]; exact (Below.refl _ _).alloc (Nat.le_refl _) _
  have hN : NdB wa w.heap.size (.int .i64 50) (.int .i64 ln) (.string s) (.int .i64 k) (.int .i64 n) (.string t) vv (.slice sa m sc) := by rw [hwa]; exact NdB.new _ _ _ _ _ _ _ _ _
  have v0 := hN.c0; have v7 := hN.c7
  rw [hwa] at v0 v7
  have HB := Lib.hid hb
  have HWA := Lib.hid hwa
  clear hb hN hwa
  go_enter Tryz.func45, Tryz.ntmps45
  go_wp2_with fail
  rw [← HWA.out]
  go_ret2
  refine ⟨_, ret_tup (c := .nilIface) (by rw [show (2 : Int) = ((2 : Nat) : Int) from rfl, eq_nat]; rfl), ?_, HB.out.alloc HB.out.size _⟩
  have h := own_lit (cs := #[.int .i64 5, .int .i64 6]) (n := 2) wa HB.out.size (by decide) rfl
  have hz : wa.heap.size = w.heap.size + 1 := by rw [HWA.out]; simp
  rw [hz] at h
  exact h

set_option maxRecDepth 100000 in
set_option maxHeartbeats 2000000 in
theorem roles_51 (ln : Int) (s : ByteArray) (k n : Int) (t : ByteArray) (vv : Value) (sa : Option Addr) (m sc : Nat) (w : World) (hm : m ≤ 4096) :
    Calls Tryz.prog 45 #[.agg #[.int .i64 51, .int .i64 ln, .string s, .int .i64 k, .int .i64 n, .string t, vv, .slice sa m sc]] w (RolesOut w 51 m) := by
  obtain ⟨wa, hwa⟩ : ∃ wa, wa = w.alloc (.cells #[.int .i64 51, .int .i64 ln, .string s, .int .i64 k, .int .i64 n, .string t, vv, .slice sa m sc] 33) := ⟨_, rfl⟩
  have hb : Below w.heap.size w wa := by rw [hwa]; exact (Below.refl _ _).alloc (Nat.le_refl _) _
  have hN : NdB wa w.heap.size (.int .i64 51) (.int .i64 ln) (.string s) (.int .i64 k) (.int .i64 n) (.string t) vv (.slice sa m sc) := by rw [hwa]; exact NdB.new _ _ _ _ _ _ _ _ _
  have v0 := hN.c0; have v7 := hN.c7
  rw [hwa] at v0 v7
  have HB := Lib.hid hb
  have HWA := Lib.hid hwa
  clear hb hN hwa
  go_enter Tryz.func45, Tryz.ntmps45
  go_wp2_with fail
  rw [← HWA.out]
  go_ret2
  refine ⟨_, ret_tup (c := .nilIface) (by rw [show (2 : Int) = ((2 : Nat) : Int) from rfl, eq_nat]; rfl), ?_, HB.out.alloc HB.out.size _⟩
  have h := own_lit (cs := #[.int .i64 6, .int .i64 6]) (n := 2) wa HB.out.size (by decide) rfl
  have hz : wa.heap.size = w.heap.size + 1 := by rw [HWA.out]; simp
  rw [hz] at h
  exact h
end Go.Proofs.YtgmnbdfbbcpciaaGreatDoor
namespace Go.Proofs.YtgmnbdfbbcpciaaGreatDoor
open Go.RowKit Go.Lib
set_option linter.unusedVariables false

set_option maxRecDepth 100000 in
set_option maxHeartbeats 2000000 in
theorem roles_23 (ln : Int) (s : ByteArray) (k n : Int) (t : ByteArray) (vv : Value) (sa : Option Addr) (m sc : Nat) (w : World) (hm : m ≤ 4096) :
    Calls Tryz.prog 45 #[.agg #[.int .i64 23, .int .i64 ln, .string s, .int .i64 k, .int .i64 n, .string t, vv, .slice sa m sc]] w (RolesOut w 23 m) := by
  obtain ⟨wa, hwa⟩ : ∃ wa, wa = w.alloc (.cells #[.int .i64 23, .int .i64 ln, .string s, .int .i64 k, .int .i64 n, .string t, vv, .slice sa m sc] 33) := ⟨_, rfl⟩
  have hb : Below w.heap.size w wa := by rw [hwa]; exact (Below.refl _ _).alloc (Nat.le_refl _) _
  have hN : NdB wa w.heap.size (.int .i64 23) (.int .i64 ln) (.string s) (.int .i64 k) (.int .i64 n) (.string t) vv (.slice sa m sc) := by rw [hwa]; exact NdB.new _ _ _ _ _ _ _ _ _
  have v0 := hN.c0; have v7 := hN.c7
  rw [hwa] at v0 v7
  have HB := Lib.hid hb
  have HWA := Lib.hid hwa
  clear hb hN hwa
  obtain ⟨i0, hi0, hz0, hz1, hz2⟩ := info_partsN int_info
  obtain ⟨q, hq⟩ : ∃ q : Nat, q = m - 2 := ⟨_, rfl⟩
  have HQ := Lib.hid hq
  have hsz : wa.heap.size ≤ wa.heap.size := Nat.le_refl _
  by_cases hlt : m < 2
  · have h1 : (m : Int) - 2 < 0 := by omega
    have e1 : IntKind.i64.wrap ((m : Int) - 2) = (m : Int) - 2 := IntWalk.i64_in _ (by omega)
    have AC := Lib.hid (fun W => by have h := all_c 1 q W (by decide) (by omega); rw [show (q : Int) = 0 by omega] at h; exact h)
    have hq4 : q ≤ 4096 := by omega
    have hmx : max ((m : Int) - 2) 0 = 0 := by omega
    clear hq
    go_enter Tryz.func45, Tryz.ntmps45
    go_wp2_with fail
    rw [← HWA.out]
    refine (all_c 0 2 wa (by decide) (by decide)).mono ?_
    rintro e w2 ⟨v1, rfl, ho, hb2⟩
    have HO := Lib.hid ho
    have HB2 := Lib.hid (HB.out.trans (below_le' hb2 HB.out.size))
    have hw2 : wa.heap.size ≤ w2.heap.size := hb2.size
    clear ho hb2
    go_wp2_with fail
    refine (AC.out w2).mono ?_
    rintro e w3 ⟨v2, rfl, ho2, hb3⟩
    have HB3 := Lib.hid (HB2.out.trans (below_le' hb3 HB2.out.size))
    have HO3 := Lib.hid (own_belowN HO.out hb3)
    have HA := Lib.hid ho2
    have hz3 : wa.heap.size ≤ w3.heap.size := by have := HB3.out.size; have := HO3.out; have := hb3.size; omega
    clear hb3
    rcases ho2.2 with ⟨rfl, hq0⟩ | ⟨g, cap, cur, rfl, hbg, hh, hqc, hcm, hcs, htk⟩
    · clear ho2
      go_wp2_with (at_builtin; refine wpList_append_own_none rfl (.tmp 61) (.tmp 66) 76 rfl wa.heap.size 3 i0 1 Tryz.underlying76 hi0 v1 2 (ints (List.replicate 2 0)) rfl HO3.out rfl ?_)
      go_ret2
      exact ⟨_, ret_tup (c := .nilIface) (by rw [show (rolesP 23 m).2 = decide (2 ≤ m) from rfl, ← le_nat]; rfl), by
        have h := own_lower HO3.out HB.out.size
        have e : (rolesP 23 m).1 = [0, 0] := by rw [show (rolesP 23 m).1 = [0, 0] ++ List.replicate (m - 2) 1 from rfl, ← HQ.out, hq0]; rfl
        rw [e]; exact h, HB3.out⟩
    · clear ho2 hh htk
      go_wp2_with (at_builtin; refine wpList_append_own _ rfl (.tmp 61) (.tmp 66) 76 rfl wa.heap.size 3 i0 (.int .i64 0) 1 8 Tryz.underlying76 hi0 hz0 hz1 hz2 rfl (by decide) v1 2 (ints (List.replicate 2 0)) rfl HO3.out ⟨g, 0, none⟩ q cap (ints (List.replicate q 1)) rfl (by rw [ints_len, List.length_replicate]; omega) (HA.out.cells (g := g) rfl) ?c2 ?c3 ?c4 ?c5 ?c6
                   case c2 => intro u hu; unfold ints at hu; rw [List.mem_map] at hu; obtain ⟨x, _, rfl⟩ := hu; rfl
                   case c3 => unfold maxLen; omega
                   case c4 => omega
                   case c5 => exact hz3
                   intro v' w11 hown' hgrow _
                   have HB11 := Lib.hid (grown_belowN HB3.out HB3.out.size hgrow (fun k hk => Nat.le_trans HB.out.size (own_geN HO3.out k hk)))
                   have HO11 := Lib.hid hown'
                   clear hown' hgrow)
      go_ret2
      exact ⟨_, ret_tup (c := .nilIface) (by rw [show (rolesP 23 m).2 = decide (2 ≤ m) from rfl, ← le_nat]; rfl), by
        have h := own_lower HO11.out HB.out.size
        have e : (rolesP 23 m).1 = [0, 0] ++ List.replicate q 1 := by rw [show (rolesP 23 m).1 = [0, 0] ++ List.replicate (m - 2) 1 from rfl, ← HQ.out]
        rw [e, ints_app, List.length_append, List.length_replicate]; exact h, HB11.out⟩
  · have h1 : (0 : Int) ≤ (m : Int) - 2 := by omega
    have e1 : IntKind.i64.wrap ((m : Int) - 2) = (m : Int) - 2 := IntWalk.i64_in _ (by omega)
    have AC := Lib.hid (fun W => by have h := all_c 1 q W (by decide) (by omega); rw [show (q : Int) = (m : Int) - 2 by omega] at h; exact h)
    have hq4 : q ≤ 4096 := by omega
    have hmx : max ((m : Int) - 2) 0 = (m : Int) - 2 := by omega
    clear hq
    go_enter Tryz.func45, Tryz.ntmps45
    go_wp2_with fail
    rw [← HWA.out]
    refine (all_c 0 2 wa (by decide) (by decide)).mono ?_
    rintro e w2 ⟨v1, rfl, ho, hb2⟩
    have HO := Lib.hid ho
    have HB2 := Lib.hid (HB.out.trans (below_le' hb2 HB.out.size))
    have hw2 : wa.heap.size ≤ w2.heap.size := hb2.size
    clear ho hb2
    go_wp2_with fail
    refine (AC.out w2).mono ?_
    rintro e w3 ⟨v2, rfl, ho2, hb3⟩
    have HB3 := Lib.hid (HB2.out.trans (below_le' hb3 HB2.out.size))
    have HO3 := Lib.hid (own_belowN HO.out hb3)
    have HA := Lib.hid ho2
    have hz3 : wa.heap.size ≤ w3.heap.size := by have := HB3.out.size; have := HO3.out; have := hb3.size; omega
    clear hb3
    rcases ho2.2 with ⟨rfl, hq0⟩ | ⟨g, cap, cur, rfl, hbg, hh, hqc, hcm, hcs, htk⟩
    · clear ho2
      go_wp2_with (at_builtin; refine wpList_append_own_none rfl (.tmp 61) (.tmp 66) 76 rfl wa.heap.size 3 i0 1 Tryz.underlying76 hi0 v1 2 (ints (List.replicate 2 0)) rfl HO3.out rfl ?_)
      go_ret2
      exact ⟨_, ret_tup (c := .nilIface) (by rw [show (rolesP 23 m).2 = decide (2 ≤ m) from rfl, ← le_nat]; rfl), by
        have h := own_lower HO3.out HB.out.size
        have e : (rolesP 23 m).1 = [0, 0] := by rw [show (rolesP 23 m).1 = [0, 0] ++ List.replicate (m - 2) 1 from rfl, ← HQ.out, hq0]; rfl
        rw [e]; exact h, HB3.out⟩
    · clear ho2 hh htk
      go_wp2_with (at_builtin; refine wpList_append_own _ rfl (.tmp 61) (.tmp 66) 76 rfl wa.heap.size 3 i0 (.int .i64 0) 1 8 Tryz.underlying76 hi0 hz0 hz1 hz2 rfl (by decide) v1 2 (ints (List.replicate 2 0)) rfl HO3.out ⟨g, 0, none⟩ q cap (ints (List.replicate q 1)) rfl (by rw [ints_len, List.length_replicate]; omega) (HA.out.cells (g := g) rfl) ?d2 ?d3 ?d4 ?d5 ?d6
                   case d2 => intro u hu; unfold ints at hu; rw [List.mem_map] at hu; obtain ⟨x, _, rfl⟩ := hu; rfl
                   case d3 => unfold maxLen; omega
                   case d4 => omega
                   case d5 => exact hz3
                   intro v' w11 hown' hgrow _
                   have HB11 := Lib.hid (grown_belowN HB3.out HB3.out.size hgrow (fun k hk => Nat.le_trans HB.out.size (own_geN HO3.out k hk)))
                   have HO11 := Lib.hid hown'
                   clear hown' hgrow)
      go_ret2
      exact ⟨_, ret_tup (c := .nilIface) (by rw [show (rolesP 23 m).2 = decide (2 ≤ m) from rfl, ← le_nat]; rfl), by
        have h := own_lower HO11.out HB.out.size
        have e : (rolesP 23 m).1 = [0, 0] ++ List.replicate q 1 := by rw [show (rolesP 23 m).1 = [0, 0] ++ List.replicate (m - 2) 1 from rfl, ← HQ.out]
        rw [e, ints_app, List.length_append, List.length_replicate]; exact h, HB11.out⟩

set_option maxRecDepth 100000 in
set_option maxHeartbeats 2000000 in
theorem roles_49 (ln : Int) (s : ByteArray) (k n : Int) (t : ByteArray) (vv : Value) (sa : Option Addr) (m sc : Nat) (w : World) (hm : m ≤ 4096) :
    Calls Tryz.prog 45 #[.agg #[.int .i64 49, .int .i64 ln, .string s, .int .i64 k, .int .i64 n, .string t, vv, .slice sa m sc]] w (RolesOut w 49 m) := by
  obtain ⟨wa, hwa⟩ : ∃ wa, wa = w.alloc (.cells #[.int .i64 49, .int .i64 ln, .string s, .int .i64 k, .int .i64 n, .string t, vv, .slice sa m sc] 33) := ⟨_, rfl⟩
  have hb : Below w.heap.size w wa := by rw [hwa]; exact (Below.refl _ _).alloc (Nat.le_refl _) _
  have hN : NdB wa w.heap.size (.int .i64 49) (.int .i64 ln) (.string s) (.int .i64 k) (.int .i64 n) (.string t) vv (.slice sa m sc) := by rw [hwa]; exact NdB.new _ _ _ _ _ _ _ _ _
  have v0 := hN.c0; have v7 := hN.c7
  rw [hwa] at v0 v7
  have HB := Lib.hid hb
  have HWA := Lib.hid hwa
  clear hb hN hwa
  obtain ⟨i0, hi0, hz0, hz1, hz2⟩ := info_partsN int_info
  obtain ⟨q, hq⟩ : ∃ q : Nat, q = m - 1 := ⟨_, rfl⟩
  have HQ := Lib.hid hq
  have hsz : wa.heap.size ≤ wa.heap.size := Nat.le_refl _
  by_cases hlt : m < 1
  · have h1 : (m : Int) - 1 < 0 := by omega
    have e1 : IntKind.i64.wrap ((m : Int) - 1) = (m : Int) - 1 := IntWalk.i64_in _ (by omega)
    have AC := Lib.hid (fun W => by have h := all_c 8 q W (by decide) (by omega); rw [show (q : Int) = 0 by omega] at h; exact h)
    have hq4 : q ≤ 4096 := by omega
    have hmx : max ((m : Int) - 1) 0 = 0 := by omega
    clear hq
    go_enter Tryz.func45, Tryz.ntmps45
    go_wp2_with fail
    rw [← HWA.out]
    obtain ⟨w2, hw2⟩ : ∃ w2, w2 = wa.alloc (.cells #[.int .i64 6] 3) := ⟨_, rfl⟩
    have HO := Lib.hid (show w2.ownsRow wa.heap.size 3 1 (.slice (some ⟨w.heap.size + 1, 0, none⟩) 1 1) 1 (ints [6]) by
      rw [hw2]
      have h := own_lit (cs := #[.int .i64 6]) (n := 1) wa (Nat.le_refl _) (by decide) rfl
      have hz : wa.heap.size = w.heap.size + 1 := by rw [HWA.out]; simp
      rw [hz] at h ⊢
      exact h)
    have HB2 := Lib.hid (show Below w.heap.size w w2 by rw [hw2]; exact HB.out.alloc HB.out.size _)
    have hw2z : wa.heap.size ≤ w2.heap.size := by rw [hw2]; simp
    have HW2 := Lib.hid hw2
    rw [← HW2.out]
    clear hw2
    refine (AC.out w2).mono ?_
    rintro e w3 ⟨v2, rfl, ho2, hb3⟩
    have HB3 := Lib.hid (HB2.out.trans (below_le' hb3 HB2.out.size))
    have HO3 := Lib.hid (own_belowN HO.out hb3)
    have HA := Lib.hid ho2
    have hz3 : wa.heap.size ≤ w3.heap.size := by have := HB3.out.size; have := HO3.out; have := hb3.size; omega
    clear hb3
    rcases ho2.2 with ⟨rfl, hq0⟩ | ⟨g, cap, cur, rfl, hbg, hh, hqc, hcm, hcs, htk⟩
    · clear ho2
      go_wp2_with (at_builtin; refine wpList_append_own_none rfl (.tmp 161) (.tmp 166) 76 rfl wa.heap.size 3 i0 1 Tryz.underlying76 hi0 (.slice (some ⟨w.heap.size + 1, 0, none⟩) 1 1) 1 (ints [6]) rfl HO3.out rfl ?_)
      go_ret2
      exact ⟨_, ret_tup (c := .nilIface) (by rw [show (rolesP 49 m).2 = decide (2 ≤ m) from rfl, ← le_nat]; rfl), by
        have h := own_lower HO3.out HB.out.size
        have e : (rolesP 49 m).1 = [6] := by rw [show (rolesP 49 m).1 = [6] ++ List.replicate (m - 1) 8 from rfl, ← HQ.out, hq0]; rfl
        rw [e]; exact h, HB3.out⟩
    · clear ho2 hh htk
      go_wp2_with (at_builtin; refine wpList_append_own _ rfl (.tmp 161) (.tmp 166) 76 rfl wa.heap.size 3 i0 (.int .i64 0) 1 8 Tryz.underlying76 hi0 hz0 hz1 hz2 rfl (by decide) (.slice (some ⟨w.heap.size + 1, 0, none⟩) 1 1) 1 (ints [6]) rfl HO3.out ⟨g, 0, none⟩ q cap (ints (List.replicate q 8)) rfl (by rw [ints_len, List.length_replicate]; omega) (HA.out.cells (g := g) rfl) ?c2 ?c3 ?c4 ?c5 ?c6
                   case c2 => intro u hu; unfold ints at hu; rw [List.mem_map] at hu; obtain ⟨x, _, rfl⟩ := hu; rfl
                   case c3 => unfold maxLen; omega
                   case c4 => omega
                   case c5 => exact hz3
                   intro v' w11 hown' hgrow _
                   have HB11 := Lib.hid (grown_belowN HB3.out HB3.out.size hgrow (fun k hk => Nat.le_trans HB.out.size (own_geN HO3.out k hk)))
                   have HO11 := Lib.hid hown'
                   clear hown' hgrow)
      go_ret2
      exact ⟨_, ret_tup (c := .nilIface) (by rw [show (rolesP 49 m).2 = decide (2 ≤ m) from rfl, ← le_nat]; rfl), by
        have h := own_lower HO11.out HB.out.size
        have e : (rolesP 49 m).1 = [6] ++ List.replicate q 8 := by rw [show (rolesP 49 m).1 = [6] ++ List.replicate (m - 1) 8 from rfl, ← HQ.out]
        rw [e, ints_app, List.length_append, List.length_replicate]; exact h, HB11.out⟩
  · have h1 : (0 : Int) ≤ (m : Int) - 1 := by omega
    have e1 : IntKind.i64.wrap ((m : Int) - 1) = (m : Int) - 1 := IntWalk.i64_in _ (by omega)
    have AC := Lib.hid (fun W => by have h := all_c 8 q W (by decide) (by omega); rw [show (q : Int) = (m : Int) - 1 by omega] at h; exact h)
    have hq4 : q ≤ 4096 := by omega
    have hmx : max ((m : Int) - 1) 0 = (m : Int) - 1 := by omega
    clear hq
    go_enter Tryz.func45, Tryz.ntmps45
    go_wp2_with fail
    rw [← HWA.out]
    obtain ⟨w2, hw2⟩ : ∃ w2, w2 = wa.alloc (.cells #[.int .i64 6] 3) := ⟨_, rfl⟩
    have HO := Lib.hid (show w2.ownsRow wa.heap.size 3 1 (.slice (some ⟨w.heap.size + 1, 0, none⟩) 1 1) 1 (ints [6]) by
      rw [hw2]
      have h := own_lit (cs := #[.int .i64 6]) (n := 1) wa (Nat.le_refl _) (by decide) rfl
      have hz : wa.heap.size = w.heap.size + 1 := by rw [HWA.out]; simp
      rw [hz] at h ⊢
      exact h)
    have HB2 := Lib.hid (show Below w.heap.size w w2 by rw [hw2]; exact HB.out.alloc HB.out.size _)
    have hw2z : wa.heap.size ≤ w2.heap.size := by rw [hw2]; simp
    have HW2 := Lib.hid hw2
    rw [← HW2.out]
    clear hw2
    refine (AC.out w2).mono ?_
    rintro e w3 ⟨v2, rfl, ho2, hb3⟩
    have HB3 := Lib.hid (HB2.out.trans (below_le' hb3 HB2.out.size))
    have HO3 := Lib.hid (own_belowN HO.out hb3)
    have HA := Lib.hid ho2
    have hz3 : wa.heap.size ≤ w3.heap.size := by have := HB3.out.size; have := HO3.out; have := hb3.size; omega
    clear hb3
    rcases ho2.2 with ⟨rfl, hq0⟩ | ⟨g, cap, cur, rfl, hbg, hh, hqc, hcm, hcs, htk⟩
    · clear ho2
      go_wp2_with (at_builtin; refine wpList_append_own_none rfl (.tmp 161) (.tmp 166) 76 rfl wa.heap.size 3 i0 1 Tryz.underlying76 hi0 (.slice (some ⟨w.heap.size + 1, 0, none⟩) 1 1) 1 (ints [6]) rfl HO3.out rfl ?_)
      go_ret2
      exact ⟨_, ret_tup (c := .nilIface) (by rw [show (rolesP 49 m).2 = decide (2 ≤ m) from rfl, ← le_nat]; rfl), by
        have h := own_lower HO3.out HB.out.size
        have e : (rolesP 49 m).1 = [6] := by rw [show (rolesP 49 m).1 = [6] ++ List.replicate (m - 1) 8 from rfl, ← HQ.out, hq0]; rfl
        rw [e]; exact h, HB3.out⟩
    · clear ho2 hh htk
      go_wp2_with (at_builtin; refine wpList_append_own _ rfl (.tmp 161) (.tmp 166) 76 rfl wa.heap.size 3 i0 (.int .i64 0) 1 8 Tryz.underlying76 hi0 hz0 hz1 hz2 rfl (by decide) (.slice (some ⟨w.heap.size + 1, 0, none⟩) 1 1) 1 (ints [6]) rfl HO3.out ⟨g, 0, none⟩ q cap (ints (List.replicate q 8)) rfl (by rw [ints_len, List.length_replicate]; omega) (HA.out.cells (g := g) rfl) ?d2 ?d3 ?d4 ?d5 ?d6
                   case d2 => intro u hu; unfold ints at hu; rw [List.mem_map] at hu; obtain ⟨x, _, rfl⟩ := hu; rfl
                   case d3 => unfold maxLen; omega
                   case d4 => omega
                   case d5 => exact hz3
                   intro v' w11 hown' hgrow _
                   have HB11 := Lib.hid (grown_belowN HB3.out HB3.out.size hgrow (fun k hk => Nat.le_trans HB.out.size (own_geN HO3.out k hk)))
                   have HO11 := Lib.hid hown'
                   clear hown' hgrow)
      go_ret2
      exact ⟨_, ret_tup (c := .nilIface) (by rw [show (rolesP 49 m).2 = decide (2 ≤ m) from rfl, ← le_nat]; rfl), by
        have h := own_lower HO11.out HB.out.size
        have e : (rolesP 49 m).1 = [6] ++ List.replicate q 8 := by rw [show (rolesP 49 m).1 = [6] ++ List.replicate (m - 1) 8 from rfl, ← HQ.out]
        rw [e, ints_app, List.length_append, List.length_replicate]; exact h, HB11.out⟩
end Go.Proofs.YtgmnbdfbbcpciaaGreatDoor
