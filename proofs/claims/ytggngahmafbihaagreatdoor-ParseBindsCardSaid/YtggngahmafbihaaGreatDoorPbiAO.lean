/- Contracts of the functions that the statement reaches, and the plain mathematics beneath: several texts joined. -/
import Derived.Test.YtggngahmafbihaaGreatDoorPbiAM
namespace Go.Proofs.YtggngahmafbihaaGreatDoor
open Go.RowKit Go.Lib
set_option linter.unusedVariables false

set_option maxRecDepth 100000 in
set_option maxHeartbeats 2000000 in
theorem stands_0 (op ln : Int) (s : ByteArray) (k n : Int) (t : ByteArray) (vv vs : Value) (w : World) :
    Calls Tryz.prog 175 #[.agg #[.int .i64 op, .int .i64 ln, .string s, .int .i64 k, .int .i64 n, .string t, vv, vs], .int .i64 0] w fun e w' => e = .returned (.bool (standsP op 0)) ∧ Below w.heap.size w w' := by
  obtain ⟨wa, hwa⟩ : ∃ wa, wa = w.alloc (.cells #[.int .i64 op, .int .i64 ln, .string s, .int .i64 k, .int .i64 n, .string t, vv, vs] 31) := ⟨_, rfl⟩
  have hb : Below w.heap.size w wa := by rw [hwa]; exact (Below.refl _ _).alloc (Nat.le_refl _) _
  have hN : NdB wa w.heap.size (.int .i64 op) (.int .i64 ln) (.string s) (.int .i64 k) (.int .i64 n) (.string t) vv vs := by rw [hwa]; exact NdB.new _ _ _ _ _ _ _ _ _
  have v0 := hN.c0
  rw [hwa] at v0
  have HB := Lib.hid hb
  have HWA := Lib.hid hwa
  clear hb hN hwa
  by_cases hn : op = 2 ∨ op = 20 ∨ op = 22 ∨ op = 25 ∨ op = 26 ∨ op = 50 ∨ op = 52
  · rcases hn with rfl | rfl | rfl | rfl | rfl | rfl | rfl
    all_goals
      go_enter Tryz.func175, Tryz.ntmps175
      go_wp2_with fail
      rw [← HWA.out]
      go_ret
      exact ⟨rfl, HB.out⟩
  have n2 := beq_no (show op ≠ 2 by omega)
  have n20 := beq_no (show op ≠ 20 by omega)
  have n22 := beq_no (show op ≠ 22 by omega)
  have n25 := beq_no (show op ≠ 25 by omega)
  have n26 := beq_no (show op ≠ 26 by omega)
  have n50 := beq_no (show op ≠ 50 by omega)
  have n52 := beq_no (show op ≠ 52 by omega)
  have b26 := bne_yes (show op ≠ 26 by omega)
  have b50 := bne_yes (show op ≠ 50 by omega)
  have hk : op < 1 ∨ (1 ≤ op ∧ op ≤ 29) ∨ (30 ≤ op ∧ op ≤ 39) ∨ (40 ≤ op ∧ op ≤ 51) ∨ 53 ≤ op := by omega
  have HNX := Lib.hid hn
  clear hn
  rcases hk with h1 | ⟨h1, h2⟩ | ⟨h1, h2⟩ | ⟨h1, h2⟩ | h1
  · have g1 : ¬ (1 ≤ op) := by omega
    have g2 : op ≤ 29 := by omega
    have g3 : ¬ (40 ≤ op) := by omega
    have g4 : op ≤ 51 := by omega
    have HS := Lib.hid (show standsP op 0 = false by have hx := HNX.out; simp [standsP, isExpr]; try omega)
    go_enter Tryz.func175, Tryz.ntmps175
    go_wp2_with fail
    rw [← HWA.out]
    go_ret
    exact ⟨ret_val (by rw [HS.out]; rfl), HB.out⟩
  · have g1 : 1 ≤ op := by omega
    have g2 : op ≤ 29 := by omega
    have g3 : ¬ (40 ≤ op) := by omega
    have g4 : op ≤ 51 := by omega
    have HS := Lib.hid (show standsP op 0 = true by have hx := HNX.out; simp [standsP, isExpr]; try omega)
    go_enter Tryz.func175, Tryz.ntmps175
    go_wp2_with fail
    rw [← HWA.out]
    go_ret
    exact ⟨ret_val (by rw [HS.out]; rfl), HB.out⟩
  · have g1 : 1 ≤ op := by omega
    have g2 : ¬ (op ≤ 29) := by omega
    have g3 : ¬ (40 ≤ op) := by omega
    have g4 : op ≤ 51 := by omega
    have HS := Lib.hid (show standsP op 0 = false by have hx := HNX.out; simp [standsP, isExpr]; try omega)
    go_enter Tryz.func175, Tryz.ntmps175
    go_wp2_with fail
    rw [← HWA.out]
    go_ret
    exact ⟨ret_val (by rw [HS.out]; rfl), HB.out⟩
  · have g1 : 1 ≤ op := by omega
    have g2 : ¬ (op ≤ 29) := by omega
    have g3 : 40 ≤ op := by omega
    have g4 : op ≤ 51 := by omega
    have HS := Lib.hid (show standsP op 0 = false by have hx := HNX.out; simp [standsP, isExpr]; try omega)
    go_enter Tryz.func175, Tryz.ntmps175
    go_wp2_with fail
    rw [← HWA.out]
    go_ret
    exact ⟨ret_val (by rw [HS.out]; rfl), HB.out⟩
  · have g1 : 1 ≤ op := by omega
    have g2 : ¬ (op ≤ 29) := by omega
    have g3 : 40 ≤ op := by omega
    have g4 : ¬ (op ≤ 51) := by omega
    have HS := Lib.hid (show standsP op 0 = false by have hx := HNX.out; simp [standsP, isExpr]; try omega)
    go_enter Tryz.func175, Tryz.ntmps175
    go_wp2_with fail
    rw [← HWA.out]
    go_ret
    exact ⟨ret_val (by rw [HS.out]; rfl), HB.out⟩

set_option maxRecDepth 100000 in
set_option maxHeartbeats 2000000 in
theorem stands_1 (op ln : Int) (s : ByteArray) (k n : Int) (t : ByteArray) (vv vs : Value) (w : World) :
    Calls Tryz.prog 175 #[.agg #[.int .i64 op, .int .i64 ln, .string s, .int .i64 k, .int .i64 n, .string t, vv, vs], .int .i64 1] w fun e w' => e = .returned (.bool (standsP op 1)) ∧ Below w.heap.size w w' := by
  obtain ⟨wa, hwa⟩ : ∃ wa, wa = w.alloc (.cells #[.int .i64 op, .int .i64 ln, .string s, .int .i64 k, .int .i64 n, .string t, vv, vs] 31) := ⟨_, rfl⟩
  have hb : Below w.heap.size w wa := by rw [hwa]; exact (Below.refl _ _).alloc (Nat.le_refl _) _
  have hN : NdB wa w.heap.size (.int .i64 op) (.int .i64 ln) (.string s) (.int .i64 k) (.int .i64 n) (.string t) vv vs := by rw [hwa]; exact NdB.new _ _ _ _ _ _ _ _ _
  have v0 := hN.c0
  rw [hwa] at v0
  have HB := Lib.hid hb
  have HWA := Lib.hid hwa
  clear hb hN hwa
  by_cases hn : op = 2 ∨ op = 20 ∨ op = 22 ∨ op = 25 ∨ op = 26 ∨ op = 50 ∨ op = 52
  · rcases hn with rfl | rfl | rfl | rfl | rfl | rfl | rfl
    all_goals
      go_enter Tryz.func175, Tryz.ntmps175
      go_wp2_with fail
      rw [← HWA.out]
      go_ret
      exact ⟨rfl, HB.out⟩
  have n2 := beq_no (show op ≠ 2 by omega)
  have n20 := beq_no (show op ≠ 20 by omega)
  have n22 := beq_no (show op ≠ 22 by omega)
  have n25 := beq_no (show op ≠ 25 by omega)
  have n26 := beq_no (show op ≠ 26 by omega)
  have n50 := beq_no (show op ≠ 50 by omega)
  have n52 := beq_no (show op ≠ 52 by omega)
  have b26 := bne_yes (show op ≠ 26 by omega)
  have b50 := bne_yes (show op ≠ 50 by omega)
  have hk : op < 1 ∨ (1 ≤ op ∧ op ≤ 29) ∨ (30 ≤ op ∧ op ≤ 39) ∨ (40 ≤ op ∧ op ≤ 51) ∨ 53 ≤ op := by omega
  have HNX := Lib.hid hn
  clear hn
  rcases hk with h1 | ⟨h1, h2⟩ | ⟨h1, h2⟩ | ⟨h1, h2⟩ | h1
  · have g1 : ¬ (1 ≤ op) := by omega
    have g2 : op ≤ 29 := by omega
    have g3 : ¬ (40 ≤ op) := by omega
    have g4 : op ≤ 51 := by omega
    have HS := Lib.hid (show standsP op 1 = false by have hx := HNX.out; simp [standsP, isExpr]; try omega)
    go_enter Tryz.func175, Tryz.ntmps175
    go_wp2_with fail
    rw [← HWA.out]
    go_ret
    exact ⟨ret_val (by rw [HS.out]; rfl), HB.out⟩
  · have g1 : 1 ≤ op := by omega
    have g2 : op ≤ 29 := by omega
    have g3 : ¬ (40 ≤ op) := by omega
    have g4 : op ≤ 51 := by omega
    have HS := Lib.hid (show standsP op 1 = true by have hx := HNX.out; simp [standsP, isExpr]; try omega)
    go_enter Tryz.func175, Tryz.ntmps175
    go_wp2_with fail
    rw [← HWA.out]
    go_ret
    exact ⟨ret_val (by rw [HS.out]; rfl), HB.out⟩
  · have g1 : 1 ≤ op := by omega
    have g2 : ¬ (op ≤ 29) := by omega
    have g3 : ¬ (40 ≤ op) := by omega
    have g4 : op ≤ 51 := by omega
    have HS := Lib.hid (show standsP op 1 = false by have hx := HNX.out; simp [standsP, isExpr]; try omega)
    go_enter Tryz.func175, Tryz.ntmps175
    go_wp2_with fail
    rw [← HWA.out]
    go_ret
    exact ⟨ret_val (by rw [HS.out]; rfl), HB.out⟩
  · have g1 : 1 ≤ op := by omega
    have g2 : ¬ (op ≤ 29) := by omega
    have g3 : 40 ≤ op := by omega
    have g4 : op ≤ 51 := by omega
    have HS := Lib.hid (show standsP op 1 = false by have hx := HNX.out; simp [standsP, isExpr]; try omega)
    go_enter Tryz.func175, Tryz.ntmps175
    go_wp2_with fail
    rw [← HWA.out]
    go_ret
    exact ⟨ret_val (by rw [HS.out]; rfl), HB.out⟩
  · have g1 : 1 ≤ op := by omega
    have g2 : ¬ (op ≤ 29) := by omega
    have g3 : 40 ≤ op := by omega
    have g4 : ¬ (op ≤ 51) := by omega
    have HS := Lib.hid (show standsP op 1 = false by have hx := HNX.out; simp [standsP, isExpr]; try omega)
    go_enter Tryz.func175, Tryz.ntmps175
    go_wp2_with fail
    rw [← HWA.out]
    go_ret
    exact ⟨ret_val (by rw [HS.out]; rfl), HB.out⟩

set_option maxRecDepth 100000 in
set_option maxHeartbeats 2000000 in
theorem stands_2 (op ln : Int) (s : ByteArray) (k n : Int) (t : ByteArray) (vv vs : Value) (w : World) :
    Calls Tryz.prog 175 #[.agg #[.int .i64 op, .int .i64 ln, .string s, .int .i64 k, .int .i64 n, .string t, vv, vs], .int .i64 2] w fun e w' => e = .returned (.bool (standsP op 2)) ∧ Below w.heap.size w w' := by
  obtain ⟨wa, hwa⟩ : ∃ wa, wa = w.alloc (.cells #[.int .i64 op, .int .i64 ln, .string s, .int .i64 k, .int .i64 n, .string t, vv, vs] 31) := ⟨_, rfl⟩
  have hb : Below w.heap.size w wa := by rw [hwa]; exact (Below.refl _ _).alloc (Nat.le_refl _) _
  have hN : NdB wa w.heap.size (.int .i64 op) (.int .i64 ln) (.string s) (.int .i64 k) (.int .i64 n) (.string t) vv vs := by rw [hwa]; exact NdB.new _ _ _ _ _ _ _ _ _
  have v0 := hN.c0
  rw [hwa] at v0
  have HB := Lib.hid hb
  have HWA := Lib.hid hwa
  clear hb hN hwa
  by_cases hn : op = 2 ∨ op = 20 ∨ op = 22 ∨ op = 25 ∨ op = 26 ∨ op = 50 ∨ op = 52
  · rcases hn with rfl | rfl | rfl | rfl | rfl | rfl | rfl
    all_goals
      go_enter Tryz.func175, Tryz.ntmps175
      go_wp2_with fail
      rw [← HWA.out]
      go_ret
      exact ⟨rfl, HB.out⟩
  have n2 := beq_no (show op ≠ 2 by omega)
  have n20 := beq_no (show op ≠ 20 by omega)
  have n22 := beq_no (show op ≠ 22 by omega)
  have n25 := beq_no (show op ≠ 25 by omega)
  have n26 := beq_no (show op ≠ 26 by omega)
  have n50 := beq_no (show op ≠ 50 by omega)
  have n52 := beq_no (show op ≠ 52 by omega)
  have b26 := bne_yes (show op ≠ 26 by omega)
  have b50 := bne_yes (show op ≠ 50 by omega)
  have hk : op < 1 ∨ (1 ≤ op ∧ op ≤ 29) ∨ (30 ≤ op ∧ op ≤ 39) ∨ (40 ≤ op ∧ op ≤ 51) ∨ 53 ≤ op := by omega
  have HNX := Lib.hid hn
  clear hn
  rcases hk with h1 | ⟨h1, h2⟩ | ⟨h1, h2⟩ | ⟨h1, h2⟩ | h1
  · have g1 : ¬ (1 ≤ op) := by omega
    have g2 : op ≤ 29 := by omega
    have g3 : ¬ (40 ≤ op) := by omega
    have g4 : op ≤ 51 := by omega
    have HS := Lib.hid (show standsP op 2 = false by have hx := HNX.out; simp [standsP]; try omega)
    go_enter Tryz.func175, Tryz.ntmps175
    go_wp2_with fail
    rw [← HWA.out]
    go_ret
    exact ⟨ret_val (by rw [HS.out]; rfl), HB.out⟩
  · have g1 : 1 ≤ op := by omega
    have g2 : op ≤ 29 := by omega
    have g3 : ¬ (40 ≤ op) := by omega
    have g4 : op ≤ 51 := by omega
    have HS := Lib.hid (show standsP op 2 = false by have hx := HNX.out; simp [standsP]; try omega)
    go_enter Tryz.func175, Tryz.ntmps175
    go_wp2_with fail
    rw [← HWA.out]
    go_ret
    exact ⟨ret_val (by rw [HS.out]; rfl), HB.out⟩
  · have g1 : 1 ≤ op := by omega
    have g2 : ¬ (op ≤ 29) := by omega
    have g3 : ¬ (40 ≤ op) := by omega
    have g4 : op ≤ 51 := by omega
    have HS := Lib.hid (show standsP op 2 = false by have hx := HNX.out; simp [standsP]; try omega)
    go_enter Tryz.func175, Tryz.ntmps175
    go_wp2_with fail
    rw [← HWA.out]
    go_ret
    exact ⟨ret_val (by rw [HS.out]; rfl), HB.out⟩
  · have g1 : 1 ≤ op := by omega
    have g2 : ¬ (op ≤ 29) := by omega
    have g3 : 40 ≤ op := by omega
    have g4 : op ≤ 51 := by omega
    have HS := Lib.hid (show standsP op 2 = false by have hx := HNX.out; simp [standsP]; try omega)
    go_enter Tryz.func175, Tryz.ntmps175
    go_wp2_with fail
    rw [← HWA.out]
    go_ret
    exact ⟨ret_val (by rw [HS.out]; rfl), HB.out⟩
  · have g1 : 1 ≤ op := by omega
    have g2 : ¬ (op ≤ 29) := by omega
    have g3 : 40 ≤ op := by omega
    have g4 : ¬ (op ≤ 51) := by omega
    have HS := Lib.hid (show standsP op 2 = false by have hx := HNX.out; simp [standsP]; try omega)
    go_enter Tryz.func175, Tryz.ntmps175
    go_wp2_with fail
    rw [← HWA.out]
    go_ret
    exact ⟨ret_val (by rw [HS.out]; rfl), HB.out⟩

set_option maxRecDepth 100000 in
set_option maxHeartbeats 2000000 in
theorem stands_3 (op ln : Int) (s : ByteArray) (k n : Int) (t : ByteArray) (vv vs : Value) (w : World) :
    Calls Tryz.prog 175 #[.agg #[.int .i64 op, .int .i64 ln, .string s, .int .i64 k, .int .i64 n, .string t, vv, vs], .int .i64 3] w fun e w' => e = .returned (.bool (standsP op 3)) ∧ Below w.heap.size w w' := by
  obtain ⟨wa, hwa⟩ : ∃ wa, wa = w.alloc (.cells #[.int .i64 op, .int .i64 ln, .string s, .int .i64 k, .int .i64 n, .string t, vv, vs] 31) := ⟨_, rfl⟩
  have hb : Below w.heap.size w wa := by rw [hwa]; exact (Below.refl _ _).alloc (Nat.le_refl _) _
  have hN : NdB wa w.heap.size (.int .i64 op) (.int .i64 ln) (.string s) (.int .i64 k) (.int .i64 n) (.string t) vv vs := by rw [hwa]; exact NdB.new _ _ _ _ _ _ _ _ _
  have v0 := hN.c0
  rw [hwa] at v0
  have HB := Lib.hid hb
  have HWA := Lib.hid hwa
  clear hb hN hwa
  by_cases hn : op = 2 ∨ op = 20 ∨ op = 22 ∨ op = 25 ∨ op = 26 ∨ op = 50 ∨ op = 52
  · rcases hn with rfl | rfl | rfl | rfl | rfl | rfl | rfl
    all_goals
      go_enter Tryz.func175, Tryz.ntmps175
      go_wp2_with fail
      rw [← HWA.out]
      go_ret
      exact ⟨rfl, HB.out⟩
  have n2 := beq_no (show op ≠ 2 by omega)
  have n20 := beq_no (show op ≠ 20 by omega)
  have n22 := beq_no (show op ≠ 22 by omega)
  have n25 := beq_no (show op ≠ 25 by omega)
  have n26 := beq_no (show op ≠ 26 by omega)
  have n50 := beq_no (show op ≠ 50 by omega)
  have n52 := beq_no (show op ≠ 52 by omega)
  have b26 := bne_yes (show op ≠ 26 by omega)
  have b50 := bne_yes (show op ≠ 50 by omega)
  have hk : op < 1 ∨ (1 ≤ op ∧ op ≤ 29) ∨ (30 ≤ op ∧ op ≤ 39) ∨ (40 ≤ op ∧ op ≤ 51) ∨ 53 ≤ op := by omega
  have HNX := Lib.hid hn
  clear hn
  rcases hk with h1 | ⟨h1, h2⟩ | ⟨h1, h2⟩ | ⟨h1, h2⟩ | h1
  · have g1 : ¬ (1 ≤ op) := by omega
    have g2 : op ≤ 29 := by omega
    have g3 : ¬ (40 ≤ op) := by omega
    have g4 : op ≤ 51 := by omega
    have HS := Lib.hid (show standsP op 3 = false by have hx := HNX.out; simp [standsP]; try omega)
    go_enter Tryz.func175, Tryz.ntmps175
    go_wp2_with fail
    rw [← HWA.out]
    go_ret
    exact ⟨ret_val (by rw [HS.out]; rfl), HB.out⟩
  · have g1 : 1 ≤ op := by omega
    have g2 : op ≤ 29 := by omega
    have g3 : ¬ (40 ≤ op) := by omega
    have g4 : op ≤ 51 := by omega
    have HS := Lib.hid (show standsP op 3 = false by have hx := HNX.out; simp [standsP]; try omega)
    go_enter Tryz.func175, Tryz.ntmps175
    go_wp2_with fail
    rw [← HWA.out]
    go_ret
    exact ⟨ret_val (by rw [HS.out]; rfl), HB.out⟩
  · have g1 : 1 ≤ op := by omega
    have g2 : ¬ (op ≤ 29) := by omega
    have g3 : ¬ (40 ≤ op) := by omega
    have g4 : op ≤ 51 := by omega
    have HS := Lib.hid (show standsP op 3 = false by have hx := HNX.out; simp [standsP]; try omega)
    go_enter Tryz.func175, Tryz.ntmps175
    go_wp2_with fail
    rw [← HWA.out]
    go_ret
    exact ⟨ret_val (by rw [HS.out]; rfl), HB.out⟩
  · have g1 : 1 ≤ op := by omega
    have g2 : ¬ (op ≤ 29) := by omega
    have g3 : 40 ≤ op := by omega
    have g4 : op ≤ 51 := by omega
    have HS := Lib.hid (show standsP op 3 = false by have hx := HNX.out; simp [standsP]; try omega)
    go_enter Tryz.func175, Tryz.ntmps175
    go_wp2_with fail
    rw [← HWA.out]
    go_ret
    exact ⟨ret_val (by rw [HS.out]; rfl), HB.out⟩
  · have g1 : 1 ≤ op := by omega
    have g2 : ¬ (op ≤ 29) := by omega
    have g3 : 40 ≤ op := by omega
    have g4 : ¬ (op ≤ 51) := by omega
    have HS := Lib.hid (show standsP op 3 = false by have hx := HNX.out; simp [standsP]; try omega)
    go_enter Tryz.func175, Tryz.ntmps175
    go_wp2_with fail
    rw [← HWA.out]
    go_ret
    exact ⟨ret_val (by rw [HS.out]; rfl), HB.out⟩

set_option maxRecDepth 100000 in
set_option maxHeartbeats 2000000 in
theorem stands_4 (op ln : Int) (s : ByteArray) (k n : Int) (t : ByteArray) (vv vs : Value) (w : World) :
    Calls Tryz.prog 175 #[.agg #[.int .i64 op, .int .i64 ln, .string s, .int .i64 k, .int .i64 n, .string t, vv, vs], .int .i64 4] w fun e w' => e = .returned (.bool (standsP op 4)) ∧ Below w.heap.size w w' := by
  obtain ⟨wa, hwa⟩ : ∃ wa, wa = w.alloc (.cells #[.int .i64 op, .int .i64 ln, .string s, .int .i64 k, .int .i64 n, .string t, vv, vs] 31) := ⟨_, rfl⟩
  have hb : Below w.heap.size w wa := by rw [hwa]; exact (Below.refl _ _).alloc (Nat.le_refl _) _
  have hN : NdB wa w.heap.size (.int .i64 op) (.int .i64 ln) (.string s) (.int .i64 k) (.int .i64 n) (.string t) vv vs := by rw [hwa]; exact NdB.new _ _ _ _ _ _ _ _ _
  have v0 := hN.c0
  rw [hwa] at v0
  have HB := Lib.hid hb
  have HWA := Lib.hid hwa
  clear hb hN hwa
  by_cases hn : op = 2 ∨ op = 20 ∨ op = 22 ∨ op = 25 ∨ op = 26 ∨ op = 50 ∨ op = 52
  · rcases hn with rfl | rfl | rfl | rfl | rfl | rfl | rfl
    all_goals
      go_enter Tryz.func175, Tryz.ntmps175
      go_wp2_with fail
      rw [← HWA.out]
      go_ret
      exact ⟨rfl, HB.out⟩
  have n2 := beq_no (show op ≠ 2 by omega)
  have n20 := beq_no (show op ≠ 20 by omega)
  have n22 := beq_no (show op ≠ 22 by omega)
  have n25 := beq_no (show op ≠ 25 by omega)
  have n26 := beq_no (show op ≠ 26 by omega)
  have n50 := beq_no (show op ≠ 50 by omega)
  have n52 := beq_no (show op ≠ 52 by omega)
  have b26 := bne_yes (show op ≠ 26 by omega)
  have b50 := bne_yes (show op ≠ 50 by omega)
  have hk : op < 1 ∨ (1 ≤ op ∧ op ≤ 29) ∨ (30 ≤ op ∧ op ≤ 39) ∨ (40 ≤ op ∧ op ≤ 51) ∨ 53 ≤ op := by omega
  have HNX := Lib.hid hn
  clear hn
  rcases hk with h1 | ⟨h1, h2⟩ | ⟨h1, h2⟩ | ⟨h1, h2⟩ | h1
  · have g1 : ¬ (1 ≤ op) := by omega
    have g2 : op ≤ 29 := by omega
    have g3 : ¬ (40 ≤ op) := by omega
    have g4 : op ≤ 51 := by omega
    have HS := Lib.hid (show standsP op 4 = false by have hx := HNX.out; simp [standsP]; try omega)
    go_enter Tryz.func175, Tryz.ntmps175
    go_wp2_with fail
    rw [← HWA.out]
    go_ret
    exact ⟨ret_val (by rw [HS.out]; rfl), HB.out⟩
  · have g1 : 1 ≤ op := by omega
    have g2 : op ≤ 29 := by omega
    have g3 : ¬ (40 ≤ op) := by omega
    have g4 : op ≤ 51 := by omega
    have HS := Lib.hid (show standsP op 4 = false by have hx := HNX.out; simp [standsP]; try omega)
    go_enter Tryz.func175, Tryz.ntmps175
    go_wp2_with fail
    rw [← HWA.out]
    go_ret
    exact ⟨ret_val (by rw [HS.out]; rfl), HB.out⟩
  · have g1 : 1 ≤ op := by omega
    have g2 : ¬ (op ≤ 29) := by omega
    have g3 : ¬ (40 ≤ op) := by omega
    have g4 : op ≤ 51 := by omega
    have HS := Lib.hid (show standsP op 4 = false by have hx := HNX.out; simp [standsP]; try omega)
    go_enter Tryz.func175, Tryz.ntmps175
    go_wp2_with fail
    rw [← HWA.out]
    go_ret
    exact ⟨ret_val (by rw [HS.out]; rfl), HB.out⟩
  · have g1 : 1 ≤ op := by omega
    have g2 : ¬ (op ≤ 29) := by omega
    have g3 : 40 ≤ op := by omega
    have g4 : op ≤ 51 := by omega
    have HS := Lib.hid (show standsP op 4 = false by have hx := HNX.out; simp [standsP]; try omega)
    go_enter Tryz.func175, Tryz.ntmps175
    go_wp2_with fail
    rw [← HWA.out]
    go_ret
    exact ⟨ret_val (by rw [HS.out]; rfl), HB.out⟩
  · have g1 : 1 ≤ op := by omega
    have g2 : ¬ (op ≤ 29) := by omega
    have g3 : 40 ≤ op := by omega
    have g4 : ¬ (op ≤ 51) := by omega
    have HS := Lib.hid (show standsP op 4 = false by have hx := HNX.out; simp [standsP]; try omega)
    go_enter Tryz.func175, Tryz.ntmps175
    go_wp2_with fail
    rw [← HWA.out]
    go_ret
    exact ⟨ret_val (by rw [HS.out]; rfl), HB.out⟩

set_option maxRecDepth 100000 in
set_option maxHeartbeats 2000000 in
theorem stands_5 (op ln : Int) (s : ByteArray) (k n : Int) (t : ByteArray) (vv vs : Value) (w : World) :
    Calls Tryz.prog 175 #[.agg #[.int .i64 op, .int .i64 ln, .string s, .int .i64 k, .int .i64 n, .string t, vv, vs], .int .i64 5] w fun e w' => e = .returned (.bool (standsP op 5)) ∧ Below w.heap.size w w' := by
  obtain ⟨wa, hwa⟩ : ∃ wa, wa = w.alloc (.cells #[.int .i64 op, .int .i64 ln, .string s, .int .i64 k, .int .i64 n, .string t, vv, vs] 31) := ⟨_, rfl⟩
  have hb : Below w.heap.size w wa := by rw [hwa]; exact (Below.refl _ _).alloc (Nat.le_refl _) _
  have hN : NdB wa w.heap.size (.int .i64 op) (.int .i64 ln) (.string s) (.int .i64 k) (.int .i64 n) (.string t) vv vs := by rw [hwa]; exact NdB.new _ _ _ _ _ _ _ _ _
  have v0 := hN.c0
  rw [hwa] at v0
  have HB := Lib.hid hb
  have HWA := Lib.hid hwa
  clear hb hN hwa
  by_cases hn : op = 2 ∨ op = 20 ∨ op = 22 ∨ op = 25 ∨ op = 26 ∨ op = 50 ∨ op = 52
  · rcases hn with rfl | rfl | rfl | rfl | rfl | rfl | rfl
    all_goals
      go_enter Tryz.func175, Tryz.ntmps175
      go_wp2_with fail
      rw [← HWA.out]
      go_ret
      exact ⟨rfl, HB.out⟩
  have n2 := beq_no (show op ≠ 2 by omega)
  have n20 := beq_no (show op ≠ 20 by omega)
  have n22 := beq_no (show op ≠ 22 by omega)
  have n25 := beq_no (show op ≠ 25 by omega)
  have n26 := beq_no (show op ≠ 26 by omega)
  have n50 := beq_no (show op ≠ 50 by omega)
  have n52 := beq_no (show op ≠ 52 by omega)
  have b26 := bne_yes (show op ≠ 26 by omega)
  have b50 := bne_yes (show op ≠ 50 by omega)
  have hk : op < 1 ∨ (1 ≤ op ∧ op ≤ 29) ∨ (30 ≤ op ∧ op ≤ 39) ∨ (40 ≤ op ∧ op ≤ 51) ∨ 53 ≤ op := by omega
  have HNX := Lib.hid hn
  clear hn
  rcases hk with h1 | ⟨h1, h2⟩ | ⟨h1, h2⟩ | ⟨h1, h2⟩ | h1
  · have g1 : ¬ (1 ≤ op) := by omega
    have g2 : op ≤ 29 := by omega
    have g3 : ¬ (40 ≤ op) := by omega
    have g4 : op ≤ 51 := by omega
    have HS := Lib.hid (show standsP op 5 = false by have hx := HNX.out; simp [standsP]; try omega)
    go_enter Tryz.func175, Tryz.ntmps175
    go_wp2_with fail
    rw [← HWA.out]
    go_ret
    exact ⟨ret_val (by rw [HS.out]; rfl), HB.out⟩
  · have g1 : 1 ≤ op := by omega
    have g2 : op ≤ 29 := by omega
    have g3 : ¬ (40 ≤ op) := by omega
    have g4 : op ≤ 51 := by omega
    have HS := Lib.hid (show standsP op 5 = false by have hx := HNX.out; simp [standsP]; try omega)
    go_enter Tryz.func175, Tryz.ntmps175
    go_wp2_with fail
    rw [← HWA.out]
    go_ret
    exact ⟨ret_val (by rw [HS.out]; rfl), HB.out⟩
  · have g1 : 1 ≤ op := by omega
    have g2 : ¬ (op ≤ 29) := by omega
    have g3 : ¬ (40 ≤ op) := by omega
    have g4 : op ≤ 51 := by omega
    have HS := Lib.hid (show standsP op 5 = false by have hx := HNX.out; simp [standsP]; try omega)
    go_enter Tryz.func175, Tryz.ntmps175
    go_wp2_with fail
    rw [← HWA.out]
    go_ret
    exact ⟨ret_val (by rw [HS.out]; rfl), HB.out⟩
  · have g1 : 1 ≤ op := by omega
    have g2 : ¬ (op ≤ 29) := by omega
    have g3 : 40 ≤ op := by omega
    have g4 : op ≤ 51 := by omega
    have HS := Lib.hid (show standsP op 5 = false by have hx := HNX.out; simp [standsP]; try omega)
    go_enter Tryz.func175, Tryz.ntmps175
    go_wp2_with fail
    rw [← HWA.out]
    go_ret
    exact ⟨ret_val (by rw [HS.out]; rfl), HB.out⟩
  · have g1 : 1 ≤ op := by omega
    have g2 : ¬ (op ≤ 29) := by omega
    have g3 : 40 ≤ op := by omega
    have g4 : ¬ (op ≤ 51) := by omega
    have HS := Lib.hid (show standsP op 5 = false by have hx := HNX.out; simp [standsP]; try omega)
    go_enter Tryz.func175, Tryz.ntmps175
    go_wp2_with fail
    rw [← HWA.out]
    go_ret
    exact ⟨ret_val (by rw [HS.out]; rfl), HB.out⟩

set_option maxRecDepth 100000 in
set_option maxHeartbeats 2000000 in
theorem stands_6 (op ln : Int) (s : ByteArray) (k n : Int) (t : ByteArray) (vv vs : Value) (w : World) :
    Calls Tryz.prog 175 #[.agg #[.int .i64 op, .int .i64 ln, .string s, .int .i64 k, .int .i64 n, .string t, vv, vs], .int .i64 6] w fun e w' => e = .returned (.bool (standsP op 6)) ∧ Below w.heap.size w w' := by
  obtain ⟨wa, hwa⟩ : ∃ wa, wa = w.alloc (.cells #[.int .i64 op, .int .i64 ln, .string s, .int .i64 k, .int .i64 n, .string t, vv, vs] 31) := ⟨_, rfl⟩
  have hb : Below w.heap.size w wa := by rw [hwa]; exact (Below.refl _ _).alloc (Nat.le_refl _) _
  have hN : NdB wa w.heap.size (.int .i64 op) (.int .i64 ln) (.string s) (.int .i64 k) (.int .i64 n) (.string t) vv vs := by rw [hwa]; exact NdB.new _ _ _ _ _ _ _ _ _
  have v0 := hN.c0
  rw [hwa] at v0
  have HB := Lib.hid hb
  have HWA := Lib.hid hwa
  clear hb hN hwa
  by_cases hn : op = 2 ∨ op = 20 ∨ op = 22 ∨ op = 25 ∨ op = 26 ∨ op = 50 ∨ op = 52
  · rcases hn with rfl | rfl | rfl | rfl | rfl | rfl | rfl
    all_goals
      go_enter Tryz.func175, Tryz.ntmps175
      go_wp2_with fail
      rw [← HWA.out]
      go_ret
      exact ⟨rfl, HB.out⟩
  have n2 := beq_no (show op ≠ 2 by omega)
  have n20 := beq_no (show op ≠ 20 by omega)
  have n22 := beq_no (show op ≠ 22 by omega)
  have n25 := beq_no (show op ≠ 25 by omega)
  have n26 := beq_no (show op ≠ 26 by omega)
  have n50 := beq_no (show op ≠ 50 by omega)
  have n52 := beq_no (show op ≠ 52 by omega)
  have b26 := bne_yes (show op ≠ 26 by omega)
  have b50 := bne_yes (show op ≠ 50 by omega)
  have hk : op < 1 ∨ (1 ≤ op ∧ op ≤ 29) ∨ (30 ≤ op ∧ op ≤ 39) ∨ (40 ≤ op ∧ op ≤ 51) ∨ 53 ≤ op := by omega
  have HNX := Lib.hid hn
  clear hn
  rcases hk with h1 | ⟨h1, h2⟩ | ⟨h1, h2⟩ | ⟨h1, h2⟩ | h1
  · have g1 : ¬ (1 ≤ op) := by omega
    have g2 : op ≤ 29 := by omega
    have g3 : ¬ (40 ≤ op) := by omega
    have g4 : op ≤ 51 := by omega
    have HS := Lib.hid (show standsP op 6 = false by have hx := HNX.out; simp [standsP]; try omega)
    go_enter Tryz.func175, Tryz.ntmps175
    go_wp2_with fail
    rw [← HWA.out]
    go_ret
    exact ⟨ret_val (by rw [HS.out]; rfl), HB.out⟩
  · have g1 : 1 ≤ op := by omega
    have g2 : op ≤ 29 := by omega
    have g3 : ¬ (40 ≤ op) := by omega
    have g4 : op ≤ 51 := by omega
    have HS := Lib.hid (show standsP op 6 = false by have hx := HNX.out; simp [standsP]; try omega)
    go_enter Tryz.func175, Tryz.ntmps175
    go_wp2_with fail
    rw [← HWA.out]
    go_ret
    exact ⟨ret_val (by rw [HS.out]; rfl), HB.out⟩
  · have g1 : 1 ≤ op := by omega
    have g2 : ¬ (op ≤ 29) := by omega
    have g3 : ¬ (40 ≤ op) := by omega
    have g4 : op ≤ 51 := by omega
    have HS := Lib.hid (show standsP op 6 = false by have hx := HNX.out; simp [standsP]; try omega)
    go_enter Tryz.func175, Tryz.ntmps175
    go_wp2_with fail
    rw [← HWA.out]
    go_ret
    exact ⟨ret_val (by rw [HS.out]; rfl), HB.out⟩
  · have g1 : 1 ≤ op := by omega
    have g2 : ¬ (op ≤ 29) := by omega
    have g3 : 40 ≤ op := by omega
    have g4 : op ≤ 51 := by omega
    have HS := Lib.hid (show standsP op 6 = false by have hx := HNX.out; simp [standsP]; try omega)
    go_enter Tryz.func175, Tryz.ntmps175
    go_wp2_with fail
    rw [← HWA.out]
    go_ret
    exact ⟨ret_val (by rw [HS.out]; rfl), HB.out⟩
  · have g1 : 1 ≤ op := by omega
    have g2 : ¬ (op ≤ 29) := by omega
    have g3 : 40 ≤ op := by omega
    have g4 : ¬ (op ≤ 51) := by omega
    have HS := Lib.hid (show standsP op 6 = false by have hx := HNX.out; simp [standsP]; try omega)
    go_enter Tryz.func175, Tryz.ntmps175
    go_wp2_with fail
    rw [← HWA.out]
    go_ret
    exact ⟨ret_val (by rw [HS.out]; rfl), HB.out⟩

set_option maxRecDepth 100000 in
set_option maxHeartbeats 2000000 in
theorem stands_7 (op ln : Int) (s : ByteArray) (k n : Int) (t : ByteArray) (vv vs : Value) (w : World) :
    Calls Tryz.prog 175 #[.agg #[.int .i64 op, .int .i64 ln, .string s, .int .i64 k, .int .i64 n, .string t, vv, vs], .int .i64 7] w fun e w' => e = .returned (.bool (standsP op 7)) ∧ Below w.heap.size w w' := by
  obtain ⟨wa, hwa⟩ : ∃ wa, wa = w.alloc (.cells #[.int .i64 op, .int .i64 ln, .string s, .int .i64 k, .int .i64 n, .string t, vv, vs] 31) := ⟨_, rfl⟩
  have hb : Below w.heap.size w wa := by rw [hwa]; exact (Below.refl _ _).alloc (Nat.le_refl _) _
  have hN : NdB wa w.heap.size (.int .i64 op) (.int .i64 ln) (.string s) (.int .i64 k) (.int .i64 n) (.string t) vv vs := by rw [hwa]; exact NdB.new _ _ _ _ _ _ _ _ _
  have v0 := hN.c0
  rw [hwa] at v0
  have HB := Lib.hid hb
  have HWA := Lib.hid hwa
  clear hb hN hwa
  by_cases hn : op = 2 ∨ op = 20 ∨ op = 22 ∨ op = 25 ∨ op = 26 ∨ op = 50 ∨ op = 52
  · rcases hn with rfl | rfl | rfl | rfl | rfl | rfl | rfl
    all_goals
      go_enter Tryz.func175, Tryz.ntmps175
      go_wp2_with fail
      rw [← HWA.out]
      go_ret
      exact ⟨rfl, HB.out⟩
  have n2 := beq_no (show op ≠ 2 by omega)
  have n20 := beq_no (show op ≠ 20 by omega)
  have n22 := beq_no (show op ≠ 22 by omega)
  have n25 := beq_no (show op ≠ 25 by omega)
  have n26 := beq_no (show op ≠ 26 by omega)
  have n50 := beq_no (show op ≠ 50 by omega)
  have n52 := beq_no (show op ≠ 52 by omega)
  have b26 := bne_yes (show op ≠ 26 by omega)
  have b50 := bne_yes (show op ≠ 50 by omega)
  have hk : op < 1 ∨ (1 ≤ op ∧ op ≤ 29) ∨ (30 ≤ op ∧ op ≤ 39) ∨ (40 ≤ op ∧ op ≤ 51) ∨ 53 ≤ op := by omega
  have HNX := Lib.hid hn
  clear hn
  rcases hk with h1 | ⟨h1, h2⟩ | ⟨h1, h2⟩ | ⟨h1, h2⟩ | h1
  · have g1 : ¬ (1 ≤ op) := by omega
    have g2 : op ≤ 29 := by omega
    have g3 : ¬ (40 ≤ op) := by omega
    have g4 : op ≤ 51 := by omega
    have HS := Lib.hid (show standsP op 7 = false by have hx := HNX.out; simp [standsP]; try omega)
    go_enter Tryz.func175, Tryz.ntmps175
    go_wp2_with fail
    rw [← HWA.out]
    go_ret
    exact ⟨ret_val (by rw [HS.out]; rfl), HB.out⟩
  · have g1 : 1 ≤ op := by omega
    have g2 : op ≤ 29 := by omega
    have g3 : ¬ (40 ≤ op) := by omega
    have g4 : op ≤ 51 := by omega
    have HS := Lib.hid (show standsP op 7 = false by have hx := HNX.out; simp [standsP]; try omega)
    go_enter Tryz.func175, Tryz.ntmps175
    go_wp2_with fail
    rw [← HWA.out]
    go_ret
    exact ⟨ret_val (by rw [HS.out]; rfl), HB.out⟩
  · have g1 : 1 ≤ op := by omega
    have g2 : ¬ (op ≤ 29) := by omega
    have g3 : ¬ (40 ≤ op) := by omega
    have g4 : op ≤ 51 := by omega
    have HS := Lib.hid (show standsP op 7 = false by have hx := HNX.out; simp [standsP]; try omega)
    go_enter Tryz.func175, Tryz.ntmps175
    go_wp2_with fail
    rw [← HWA.out]
    go_ret
    exact ⟨ret_val (by rw [HS.out]; rfl), HB.out⟩
  · have g1 : 1 ≤ op := by omega
    have g2 : ¬ (op ≤ 29) := by omega
    have g3 : 40 ≤ op := by omega
    have g4 : op ≤ 51 := by omega
    have HS := Lib.hid (show standsP op 7 = true by have hx := HNX.out; simp [standsP]; try omega)
    go_enter Tryz.func175, Tryz.ntmps175
    go_wp2_with fail
    rw [← HWA.out]
    go_ret
    exact ⟨ret_val (by rw [HS.out]; rfl), HB.out⟩
  · have g1 : 1 ≤ op := by omega
    have g2 : ¬ (op ≤ 29) := by omega
    have g3 : 40 ≤ op := by omega
    have g4 : ¬ (op ≤ 51) := by omega
    have HS := Lib.hid (show standsP op 7 = false by have hx := HNX.out; simp [standsP]; try omega)
    go_enter Tryz.func175, Tryz.ntmps175
    go_wp2_with fail
    rw [← HWA.out]
    go_ret
    exact ⟨ret_val (by rw [HS.out]; rfl), HB.out⟩

set_option maxRecDepth 100000 in
set_option maxHeartbeats 2000000 in
theorem stands_8 (op ln : Int) (s : ByteArray) (k n : Int) (t : ByteArray) (vv vs : Value) (w : World) :
    Calls Tryz.prog 175 #[.agg #[.int .i64 op, .int .i64 ln, .string s, .int .i64 k, .int .i64 n, .string t, vv, vs], .int .i64 8] w fun e w' => e = .returned (.bool (standsP op 8)) ∧ Below w.heap.size w w' := by
  obtain ⟨wa, hwa⟩ : ∃ wa, wa = w.alloc (.cells #[.int .i64 op, .int .i64 ln, .string s, .int .i64 k, .int .i64 n, .string t, vv, vs] 31) := ⟨_, rfl⟩
  have hb : Below w.heap.size w wa := by rw [hwa]; exact (Below.refl _ _).alloc (Nat.le_refl _) _
  have hN : NdB wa w.heap.size (.int .i64 op) (.int .i64 ln) (.string s) (.int .i64 k) (.int .i64 n) (.string t) vv vs := by rw [hwa]; exact NdB.new _ _ _ _ _ _ _ _ _
  have v0 := hN.c0
  rw [hwa] at v0
  have HB := Lib.hid hb
  have HWA := Lib.hid hwa
  clear hb hN hwa
  by_cases hn : op = 2 ∨ op = 20 ∨ op = 22 ∨ op = 25 ∨ op = 26 ∨ op = 50 ∨ op = 52
  · rcases hn with rfl | rfl | rfl | rfl | rfl | rfl | rfl
    all_goals
      go_enter Tryz.func175, Tryz.ntmps175
      go_wp2_with fail
      rw [← HWA.out]
      go_ret
      exact ⟨rfl, HB.out⟩
  have n2 := beq_no (show op ≠ 2 by omega)
  have n20 := beq_no (show op ≠ 20 by omega)
  have n22 := beq_no (show op ≠ 22 by omega)
  have n25 := beq_no (show op ≠ 25 by omega)
  have n26 := beq_no (show op ≠ 26 by omega)
  have n50 := beq_no (show op ≠ 50 by omega)
  have n52 := beq_no (show op ≠ 52 by omega)
  have b26 := bne_yes (show op ≠ 26 by omega)
  have b50 := bne_yes (show op ≠ 50 by omega)
  have hk : op < 1 ∨ (1 ≤ op ∧ op ≤ 29) ∨ (30 ≤ op ∧ op ≤ 39) ∨ (40 ≤ op ∧ op ≤ 51) ∨ 53 ≤ op := by omega
  have HNX := Lib.hid hn
  clear hn
  rcases hk with h1 | ⟨h1, h2⟩ | ⟨h1, h2⟩ | ⟨h1, h2⟩ | h1
  · have g1 : ¬ (1 ≤ op) := by omega
    have g2 : op ≤ 29 := by omega
    have g3 : ¬ (40 ≤ op) := by omega
    have g4 : op ≤ 51 := by omega
    have HS := Lib.hid (show standsP op 8 = false by have hx := HNX.out; simp [standsP]; try omega)
    go_enter Tryz.func175, Tryz.ntmps175
    go_wp2_with fail
    rw [← HWA.out]
    go_ret
    exact ⟨ret_val (by rw [HS.out]; rfl), HB.out⟩
  · have g1 : 1 ≤ op := by omega
    have g2 : op ≤ 29 := by omega
    have g3 : ¬ (40 ≤ op) := by omega
    have g4 : op ≤ 51 := by omega
    have HS := Lib.hid (show standsP op 8 = false by have hx := HNX.out; simp [standsP]; try omega)
    go_enter Tryz.func175, Tryz.ntmps175
    go_wp2_with fail
    rw [← HWA.out]
    go_ret
    exact ⟨ret_val (by rw [HS.out]; rfl), HB.out⟩
  · have g1 : 1 ≤ op := by omega
    have g2 : ¬ (op ≤ 29) := by omega
    have g3 : ¬ (40 ≤ op) := by omega
    have g4 : op ≤ 51 := by omega
    have HS := Lib.hid (show standsP op 8 = false by have hx := HNX.out; simp [standsP]; try omega)
    go_enter Tryz.func175, Tryz.ntmps175
    go_wp2_with fail
    rw [← HWA.out]
    go_ret
    exact ⟨ret_val (by rw [HS.out]; rfl), HB.out⟩
  · have g1 : 1 ≤ op := by omega
    have g2 : ¬ (op ≤ 29) := by omega
    have g3 : 40 ≤ op := by omega
    have g4 : op ≤ 51 := by omega
    have HS := Lib.hid (show standsP op 8 = false by have hx := HNX.out; simp [standsP]; try omega)
    go_enter Tryz.func175, Tryz.ntmps175
    go_wp2_with fail
    rw [← HWA.out]
    go_ret
    exact ⟨ret_val (by rw [HS.out]; rfl), HB.out⟩
  · have g1 : 1 ≤ op := by omega
    have g2 : ¬ (op ≤ 29) := by omega
    have g3 : 40 ≤ op := by omega
    have g4 : ¬ (op ≤ 51) := by omega
    have HS := Lib.hid (show standsP op 8 = false by have hx := HNX.out; simp [standsP]; try omega)
    go_enter Tryz.func175, Tryz.ntmps175
    go_wp2_with fail
    rw [← HWA.out]
    go_ret
    exact ⟨ret_val (by rw [HS.out]; rfl), HB.out⟩

theorem stands_c (op ln : Int) (s : ByteArray) (k n : Int) (t : ByteArray) (vv vs : Value) (r : Nat) (w : World) (hr : r ≤ 8) :
    Calls Tryz.prog 175 #[.agg #[.int .i64 op, .int .i64 ln, .string s, .int .i64 k, .int .i64 n, .string t, vv, vs], .int .i64 (r : Int)] w fun e w' => e = .returned (.bool (standsP op r)) ∧ Below w.heap.size w w' := by
  have hk : r = 0 ∨ r = 1 ∨ r = 2 ∨ r = 3 ∨ r = 4 ∨ r = 5 ∨ r = 6 ∨ r = 7 ∨ r = 8 := by omega
  rcases hk with rfl | rfl | rfl | rfl | rfl | rfl | rfl | rfl | rfl
  · exact stands_0 op ln s k n t vv vs w
  · exact stands_1 op ln s k n t vv vs w
  · exact stands_2 op ln s k n t vv vs w
  · exact stands_3 op ln s k n t vv vs w
  · exact stands_4 op ln s k n t vv vs w
  · exact stands_5 op ln s k n t vv vs w
  · exact stands_6 op ln s k n t vv vs w
  · exact stands_7 op ln s k n t vv vs w
  · exact stands_8 op ln s k n t vv vs w
end Go.Proofs.YtggngahmafbihaaGreatDoor
