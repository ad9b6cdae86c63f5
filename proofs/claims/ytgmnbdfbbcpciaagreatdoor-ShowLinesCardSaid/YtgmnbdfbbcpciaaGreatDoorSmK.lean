/- Contracts of the functions that the statement reaches, and the plain mathematics beneath: several texts joined. -/
import Derived.Test.YtgmnbdfbbcpciaaGreatDoorSmJ
import Derived.Test.YtgmnbdfbbcpciaaGreatDoorSmB
import Derived.Test.YtgmnbdfbbcpciaaGreatDoorSmE
import Derived.Test.YtgmnbdfbbcpciaaGreatDoorSmF
import Derived.Test.YtgmnbdfbbcpciaaGreatDoorSmH
import Derived.OwnWalk
import Derived.Laws.Tables
import Derived.Deep.CutBlock
import Derived.Test.YtgmnbdfbbcpciaaGreatDoorSmA
import Derived.Test.YtgmnbdfbbcpciaaGreatDoorSmC
import Derived.Test.YtgmnbdfbbcpciaaGreatDoorSmD
import Derived.Test.YtgmnbdfbbcpciaaGreatDoorSmG
import Derived.Test.YtgmnbdfbbcpciaaGreatDoorSmI
namespace Go.Proofs.YtgmnbdfbbcpciaaGreatDoor
open Go.RowKit Go.Lib
set_option linter.unusedVariables false

theorem beq_yes {a b : Int} (h : a = b) : (a == b) = true := by rw [h]; exact beq_self_eq_true b
theorem bne_no {a b : Int} (h : a = b) : (a != b) = false := by rw [h]; exact bne_self_eq_false b

set_option maxRecDepth 100000 in
set_option maxHeartbeats 8000000 in
theorem place_r (op ln : Int) (s : ByteArray) (k n : Int) (t : ByteArray) (vv : Value) (sa : Option Addr) (m sc own i : Nat) (hi : i < m) (hm : m ≤ 140737488351232) (w : World) :
    Calls Tryz.prog 28 #[.agg #[.int .i64 op, .int .i64 ln, .string s, .int .i64 k, .int .i64 n, .string t, vv, .slice sa m sc], .int .i64 (own : Int), .int .i64 (i : Int)] w fun e w' => e = .returned (.int .i64 ((placeP op m own i : Nat) : Int)) ∧ Below w.heap.size w w' := by
  obtain ⟨wa, hwa⟩ : ∃ wa, wa = w.alloc (.cells #[.int .i64 op, .int .i64 ln, .string s, .int .i64 k, .int .i64 n, .string t, vv, .slice sa m sc] 33) := ⟨_, rfl⟩
  have hb : Below w.heap.size w wa := by rw [hwa]; exact (Below.refl _ _).alloc (Nat.le_refl _) _
  have hN : NdB wa w.heap.size (.int .i64 op) (.int .i64 ln) (.string s) (.int .i64 k) (.int .i64 n) (.string t) vv (.slice sa m sc) := by rw [hwa]; exact NdB.new _ _ _ _ _ _ _ _ _
  have v0 := hN.c0; have v7 := hN.c7
  rw [hwa] at v0 v7
  have HB := Lib.hid hb
  have HWA := Lib.hid hwa
  clear hb hN hwa
  have em1 : IntKind.i64.wrap ((m : Int) - 1) = (m : Int) - 1 := IntWalk.i64_in _ (by omega)
  have em2 : IntKind.i64.wrap ((m : Int) - 2) = (m : Int) - 2 := IntWalk.i64_in _ (by omega)
  by_cases ho : op = 23 ∨ op = 24 ∨ op = 25 ∨ op = 26 ∨ op = 20 ∨ op = 27 ∨ op = 28 ∨ op = 29 ∨ op = 50 ∨ op = 41 ∨ op = 42 ∨ op = 48 ∨ op = 44 ∨ op = 43 ∨ op = 49 ∨ op = 51 ∨ op = 52
  · rcases ho with rfl | rfl | rfl | rfl | rfl | rfl | rfl | rfl | rfl | rfl | rfl | rfl | rfl | rfl | rfl | rfl | rfl
    · rcases (show (2 ≤ i) ∨ (¬ 2 ≤ i) by omega) with hc | hc
      · have HP := Lib.hid (show placeP 23 m own i = 2 by simp only [placeP]; first | (simp; done) | (simp; omega) | (simp [hc]; done) | (simp [hc]; omega))
        have f1 : (2 : Int) ≤ (i : Int) := by omega
        clear hc
        go_enter Tryz.func28, Tryz.ntmps28
        go_wp2_with fail
        rw [← HWA.out]
        go_ret
        exact ⟨ret_val (by rw [HP.out]; rfl), HB.out⟩
      · have HP := Lib.hid (show placeP 23 m own i = 1 by simp only [placeP]; first | (simp; done) | (simp; omega) | (simp [hc]; done) | (simp [hc]; omega))
        have f1 : ¬ ((2 : Int) ≤ (i : Int)) := by omega
        clear hc
        go_enter Tryz.func28, Tryz.ntmps28
        go_wp2_with fail
        rw [← HWA.out]
        go_ret
        exact ⟨ret_val (by rw [HP.out]; rfl), HB.out⟩
    · have HP := Lib.hid (show placeP 24 m own i = 2 from rfl)
      go_enter Tryz.func28, Tryz.ntmps28
      go_wp2_with fail
      rw [← HWA.out]
      go_ret
      exact ⟨ret_val (by rw [HP.out]; rfl), HB.out⟩
    · rcases (show (own = 6) ∨ (own ≠ 6) by omega) with hc | hc
      · have HP := Lib.hid (show placeP 25 m own i = 1 by simp only [placeP]; first | (simp; done) | (simp; omega) | (simp [hc]; done) | (simp [hc]; omega))
        have f1 := bne_no (show (own : Int) = 6 by omega)
        clear hc
        go_enter Tryz.func28, Tryz.ntmps28
        go_wp2_with fail
        rw [← HWA.out]
        go_ret
        exact ⟨ret_val (by rw [HP.out]; rfl), HB.out⟩
      · have HP := Lib.hid (show placeP 25 m own i = 2 by simp only [placeP]; first | (simp; done) | (simp; omega) | (simp [hc]; done) | (simp [hc]; omega))
        have f1 := bne_yes (show (own : Int) ≠ 6 by omega)
        clear hc
        go_enter Tryz.func28, Tryz.ntmps28
        go_wp2_with fail
        rw [← HWA.out]
        go_ret
        exact ⟨ret_val (by rw [HP.out]; rfl), HB.out⟩
    · rcases (show (own = 5) ∨ (own ≠ 5) by omega) with hc | hc
      · have HP := Lib.hid (show placeP 26 m own i = 4 by simp only [placeP]; first | (simp; done) | (simp; omega) | (simp [hc]; done) | (simp [hc]; omega))
        have f1 := beq_yes (show (own : Int) = 5 by omega)
        clear hc
        go_enter Tryz.func28, Tryz.ntmps28
        go_wp2_with fail
        rw [← HWA.out]
        go_ret
        exact ⟨ret_val (by rw [HP.out]; rfl), HB.out⟩
      · have HP := Lib.hid (show placeP 26 m own i = 1 by simp only [placeP]; first | (simp; done) | (simp; omega) | (simp [hc]; done) | (simp [hc]; omega))
        have f1 := beq_no (show (own : Int) ≠ 5 by omega)
        clear hc
        go_enter Tryz.func28, Tryz.ntmps28
        go_wp2_with fail
        rw [← HWA.out]
        go_ret
        exact ⟨ret_val (by rw [HP.out]; rfl), HB.out⟩
    · rcases (show (own = 3 ∧ i = 0) ∨ (own = 3 ∧ i ≠ 0) ∨ (own ≠ 3) by omega) with hc | hc | hc
      · have HP := Lib.hid (show placeP 20 m own i = 3 by simp only [placeP]; first | (simp; done) | (simp; omega) | (simp [hc]; done) | (simp [hc]; omega))
        have f1 := beq_yes (show (own : Int) = 3 by omega)
        have f2 := beq_yes (show (i : Int) = 0 by omega)
        clear hc
        go_enter Tryz.func28, Tryz.ntmps28
        go_wp2_with fail
        rw [← HWA.out]
        go_ret
        exact ⟨ret_val (by rw [HP.out]; rfl), HB.out⟩
      · have HP := Lib.hid (show placeP 20 m own i = 1 by simp only [placeP]; first | (simp; done) | (simp; omega) | (simp [hc]; done) | (simp [hc]; omega))
        have f1 := beq_yes (show (own : Int) = 3 by omega)
        have f2 := beq_no (show (i : Int) ≠ 0 by omega)
        clear hc
        go_enter Tryz.func28, Tryz.ntmps28
        go_wp2_with fail
        rw [← HWA.out]
        go_ret
        exact ⟨ret_val (by rw [HP.out]; rfl), HB.out⟩
      · have HP := Lib.hid (show placeP 20 m own i = 1 by simp only [placeP]; first | (simp; done) | (simp; omega) | (simp [hc]; done) | (simp [hc]; omega))
        have f1 := beq_no (show (own : Int) ≠ 3 by omega)
        clear hc
        go_enter Tryz.func28, Tryz.ntmps28
        go_wp2_with fail
        rw [← HWA.out]
        go_ret
        exact ⟨ret_val (by rw [HP.out]; rfl), HB.out⟩
    · rcases (show (i = 0) ∨ (i ≠ 0) by omega) with hc | hc
      · have HP := Lib.hid (show placeP 27 m own i = 3 by simp only [placeP]; first | (simp; done) | (simp; omega) | (simp [hc]; done) | (simp [hc]; omega))
        have f1 := beq_yes (show (i : Int) = 0 by omega)
        clear hc
        go_enter Tryz.func28, Tryz.ntmps28
        go_wp2_with fail
        rw [← HWA.out]
        go_ret
        exact ⟨ret_val (by rw [HP.out]; rfl), HB.out⟩
      · have HP := Lib.hid (show placeP 27 m own i = 1 by simp only [placeP]; first | (simp; done) | (simp; omega) | (simp [hc]; done) | (simp [hc]; omega))
        have f1 := beq_no (show (i : Int) ≠ 0 by omega)
        clear hc
        go_enter Tryz.func28, Tryz.ntmps28
        go_wp2_with fail
        rw [← HWA.out]
        go_ret
        exact ⟨ret_val (by rw [HP.out]; rfl), HB.out⟩
    · rcases (show (i + 2 = m) ∨ (i + 2 ≠ m ∧ i + 2 < m) ∨ (i + 2 ≠ m ∧ ¬ i + 2 < m) by omega) with hc | hc | hc
      · have HP := Lib.hid (show placeP 28 m own i = 5 by simp only [placeP]; first | (simp; done) | (simp; omega) | (simp [hc]; done) | (simp [hc]; omega))
        have f1 := beq_yes (show (i : Int) = (m : Int) - 2 by omega)
        clear hc
        go_enter Tryz.func28, Tryz.ntmps28
        go_wp2_with fail
        rw [← HWA.out]
        go_ret
        exact ⟨ret_val (by rw [HP.out]; rfl), HB.out⟩
      · have HP := Lib.hid (show placeP 28 m own i = 4 by simp only [placeP]; first | (simp; done) | (simp; omega) | (simp [hc]; done) | (simp [hc]; omega))
        have f1 := beq_no (show (i : Int) ≠ (m : Int) - 2 by omega)
        have f2 : (i : Int) < (m : Int) - 2 := by omega
        clear hc
        go_enter Tryz.func28, Tryz.ntmps28
        go_wp2_with fail
        rw [← HWA.out]
        go_ret
        exact ⟨ret_val (by rw [HP.out]; rfl), HB.out⟩
      · have HP := Lib.hid (show placeP 28 m own i = 1 by simp only [placeP]; first | (simp; done) | (simp; omega) | (simp [hc]; done) | (simp [hc]; omega))
        have f1 := beq_no (show (i : Int) ≠ (m : Int) - 2 by omega)
        have f2 : ¬ ((i : Int) < (m : Int) - 2) := by omega
        clear hc
        go_enter Tryz.func28, Tryz.ntmps28
        go_wp2_with fail
        rw [← HWA.out]
        go_ret
        exact ⟨ret_val (by rw [HP.out]; rfl), HB.out⟩
    · rcases (show (i = 1) ∨ (i ≠ 1) by omega) with hc | hc
      · have HP := Lib.hid (show placeP 29 m own i = 6 by simp only [placeP]; first | (simp; done) | (simp; omega) | (simp [hc]; done) | (simp [hc]; omega))
        have f1 := beq_yes (show (i : Int) = 1 by omega)
        clear hc
        go_enter Tryz.func28, Tryz.ntmps28
        go_wp2_with fail
        rw [← HWA.out]
        go_ret
        exact ⟨ret_val (by rw [HP.out]; rfl), HB.out⟩
      · have HP := Lib.hid (show placeP 29 m own i = 1 by simp only [placeP]; first | (simp; done) | (simp; omega) | (simp [hc]; done) | (simp [hc]; omega))
        have f1 := beq_no (show (i : Int) ≠ 1 by omega)
        clear hc
        go_enter Tryz.func28, Tryz.ntmps28
        go_wp2_with fail
        rw [← HWA.out]
        go_ret
        exact ⟨ret_val (by rw [HP.out]; rfl), HB.out⟩
    · rcases (show (i = 0) ∨ (i ≠ 0) by omega) with hc | hc
      · have HP := Lib.hid (show placeP 50 m own i = 6 by simp only [placeP]; first | (simp; done) | (simp; omega) | (simp [hc]; done) | (simp [hc]; omega))
        have f1 := beq_yes (show (i : Int) = 0 by omega)
        clear hc
        go_enter Tryz.func28, Tryz.ntmps28
        go_wp2_with fail
        rw [← HWA.out]
        go_ret
        exact ⟨ret_val (by rw [HP.out]; rfl), HB.out⟩
      · have HP := Lib.hid (show placeP 50 m own i = 7 by simp only [placeP]; first | (simp; done) | (simp; omega) | (simp [hc]; done) | (simp [hc]; omega))
        have f1 := beq_no (show (i : Int) ≠ 0 by omega)
        clear hc
        go_enter Tryz.func28, Tryz.ntmps28
        go_wp2_with fail
        rw [← HWA.out]
        go_ret
        exact ⟨ret_val (by rw [HP.out]; rfl), HB.out⟩
    · rcases (show (i % 2 = 1) ∨ (i % 2 ≠ 1 ∧ i + 1 = m) ∨ (i % 2 ≠ 1 ∧ i + 1 ≠ m) by omega) with hc | hc | hc
      · have HP := Lib.hid (show placeP 41 m own i = 7 by simp only [placeP]; first | (simp; done) | (simp; omega) | (simp [hc]; done) | (simp [hc]; omega))
        have f0 : (i : Int) % 2 = 1 := by omega
        clear hc
        go_enter Tryz.func28, Tryz.ntmps28
        go_wp2_with fail
        rw [← HWA.out]
        go_ret
        exact ⟨ret_val (by rw [HP.out]; rfl), HB.out⟩
      · have HP := Lib.hid (show placeP 41 m own i = 7 by simp only [placeP]; first | (simp; done) | (simp; omega) | (simp [hc]; done) | (simp [hc]; omega))
        have f0 : (i : Int) % 2 = 0 := by omega
        have f1 := beq_yes (show (i : Int) = (m : Int) - 1 by omega)
        clear hc
        go_enter Tryz.func28, Tryz.ntmps28
        go_wp2_with fail
        rw [← HWA.out]
        go_ret
        exact ⟨ret_val (by rw [HP.out]; rfl), HB.out⟩
      · have HP := Lib.hid (show placeP 41 m own i = 1 by simp only [placeP]; first | (simp; done) | (simp; omega) | (simp [hc]; done) | (simp [hc]; omega))
        have f0 : (i : Int) % 2 = 0 := by omega
        have f1 := beq_no (show (i : Int) ≠ (m : Int) - 1 by omega)
        clear hc
        go_enter Tryz.func28, Tryz.ntmps28
        go_wp2_with fail
        rw [← HWA.out]
        go_ret
        exact ⟨ret_val (by rw [HP.out]; rfl), HB.out⟩
    · rcases (show (i + 1 = m) ∨ (i + 1 ≠ m) by omega) with hc | hc
      · have HP := Lib.hid (show placeP 42 m own i = 7 by simp only [placeP]; first | (simp; done) | (simp; omega) | (simp [hc]; done) | (simp [hc]; omega))
        have f1 := beq_yes (show (i : Int) = (m : Int) - 1 by omega)
        clear hc
        go_enter Tryz.func28, Tryz.ntmps28
        go_wp2_with fail
        rw [← HWA.out]
        go_ret
        exact ⟨ret_val (by rw [HP.out]; rfl), HB.out⟩
      · have HP := Lib.hid (show placeP 42 m own i = 1 by simp only [placeP]; first | (simp; done) | (simp; omega) | (simp [hc]; done) | (simp [hc]; omega))
        have f1 := beq_no (show (i : Int) ≠ (m : Int) - 1 by omega)
        clear hc
        go_enter Tryz.func28, Tryz.ntmps28
        go_wp2_with fail
        rw [← HWA.out]
        go_ret
        exact ⟨ret_val (by rw [HP.out]; rfl), HB.out⟩
    · rcases (show (i + 1 = m) ∨ (i + 1 ≠ m) by omega) with hc | hc
      · have HP := Lib.hid (show placeP 48 m own i = 7 by simp only [placeP]; first | (simp; done) | (simp; omega) | (simp [hc]; done) | (simp [hc]; omega))
        have f1 := beq_yes (show (i : Int) = (m : Int) - 1 by omega)
        clear hc
        go_enter Tryz.func28, Tryz.ntmps28
        go_wp2_with fail
        rw [← HWA.out]
        go_ret
        exact ⟨ret_val (by rw [HP.out]; rfl), HB.out⟩
      · have HP := Lib.hid (show placeP 48 m own i = 1 by simp only [placeP]; first | (simp; done) | (simp; omega) | (simp [hc]; done) | (simp [hc]; omega))
        have f1 := beq_no (show (i : Int) ≠ (m : Int) - 1 by omega)
        clear hc
        go_enter Tryz.func28, Tryz.ntmps28
        go_wp2_with fail
        rw [← HWA.out]
        go_ret
        exact ⟨ret_val (by rw [HP.out]; rfl), HB.out⟩
    · rcases (show (i + 1 = m) ∨ (i + 1 ≠ m) by omega) with hc | hc
      · have HP := Lib.hid (show placeP 44 m own i = 7 by simp only [placeP]; first | (simp; done) | (simp; omega) | (simp [hc]; done) | (simp [hc]; omega))
        have f1 := beq_yes (show (i : Int) = (m : Int) - 1 by omega)
        clear hc
        go_enter Tryz.func28, Tryz.ntmps28
        go_wp2_with fail
        rw [← HWA.out]
        go_ret
        exact ⟨ret_val (by rw [HP.out]; rfl), HB.out⟩
      · have HP := Lib.hid (show placeP 44 m own i = 1 by simp only [placeP]; first | (simp; done) | (simp; omega) | (simp [hc]; done) | (simp [hc]; omega))
        have f1 := beq_no (show (i : Int) ≠ (m : Int) - 1 by omega)
        clear hc
        go_enter Tryz.func28, Tryz.ntmps28
        go_wp2_with fail
        rw [← HWA.out]
        go_ret
        exact ⟨ret_val (by rw [HP.out]; rfl), HB.out⟩
    · rcases (show (i + 1 = m) ∨ (i + 1 ≠ m) by omega) with hc | hc
      · have HP := Lib.hid (show placeP 43 m own i = 7 by simp only [placeP]; first | (simp; done) | (simp; omega) | (simp [hc]; done) | (simp [hc]; omega))
        have f1 := beq_yes (show (i : Int) = (m : Int) - 1 by omega)
        clear hc
        go_enter Tryz.func28, Tryz.ntmps28
        go_wp2_with fail
        rw [← HWA.out]
        go_ret
        exact ⟨ret_val (by rw [HP.out]; rfl), HB.out⟩
      · have HP := Lib.hid (show placeP 43 m own i = 1 by simp only [placeP]; first | (simp; done) | (simp; omega) | (simp [hc]; done) | (simp [hc]; omega))
        have f1 := beq_no (show (i : Int) ≠ (m : Int) - 1 by omega)
        clear hc
        go_enter Tryz.func28, Tryz.ntmps28
        go_wp2_with fail
        rw [← HWA.out]
        go_ret
        exact ⟨ret_val (by rw [HP.out]; rfl), HB.out⟩
    · rcases (show (0 < i) ∨ (¬ 0 < i) by omega) with hc | hc
      · have HP := Lib.hid (show placeP 49 m own i = 8 by simp only [placeP]; first | (simp; done) | (simp; omega) | (simp [hc]; done) | (simp [hc]; omega))
        have f1 : (0 : Int) < (i : Int) := by omega
        clear hc
        go_enter Tryz.func28, Tryz.ntmps28
        go_wp2_with fail
        rw [← HWA.out]
        go_ret
        exact ⟨ret_val (by rw [HP.out]; rfl), HB.out⟩
      · have HP := Lib.hid (show placeP 49 m own i = 7 by simp only [placeP]; first | (simp; done) | (simp; omega) | (simp [hc]; done) | (simp [hc]; omega))
        have f1 : ¬ ((0 : Int) < (i : Int)) := by omega
        clear hc
        go_enter Tryz.func28, Tryz.ntmps28
        go_wp2_with fail
        rw [← HWA.out]
        go_ret
        exact ⟨ret_val (by rw [HP.out]; rfl), HB.out⟩
    · have HP := Lib.hid (show placeP 51 m own i = 7 from rfl)
      go_enter Tryz.func28, Tryz.ntmps28
      go_wp2_with fail
      rw [← HWA.out]
      go_ret
      exact ⟨ret_val (by rw [HP.out]; rfl), HB.out⟩
    · have HP := Lib.hid (show placeP 52 m own i = 9 from rfl)
      go_enter Tryz.func28, Tryz.ntmps28
      go_wp2_with fail
      rw [← HWA.out]
      go_ret
      exact ⟨ret_val (by rw [HP.out]; rfl), HB.out⟩
  · have HP := Lib.hid (show placeP op m own i = 1 by unfold placeP; repeat rw [if_neg (by omega)])
    have n23 := beq_no (show op ≠ 23 by omega)
    have n24 := beq_no (show op ≠ 24 by omega)
    have n25 := beq_no (show op ≠ 25 by omega)
    have n26 := beq_no (show op ≠ 26 by omega)
    have n20 := beq_no (show op ≠ 20 by omega)
    have n27 := beq_no (show op ≠ 27 by omega)
    have n28 := beq_no (show op ≠ 28 by omega)
    have n29 := beq_no (show op ≠ 29 by omega)
    have n50 := beq_no (show op ≠ 50 by omega)
    have n41 := beq_no (show op ≠ 41 by omega)
    have n42 := beq_no (show op ≠ 42 by omega)
    have n48 := beq_no (show op ≠ 48 by omega)
    have n44 := beq_no (show op ≠ 44 by omega)
    have n43 := beq_no (show op ≠ 43 by omega)
    have n49 := beq_no (show op ≠ 49 by omega)
    have n51 := beq_no (show op ≠ 51 by omega)
    have n52 := beq_no (show op ≠ 52 by omega)
    clear ho
    go_enter Tryz.func28, Tryz.ntmps28
    go_wp2_with fail
    rw [← HWA.out]
    go_ret
    exact ⟨ret_val (by rw [HP.out]; rfl), HB.out⟩
end Go.Proofs.YtgmnbdfbbcpciaaGreatDoor
namespace Go.Proofs.YtgmnbdfbbcpciaaGreatDoor
open Go.RowKit Go.Lib
set_option linter.unusedVariables false

/-- A node's name is as it is to be. -/
def NamedOk (op : Int) (s : ByteArray) : Prop := ((namedP op).1 = true → nameB s = true ∨ ((namedP op).2 = true ∧ s.size = 0)) ∧ ((namedP op).1 = false → s.size = 0)
def RetN (e : Ending) (p : Prop) : Prop := ∃ r : Int, e = .returned (.int .i64 r) ∧ (r = 0 → p) ∧ (r = 0 ∨ r = 1 ∨ r = 2)
theorem RetN.mk {e : Ending} {p : Prop} (r : Int) (h : e = .returned (.int .i64 r)) (hp : r = 0 → p) (h3 : r = 0 ∨ r = 1 ∨ r = 2) : RetN e p := ⟨r, h, hp, h3⟩
theorem quietR_add {P : Program} {f : FuncId} {args : Array Value} {w : World} {a n : Nat} {v : Value}
    (h : Calls P f args (w.drewN (a + n)) fun e w' => e = .returned v ∧ w.drewN (a + n) = w') :
    Calls P f args (w.drewN (a + n)) fun e w'' => e = .returned v ∧ ∃ m, w'' = w.drewN (a + m) :=
  h.mono fun _ _ ⟨he, hm⟩ => ⟨he, n, hm.symm⟩
theorem quietR {P : Program} {f : FuncId} {args : Array Value} {w : World} {n : Nat} {v : Value}
    (h : Calls P f args (w.drewN n) fun e w' => e = .returned v ∧ w.drewN n = w') : Calls P f args (w.drewN n) fun e w'' => e = .returned v ∧ ∃ m, w'' = w.drewN m :=
  h.mono fun _ _ ⟨he, hm⟩ => ⟨he, n, hm.symm⟩
theorem nameB_ok {s : ByteArray} {R : List ByteArray} (h : nmOkB s = true) (hm : ∀ x ∈ tkeysL, x ∈ R) (hh : holdsB R s = false) : nameB s = true :=
  nameB_of (nmOkB_ok h) (fun hk => holdsB_no hh (hm s hk))

set_option maxRecDepth 100000 in
set_option maxHeartbeats 8000000 in
theorem named_r (op ln : Int) (s : ByteArray) (k n : Int) (t : ByteArray) (vv vs : Value) (w : World) (hs : s.size ≤ 140737488351232) :
    Calls Tryz.prog 24 #[.agg #[.int .i64 op, .int .i64 ln, .string s, .int .i64 k, .int .i64 n, .string t, vv, vs]] w fun e w' => RetN e (NamedOk op s) ∧ Below w.heap.size w w' := by
  obtain ⟨wa, hwa⟩ : ∃ wa, wa = w.alloc (.cells #[.int .i64 op, .int .i64 ln, .string s, .int .i64 k, .int .i64 n, .string t, vv, vs] 33) := ⟨_, rfl⟩
  have hb : Below w.heap.size w wa := by rw [hwa]; exact (Below.refl _ _).alloc (Nat.le_refl _) _
  have hN : NdB wa w.heap.size (.int .i64 op) (.int .i64 ln) (.string s) (.int .i64 k) (.int .i64 n) (.string t) vv vs := by rw [hwa]; exact NdB.new _ _ _ _ _ _ _ _ _
  have hzw : w.heap.size < wa.heap.size := by rw [hwa]; simp
  have v0 := hN.c0; have v2 := hN.c2
  have HC2 := Lib.hid (show ∀ W, Below wa.heap.size wa W → W.cell? ⟨w.heap.size, 2, none⟩ = some (.string s) from fun W hW => (hW.cell (p := ⟨w.heap.size, 2, none⟩) hzw).trans v2)
  rw [hwa] at v0 v2
  have HB := Lib.hid hb
  have HWA := Lib.hid hwa
  clear hb hN hwa
  have KS : ∀ W, Below wa.heap.size wa W → (W.cell? ⟨w.heap.size, 2, none⟩ = some (.string s) ∧ Below wa.heap.size wa W) := fun W hW => ⟨HC2.out W hW, hW⟩
  have IC := Lib.hid (fun W (h : W.cell? ⟨w.heap.size, 2, none⟩ = some (.string s) ∧ Below wa.heap.size wa W) => (isname_r s W hs).mono (R' := fun e W' => e = .returned (.bool (nmOkB s)) ∧ (W'.cell? ⟨w.heap.size, 2, none⟩ = some (.string s) ∧ Below wa.heap.size wa W')) fun e W' ⟨h1, h2⟩ => ⟨h1, by rw [← h2]; exact h⟩)
  have KC := Lib.hid (fun W (h : W.cell? ⟨w.heap.size, 2, none⟩ = some (.string s) ∧ Below wa.heap.size wa W) => (keys_r W).mono (R' := fun e W' => ∃ (v : Value) (R : List ByteArray), e = .returned v ∧ Hid (W'.ownsRow W.heap.size 9 1 v R.length (vstr R)) ∧ R.length ≤ 19 ∧ Hid (∀ x ∈ tkeysL, x ∈ R) ∧ (W'.cell? ⟨w.heap.size, 2, none⟩ = some (.string s) ∧ Below wa.heap.size wa W')) fun e W' ⟨⟨v, R, h1, h2, h3, h4⟩, h5⟩ => ⟨v, R, h1, h2, h3, h4, KS _ (h.2.trans (below_le' h5 h.2.size))⟩)
  have HC := Lib.hid (fun (R : List ByteArray) (v : Value) (base : Nat) (W W2 : World) (h : W.cell? ⟨w.heap.size, 2, none⟩ = some (.string s) ∧ Below wa.heap.size wa W) (hl : R.length ≤ 19) (ho : Hid (W.ownsRow base 9 1 v R.length (vstr R))) => (holds_r R v base s W (by omega) ho.out).mono (R' := fun e W' => e = .returned (.bool (holdsB R s)) ∧ (W'.cell? ⟨w.heap.size, 2, none⟩ = some (.string s) ∧ Below wa.heap.size wa W')) fun e W' ⟨h1, h2⟩ => ⟨h1, by rw [← h2]; exact h⟩)
  have K0 := KS _ ((Below.refl wa.heap.size wa).drew)
  have KA := KS _ (Below.refl wa.heap.size wa)
  obtain ⟨nb, hnb⟩ : ∃ nb, nb = nmOkB s := ⟨_, rfl⟩
  have IQ := Lib.hid (fun W => isname_r s W hs)
  rw [← hnb] at IC IQ
  have HQ := Lib.hid (fun nq => show Below w.heap.size w (wa.drewN nq) from HB.out.trans ⟨rfl, rfl, rfl, Nat.le_refl _, fun _ _ => rfl⟩)
  have HNB := Lib.hid hnb
  have es := empty_size s
  clear KS hnb
  by_cases ho : op = 2 ∨ op = 24 ∨ op = 42 ∨ op = 43 ∨ op = 50
  · rcases ho with rfl | rfl | rfl | rfl | rfl
    · clear es
      cases nb
      · go_enter Tryz.func24, Tryz.ntmps24
        go_wp2_with fail
        rw [← HWA.out]
        rw [← HWA.out] at v2
        go_quiet ((first | (go_at_call 39; exact quietR (IQ.out _)) | (go_at_call 39; exact quietR_add (IQ.out _))))
        go_wp2_with fail
        go_ret
        exact ⟨.mk 1 rfl (fun h => by cases h) (.inr (.inl rfl)), HQ.out _⟩
      · go_enter Tryz.func24, Tryz.ntmps24
        go_wp2_with fail
        rw [← HWA.out]
        go_region_held3 (fun W => W.cell? ⟨w.heap.size, 2, none⟩ = some (.string s) ∧ Below wa.heap.size wa W)
          (first | (with_reducible assumption) | (with_reducible exact K0) | (with_reducible exact KA))
          (first
            | (go_at_call 39; with_reducible refine (IC.out _ ?_).mono ?_; (first | (with_reducible assumption) | (with_reducible exact K0) | (with_reducible exact KA)); rintro e w10 ⟨rfl, hs10⟩)
            | (go_at_call 41; with_reducible refine (KC.out _ ?_).mono ?_; (first | (with_reducible assumption) | (with_reducible exact K0) | (with_reducible exact KA)); rintro e w11 ⟨v11, R11, rfl, ho11, hl11, hm11, hs11⟩)
            | (go_at_call 40; with_reducible refine (HC.out _ _ _ _ w hs11 hl11 ho11).mono ?_; rintro e w12 ⟨rfl, hs12⟩))
        all_goals
          have HB12 := Lib.hid (HB.out.trans (below_le' hs12.2 HB.out.size))
          obtain ⟨hb, hhb⟩ : ∃ hb, hb = holdsB R11 s := ⟨_, rfl⟩
          rw [← hhb]
          have HHB := Lib.hid hhb
          clear hs10 hs11 hs12 hhb
          cases hb
          · have HOK := Lib.hid (show NamedOk 2 s from ⟨fun _ => .inl (nameB_ok HNB.out.symm hm11.out HHB.out.symm), fun h => by cases h⟩)
            go_wp2_with fail
            go_ret
            exact ⟨.mk 0 rfl (fun _ => HOK.out) (.inl rfl), HB12.out⟩
          · go_wp2_with fail
            go_ret
            exact ⟨.mk 1 rfl (fun h => by cases h) (.inr (.inl rfl)), HB12.out⟩
    · clear es
      cases nb
      · go_enter Tryz.func24, Tryz.ntmps24
        go_wp2_with fail
        rw [← HWA.out]
        rw [← HWA.out] at v2
        go_quiet ((first | (go_at_call 39; exact quietR (IQ.out _)) | (go_at_call 39; exact quietR_add (IQ.out _))))
        go_wp2_with fail
        go_ret
        exact ⟨.mk 1 rfl (fun h => by cases h) (.inr (.inl rfl)), HQ.out _⟩
      · go_enter Tryz.func24, Tryz.ntmps24
        go_wp2_with fail
        rw [← HWA.out]
        go_region_held3 (fun W => W.cell? ⟨w.heap.size, 2, none⟩ = some (.string s) ∧ Below wa.heap.size wa W)
          (first | (with_reducible assumption) | (with_reducible exact K0) | (with_reducible exact KA))
          (first
            | (go_at_call 39; with_reducible refine (IC.out _ ?_).mono ?_; (first | (with_reducible assumption) | (with_reducible exact K0) | (with_reducible exact KA)); rintro e w10 ⟨rfl, hs10⟩)
            | (go_at_call 41; with_reducible refine (KC.out _ ?_).mono ?_; (first | (with_reducible assumption) | (with_reducible exact K0) | (with_reducible exact KA)); rintro e w11 ⟨v11, R11, rfl, ho11, hl11, hm11, hs11⟩)
            | (go_at_call 40; with_reducible refine (HC.out _ _ _ _ w hs11 hl11 ho11).mono ?_; rintro e w12 ⟨rfl, hs12⟩))
        all_goals
          have HB12 := Lib.hid (HB.out.trans (below_le' hs12.2 HB.out.size))
          obtain ⟨hb, hhb⟩ : ∃ hb, hb = holdsB R11 s := ⟨_, rfl⟩
          rw [← hhb]
          have HHB := Lib.hid hhb
          clear hs10 hs11 hs12 hhb
          cases hb
          · have HOK := Lib.hid (show NamedOk 24 s from ⟨fun _ => .inl (nameB_ok HNB.out.symm hm11.out HHB.out.symm), fun h => by cases h⟩)
            go_wp2_with fail
            go_ret
            exact ⟨.mk 0 rfl (fun _ => HOK.out) (.inl rfl), HB12.out⟩
          · go_wp2_with fail
            go_ret
            exact ⟨.mk 1 rfl (fun h => by cases h) (.inr (.inl rfl)), HB12.out⟩
    · clear es
      cases nb
      · go_enter Tryz.func24, Tryz.ntmps24
        go_wp2_with fail
        rw [← HWA.out]
        rw [← HWA.out] at v2
        go_quiet ((first | (go_at_call 39; exact quietR (IQ.out _)) | (go_at_call 39; exact quietR_add (IQ.out _))))
        go_wp2_with fail
        go_ret
        exact ⟨.mk 1 rfl (fun h => by cases h) (.inr (.inl rfl)), HQ.out _⟩
      · go_enter Tryz.func24, Tryz.ntmps24
        go_wp2_with fail
        rw [← HWA.out]
        go_region_held3 (fun W => W.cell? ⟨w.heap.size, 2, none⟩ = some (.string s) ∧ Below wa.heap.size wa W)
          (first | (with_reducible assumption) | (with_reducible exact K0) | (with_reducible exact KA))
          (first
            | (go_at_call 39; with_reducible refine (IC.out _ ?_).mono ?_; (first | (with_reducible assumption) | (with_reducible exact K0) | (with_reducible exact KA)); rintro e w10 ⟨rfl, hs10⟩)
            | (go_at_call 41; with_reducible refine (KC.out _ ?_).mono ?_; (first | (with_reducible assumption) | (with_reducible exact K0) | (with_reducible exact KA)); rintro e w11 ⟨v11, R11, rfl, ho11, hl11, hm11, hs11⟩)
            | (go_at_call 40; with_reducible refine (HC.out _ _ _ _ w hs11 hl11 ho11).mono ?_; rintro e w12 ⟨rfl, hs12⟩))
        all_goals
          have HB12 := Lib.hid (HB.out.trans (below_le' hs12.2 HB.out.size))
          obtain ⟨hb, hhb⟩ : ∃ hb, hb = holdsB R11 s := ⟨_, rfl⟩
          rw [← hhb]
          have HHB := Lib.hid hhb
          clear hs10 hs11 hs12 hhb
          cases hb
          · have HOK := Lib.hid (show NamedOk 42 s from ⟨fun _ => .inl (nameB_ok HNB.out.symm hm11.out HHB.out.symm), fun h => by cases h⟩)
            go_wp2_with fail
            go_ret
            exact ⟨.mk 0 rfl (fun _ => HOK.out) (.inl rfl), HB12.out⟩
          · go_wp2_with fail
            go_ret
            exact ⟨.mk 1 rfl (fun h => by cases h) (.inr (.inl rfl)), HB12.out⟩
    · clear es
      cases nb
      · go_enter Tryz.func24, Tryz.ntmps24
        go_wp2_with fail
        rw [← HWA.out]
        rw [← HWA.out] at v2
        go_quiet ((first | (go_at_call 39; exact quietR (IQ.out _)) | (go_at_call 39; exact quietR_add (IQ.out _))))
        go_wp2_with fail
        go_ret
        exact ⟨.mk 1 rfl (fun h => by cases h) (.inr (.inl rfl)), HQ.out _⟩
      · go_enter Tryz.func24, Tryz.ntmps24
        go_wp2_with fail
        rw [← HWA.out]
        go_region_held3 (fun W => W.cell? ⟨w.heap.size, 2, none⟩ = some (.string s) ∧ Below wa.heap.size wa W)
          (first | (with_reducible assumption) | (with_reducible exact K0) | (with_reducible exact KA))
          (first
            | (go_at_call 39; with_reducible refine (IC.out _ ?_).mono ?_; (first | (with_reducible assumption) | (with_reducible exact K0) | (with_reducible exact KA)); rintro e w10 ⟨rfl, hs10⟩)
            | (go_at_call 41; with_reducible refine (KC.out _ ?_).mono ?_; (first | (with_reducible assumption) | (with_reducible exact K0) | (with_reducible exact KA)); rintro e w11 ⟨v11, R11, rfl, ho11, hl11, hm11, hs11⟩)
            | (go_at_call 40; with_reducible refine (HC.out _ _ _ _ w hs11 hl11 ho11).mono ?_; rintro e w12 ⟨rfl, hs12⟩))
        all_goals
          have HB12 := Lib.hid (HB.out.trans (below_le' hs12.2 HB.out.size))
          obtain ⟨hb, hhb⟩ : ∃ hb, hb = holdsB R11 s := ⟨_, rfl⟩
          rw [← hhb]
          have HHB := Lib.hid hhb
          clear hs10 hs11 hs12 hhb
          cases hb
          · have HOK := Lib.hid (show NamedOk 43 s from ⟨fun _ => .inl (nameB_ok HNB.out.symm hm11.out HHB.out.symm), fun h => by cases h⟩)
            go_wp2_with fail
            go_ret
            exact ⟨.mk 0 rfl (fun _ => HOK.out) (.inl rfl), HB12.out⟩
          · go_wp2_with fail
            go_ret
            exact ⟨.mk 1 rfl (fun h => by cases h) (.inr (.inl rfl)), HB12.out⟩
    · rcases es with ⟨e1_, e2_, e3_⟩ | ⟨e1_, e2_, e3_⟩
      · have HOK := Lib.hid (show NamedOk 50 s from ⟨fun _ => .inr ⟨rfl, e3_⟩, fun h => by cases h⟩)
        go_enter Tryz.func24, Tryz.ntmps24
        go_wp2_with fail
        rw [← HWA.out]
        rw [← HWA.out] at v2
        go_quiet (fail)
        go_wp2_with fail
        go_ret
        exact ⟨.mk 0 rfl (fun _ => HOK.out) (.inl rfl), HQ.out _⟩
      · cases nb
        · go_enter Tryz.func24, Tryz.ntmps24
          go_wp2_with fail
          rw [← HWA.out]
          rw [← HWA.out] at v2
          go_quiet ((first | (go_at_call 39; exact quietR (IQ.out _)) | (go_at_call 39; exact quietR_add (IQ.out _))))
          go_wp2_with fail
          go_ret
          exact ⟨.mk 1 rfl (fun h => by cases h) (.inr (.inl rfl)), HQ.out _⟩
        · go_enter Tryz.func24, Tryz.ntmps24
          go_wp2_with fail
          rw [← HWA.out]
          go_region_held3 (fun W => W.cell? ⟨w.heap.size, 2, none⟩ = some (.string s) ∧ Below wa.heap.size wa W)
            (first | (with_reducible assumption) | (with_reducible exact K0) | (with_reducible exact KA))
            (first
              | (go_at_call 39; with_reducible refine (IC.out _ ?_).mono ?_; (first | (with_reducible assumption) | (with_reducible exact K0) | (with_reducible exact KA)); rintro e w10 ⟨rfl, hs10⟩)
              | (go_at_call 41; with_reducible refine (KC.out _ ?_).mono ?_; (first | (with_reducible assumption) | (with_reducible exact K0) | (with_reducible exact KA)); rintro e w11 ⟨v11, R11, rfl, ho11, hl11, hm11, hs11⟩)
              | (go_at_call 40; with_reducible refine (HC.out _ _ _ _ w hs11 hl11 ho11).mono ?_; rintro e w12 ⟨rfl, hs12⟩))
          all_goals
            have HB12 := Lib.hid (HB.out.trans (below_le' hs12.2 HB.out.size))
            obtain ⟨hb, hhb⟩ : ∃ hb, hb = holdsB R11 s := ⟨_, rfl⟩
            rw [← hhb]
            have HHB := Lib.hid hhb
            clear hs10 hs11 hs12 hhb
            cases hb
            · have HOK := Lib.hid (show NamedOk 50 s from ⟨fun _ => .inl (nameB_ok HNB.out.symm hm11.out HHB.out.symm), fun h => by cases h⟩)
              go_wp2_with fail
              go_ret
              exact ⟨.mk 0 rfl (fun _ => HOK.out) (.inl rfl), HB12.out⟩
            · go_wp2_with fail
              go_ret
              exact ⟨.mk 1 rfl (fun h => by cases h) (.inr (.inl rfl)), HB12.out⟩
  · have hno : (namedP op) = (false, false) := by unfold namedP; rw [if_neg (by omega), if_neg (by omega)]
    have n2 := beq_no (show op ≠ 2 by omega)
    have n24 := beq_no (show op ≠ 24 by omega)
    have n42 := beq_no (show op ≠ 42 by omega)
    have n43 := beq_no (show op ≠ 43 by omega)
    have n50 := beq_no (show op ≠ 50 by omega)
    have HNO := Lib.hid hno
    clear ho hno K0 KA
    rcases es with ⟨e1_, e2_, e3_⟩ | ⟨e1_, e2_, e3_⟩
    · have HOK := Lib.hid (show NamedOk op s from ⟨fun h => (by rw [HNO.out] at h; cases h), fun _ => e3_⟩)
      go_enter Tryz.func24, Tryz.ntmps24
      go_wp2_with fail
      rw [← HWA.out]
      go_ret
      exact ⟨.mk 0 rfl (fun _ => HOK.out) (.inl rfl), HB.out⟩
    · go_enter Tryz.func24, Tryz.ntmps24
      go_wp2_with fail
      rw [← HWA.out]
      go_ret
      exact ⟨.mk 2 rfl (fun h => by cases h) (.inr (.inr rfl)), HB.out⟩
end Go.Proofs.YtgmnbdfbbcpciaaGreatDoor
namespace Go.Proofs.YtgmnbdfbbcpciaaGreatDoor
open Go.RowKit Go.Lib
set_option linter.unusedVariables false

theorem rp_at {w : World} {l : VL} {A : Option Addr} {S : Nat → Prop} {i : Nat} (h : RpL w S l A) (hi : i < l.len) : ∃ (b o : Nat) (k n : Int) (s : ByteArray) (sub : VL) (sa : Option Addr) (sc : Nat), A = some ⟨b, o, none⟩ ∧ l.drop i = .cons k n s sub (l.drop (i + 1)) ∧ S b ∧
    w.cell? ⟨b, o + i * 4, none⟩ = some (.int .i64 k) ∧ w.cell? ⟨b, o + i * 4 + 1, none⟩ = some (.int .i64 n) ∧ w.cell? ⟨b, o + i * 4 + 2, none⟩ = some (.string s) ∧ w.cell? ⟨b, o + i * 4 + 3, none⟩ = some (.slice sa sub.len sc) ∧ sub.len ≤ sc ∧ RpL w S sub sa ∧ sub.size < l.size := by
  obtain ⟨k, n, s, sub, hd⟩ := VL.drop_of_lt i l hi
  obtain ⟨b, o, hA⟩ : ∃ b o, A = some ⟨b, o, none⟩ := by
    cases l with
    | nil => simp [VL.len] at hi
    | cons _ _ _ _ _ => obtain ⟨b, o, _, _, h, _⟩ := h; exact ⟨b, o, h⟩
  subst hA
  have hdr := RpL.drop i l b o h
  rw [hd] at hdr
  obtain ⟨b', o', sa', sc', hA, hSb, c0, c1, c2, c3, hcl, hrs, _⟩ := hdr
  injection hA with hA
  injection hA with hA1 hA2
  subst hA1
  subst hA2
  have hszd := VL.size_drop i l
  rw [hd] at hszd
  simp only [VL.size] at hszd
  rw [Nat.mul_comm 4 i] at c0 c1 c2 c3
  exact ⟨b, o, k, n, s, sub, sa', sc', rfl, hd, hSb, c0, c1, c2, c3, hcl, hrs, by omega⟩

set_option maxRecDepth 100000 in
set_option maxHeartbeats 4000000 in
theorem sames_step (N : Nat) (ih : ∀ N', N' < N → SamesC N') : SamesC N := by
  intro la lb sa sb ca cb w hN hl1 hl2 hf1 hf2 hc1 hc2 hr1 hr2
  by_cases hlen : la.len = lb.len
  · have hle : ((la.len : Int) != (lb.len : Int)) = false := by simp; omega
    have R1 := Lib.hid hr1
    have R2 := Lib.hid hr2
    have HL := Lib.hid hlen
    clear hr1 hr2 hlen
    go_enter Tryz.func37, Tryz.ntmps37
    go_wp2_with fail
    go_loopg [5] la.len (fun kk v wr => ∃ i : Nat, v = .int .i64 i ∧ i + kk = la.len ∧ Hid (Below w.heap.size w wr) ∧ Hid (sameL (la.drop i) (lb.drop i) = sameL la lb))
    case atStart => exact ⟨0, rfl, by omega, Below.refl _ _, by show sameL (la.drop 0) (lb.drop 0) = _; rw [VL.drop, VL.drop]⟩
    case round =>
      obtain ⟨i, rfl, hik, hbr, hsm⟩ := hrel
      by_cases hi : i < la.len
      · obtain ⟨g, rfl⟩ : ∃ g, gk = g + 1 := ⟨gk - 1, by omega⟩
        have hi2 : i < lb.len := by have := HL.out; omega
        have hz := hbr.out.size
        obtain ⟨b, o, k1, n1, s1, x1, xa1, xc1, hA1, hd1, hSb1, c0, c1, c2, c3, hcl1, hrs1, hsz1⟩ := rp_at (R1.out.keep (w' := wr) (fun b hb => hbr.out.block b hb) (fun b hb => hb)) hi
        obtain ⟨b', o', k2, n2, s2, x2, xa2, xc2, hA2, hd2, hSb2, e0, e1, e2, e3, hcl2, hrs2, hsz2⟩ := rp_at (R2.out.keep (w' := wr) (fun b hb => hbr.out.block b hb) (fun b hb => hb)) hi2
        have hfd1 := VL.fit_drop i la hf1
        rw [hd1] at hfd1
        have hfd2 := VL.fit_drop i lb hf2
        rw [hd2] at hfd2
        have SV := Lib.hid (sameV_of k1 n1 s1 x1 xa1 xc1 k2 n2 s2 x2 xa2 xc2 wr.drew (ih _ (by omega)) ⟨hfd1.1, hfd1.2.1, hfd1.2.2.1, trivial⟩ ⟨hfd2.1, hfd2.2.1, hfd2.2.2.1, trivial⟩ hcl1 hcl2 (RpL.keep (w := wr) (w' := wr.drew) (S := fun b => b < w.heap.size) (S' := fun b => b < wr.drew.heap.size) (fun b hb => rfl) (fun b hb => Nat.lt_of_lt_of_le hb hz) _ _ hrs1) (RpL.keep (w := wr) (w' := wr.drew) (S := fun b => b < w.heap.size) (S' := fun b => b < wr.drew.heap.size) (fun b hb => rfl) (fun b hb => Nat.lt_of_lt_of_le hb hz) _ _ hrs2))
        have HD := Lib.hid (sameL_drop hd1 hd2)
        have HA1 := Lib.hid hA1
        have HA2 := Lib.hid hA2
        subst hA1
        subst hA2
        obtain ⟨q, hq⟩ : ∃ q, q = same1 k1 n1 s1 x1 k2 n2 s2 x2 := ⟨_, rfl⟩
        rw [← hq] at SV HD
        have d0 : wr.drew.cell? ⟨b, o + i * 4, none⟩ = _ := c0
        have d1 : wr.drew.cell? ⟨b, o + i * 4 + 1, none⟩ = _ := c1
        have d2 : wr.drew.cell? ⟨b, o + i * 4 + 2, none⟩ = _ := c2
        have d3 : wr.drew.cell? ⟨b, o + i * 4 + 3, none⟩ = _ := c3
        have f0 : wr.drew.cell? ⟨b', o' + i * 4, none⟩ = _ := e0
        have f1 : wr.drew.cell? ⟨b', o' + i * 4 + 1, none⟩ = _ := e1
        have f2 : wr.drew.cell? ⟨b', o' + i * 4 + 2, none⟩ = _ := e2
        have f3 : wr.drew.cell? ⟨b', o' + i * 4 + 3, none⟩ = _ := e3
        clear hq hd1 hd2 hrs1 hrs2 hfd1 hfd2
        go_wp2_with fail
        go_still_tail 8, (by kernel_rfl)
        change wpList _ _ _ _ _ wr.drew
        go_wp2_with fail
        refine SV.out.mono ?_
        rintro e w5 ⟨rfl, hb5⟩
        have HB5 := Lib.hid (show Below w.heap.size w w5 from (hbr.out.drew).trans (below_le' hb5 hz))
        clear hb5 c0 c1 c2 c3 e0 e1 e2 e3 d0 d1 d2 d3 f0 f1 f2 f3
        cases q with
        | true =>
          go_wp2_with fail
          go_roundg g
          case measure => omega
          case rel => exact ⟨i + 1, by go_num, by omega, HB5, by show sameL _ _ = _; rw [← hsm.out, HD.out, Bool.true_and]⟩
        | false =>
          go_wp2_with fail
          go_ret
          exact ⟨ret_bool (by rw [← hsm.out, HD.out, Bool.false_and]), HB5.out⟩
      · obtain rfl : i = la.len := by omega
        have HF := Lib.hid (show sameL la lb = true by rw [← hsm.out, VL.drop_len, HL.out, VL.drop_len]; rfl)
        go_wp2_with fail
        go_ret
        exact ⟨ret_bool HF.out.symm, hbr.out⟩
  · have hle : ((la.len : Int) != (lb.len : Int)) = true := by simp; omega
    have HF := Lib.hid (sameL_len la lb hlen)
    clear hlen hr1 hr2
    go_enter Tryz.func37, Tryz.ntmps37
    go_wp2_with fail
    go_ret
    exact ⟨ret_bool HF.out.symm, Below.refl _ _⟩

theorem sames_c (N : Nat) : SamesC N := by
  induction N using Nat.strongRecOn with
  | _ N ih => exact sames_step N ih
/-- SameValue, for any two values. -/
theorem sameV_c (k n : Int) (s : ByteArray) (a : VL) (sa : Option Addr) (ca : Nat) (k' n' : Int) (s' : ByteArray) (a' : VL) (sa' : Option Addr) (ca' : Nat) (w : World)
    (hf : (val1 k n s a).fit) (hf' : (val1 k' n' s' a').fit) (hc : a.len ≤ ca) (hc' : a'.len ≤ ca') (hr : RpL w (fun b => b < w.heap.size) a sa) (hr' : RpL w (fun b => b < w.heap.size) a' sa') :
    Calls Tryz.prog 22 #[.agg #[.int .i64 k, .int .i64 n, .string s, .slice sa a.len ca], .agg #[.int .i64 k', .int .i64 n', .string s', .slice sa' a'.len ca']] w fun e w' => e = .returned (.bool (same1 k n s a k' n' s' a')) ∧ Below w.heap.size w w' :=
  sameV_of k n s a sa ca k' n' s' a' sa' ca' w (sames_c _) hf hf' hc hc' hr hr'
end Go.Proofs.YtgmnbdfbbcpciaaGreatDoor
namespace Go.Proofs.YtgmnbdfbbcpciaaGreatDoor
open Go.Lib

/-- Nothing is amiss with a node that stands so, whatever loop it stands in, as far as the reference knows. -/
def FineAt (op : Int) (s : ByteArray) (k n : Int) (t : ByteArray) (v : VL) (sub : NL) (role : Nat) (loopR : Bool) : Prop :=
  ∀ loop : Bool, loopR = loop ∨ role ≤ 5 → ownN op s k n t v sub.len role loop = 0 ∧ walkN sub (subRole op sub.len role loop) 0 = none
/-- What the reference finds of a value. -/
def valOkB (op k n : Int) (t : ByteArray) (v : VL) : Bool := if op = 1 then rightB k n t v && (k != 4) && ((k != 0) || (n != -9223372036854775808)) else same1 k n t v 0 0 ⟨#[]⟩ .nil
def loopRB (op : Int) (loopR : Bool) : Bool := if op = 42 ∨ op = 43 ∨ op = 44 then true else if op = 48 then false else loopR

def awB (op : Int) (loopR : Bool) : Bool := (op == 45 || op == 46) && !loopR

theorem stands_le5 {op : Int} {role : Nat} (h : standsP op role = true) (hr : role ≤ 5) : 1 ≤ op ∧ op ≤ 29 := by
  rcases (show role = 0 ∨ role = 1 ∨ role = 2 ∨ role = 3 ∨ role = 4 ∨ role = 5 by omega) with rfl | rfl | rfl | rfl | rfl | rfl <;> simp [standsP, isExpr] at h <;> omega
theorem walk_of_kids : ∀ (l : NL) (f : Nat → Nat × Bool) (j : Nat), (∀ i, i < l.len → ∀ (op ln : Int) (s : ByteArray) (k n : Int) (t : ByteArray) (v : VL) (sub : NL), l.drop i = .cons op ln s k n t v sub (l.drop (i + 1)) →
    ownN op s k n t v sub.len (f (j + i)).1 (f (j + i)).2 = 0 ∧ walkN sub (subRole op sub.len (f (j + i)).1 (f (j + i)).2) 0 = none) → walkN l f j = none
  | .nil, _, _, _ => rfl
  | .cons op ln s k n t v sub r, f, j, h => by
    obtain ⟨h1, h2⟩ := h 0 (by rw [NL.len]; omega) op ln s k n t v sub rfl
    rw [Nat.add_zero] at h1 h2
    have hr := walk_of_kids r f (j + 1) (fun i hi op ln s k n t v sub hd => by
      have := h (i + 1) (by rw [NL.len]; omega) op ln s k n t v sub (by rw [NL.drop, NL.drop]; exact hd)
      rw [show j + 1 + i = j + (i + 1) from by omega]; exact this)
    rw [walkN, if_neg (by omega), h2]
    exact hr
theorem loop_kid {op : Int} {m role i : Nat} {loop loopR : Bool} (hc : loopR = loop ∨ role ≤ 5) (hs : standsP op role = true) (hr : (rolesP op m).2 = true) (h8 : role ≤ 8) :
    loopRB op loopR = (subRole op m role loop i).2 ∨ (subRole op m role false i).1 ≤ 5 := by
  by_cases h5 : role ≤ 5
  · exact .inr (sub_role_le h5 (stands_le5 hs h5) hr i)
  have hl : loopR = loop := hc.resolve_right h5
  subst hl
  by_cases hk : (subRole op m role false i).1 ≤ 5
  · exact .inr hk
  left
  have e2 : (subRole op m role loopR i).2 = ((loopR && op != 48) || (loopsP op && (subRole op m role false i).1 == 6)) := rfl
  have e1 : (subRole op m role false i).1 = (rolesP op m).1.getD i 0 := by
    show (if role = 5 then 0 else if role = 2 ∧ op = 20 ∧ i = 0 then 2 else if role = 4 ∧ op = 26 then 3 else (rolesP op m).1.getD i 0) = _
    rw [if_neg (by omega), if_neg (by omega), if_neg (by omega)]
  rw [e2]
  rw [e1] at hk ⊢
  unfold loopRB
  by_cases h1 : op = 42 ∨ op = 43 ∨ op = 44
  · rw [if_pos h1]
    have h6 : (rolesP op m).1.getD i 0 = 6 := by
      rcases h1 with rfl | rfl | rfl
      · revert hk; show ¬ ([0, 6] : List Nat).getD i 0 ≤ 5 → ([0, 6] : List Nat).getD i 0 = 6
        match i with
        | 0 => intro h; exact absurd (show (0 : Nat) ≤ 5 by decide) h
        | 1 => intro _; rfl
        | _ + 2 => intro h; exact absurd (show (0 : Nat) ≤ 5 by decide) h
      · revert hk; show ¬ ([0, 0, 6] : List Nat).getD i 0 ≤ 5 → ([0, 0, 6] : List Nat).getD i 0 = 6
        match i with
        | 0 => intro h; exact absurd (show (0 : Nat) ≤ 5 by decide) h
        | 1 => intro h; exact absurd (show (0 : Nat) ≤ 5 by decide) h
        | 2 => intro _; rfl
        | _ + 3 => intro h; exact absurd (show (0 : Nat) ≤ 5 by decide) h
      · revert hk; show ¬ ([0, 6] : List Nat).getD i 0 ≤ 5 → ([0, 6] : List Nat).getD i 0 = 6
        match i with
        | 0 => intro h; exact absurd (show (0 : Nat) ≤ 5 by decide) h
        | 1 => intro _; rfl
        | _ + 2 => intro h; exact absurd (show (0 : Nat) ≤ 5 by decide) h
    rw [h6]
    have hlp : loopsP op = true := by rcases h1 with rfl | rfl | rfl <;> rfl
    rw [hlp]; simp
  · rw [if_neg h1]
    have hlp : loopsP op = false := by
      unfold loopsP
      rw [Bool.or_eq_false_iff, Bool.or_eq_false_iff]
      exact ⟨⟨beq_eq_false_iff_ne.2 (by omega), beq_eq_false_iff_ne.2 (by omega)⟩, beq_eq_false_iff_ne.2 (by omega)⟩
    rw [hlp, Bool.false_and, Bool.or_false]
    by_cases h48 : op = 48
    · rw [if_pos h48, h48]; simp
    · rw [if_neg h48, bne_iff_ne.2 h48]; simp

/-- All that the reference asks of a node, and of what it has. -/
theorem fine_of {op : Int} {s : ByteArray} {k n : Int} {t : ByteArray} {v : VL} {sub : NL} {role : Nat} {loopR : Bool} (hs : standsP op role = true) (hc : countsP op sub.len = true) (hv : valOkB op k n t v = true) (haw : awB op loopR = false) (h8 : role ≤ 8)
    (h3 : (namedP op).1 = true → nameB s = true ∨ ((namedP op).2 = true ∧ s.size = 0)) (h4 : (namedP op).1 = false → s.size = 0)
    (hk : ∀ j, j < sub.len → ∀ (op' ln' : Int) (s' : ByteArray) (k' n' : Int) (t' : ByteArray) (v' : VL) (sub' : NL), sub.drop j = .cons op' ln' s' k' n' t' v' sub' (sub.drop (j + 1)) → FineAt op' s' k' n' t' v' sub' (subRole op sub.len role false j).1 (loopRB op loopR)) :
    FineAt op s k n t v sub role loopR := by
  intro loop hcond
  have hr := counts_roles (ops_of hs) hc
  refine ⟨own_ref hs hc (fun ho => ?_) (fun h1 => ?_) (fun h1 => ?_) h3 h4, ?_⟩
  · have hl : loopR = true := by
      have ho2 : (op == 45 || op == 46) = true := by rcases ho with h | h <;> rw [h] <;> rfl
      unfold awB at haw
      rw [ho2, Bool.true_and] at haw
      cases loopR
      · cases haw
      · rfl
    rcases hcond with h | h
    · rw [← h]; exact hl
    · have := stands_le5 hs h
      omega
  · unfold valOkB at hv
    rw [if_pos h1] at hv
    simp only [Bool.and_eq_true, Bool.or_eq_true, bne_iff_ne, ne_eq] at hv
    exact ⟨hv.1.1, hv.1.2, hv.2⟩
  · unfold valOkB at hv
    rw [if_neg h1] at hv
    exact hv
  · refine walk_of_kids sub _ 0 (fun i hi op' ln' s' k' n' t' v' sub' hd => ?_)
    rw [Nat.zero_add]
    exact hk i hi op' ln' s' k' n' t' v' sub' hd _ (loop_kid hcond hs hr h8)
end Go.Proofs.YtgmnbdfbbcpciaaGreatDoor
namespace Go.Proofs.YtgmnbdfbbcpciaaGreatDoor
open Go.RowKit Go.Lib
set_option linter.unusedVariables false

theorem heap_rowSet (w : World) (g k : Nat) (cells : Array Value) (h : k ≠ g) : (w.setRow g cells).heap[k]? = w.heap[k]? := by
  unfold World.setRow
  simp [Array.getElem?_modify, Ne.symm h]
theorem below_rowSet {B : Nat} {w w' : World} (h : Below B w w') {g : Nat} (hg : B ≤ g) (cells : Array Value) : Below B w (w'.setRow g cells) :=
  ⟨h.os, h.tape, h.output, by have := h.size; unfold World.setRow; simpa using this, fun b hb => (heap_rowSet w' g b cells (by omega)).trans (h.block b hb)⟩
theorem stf_rowSet {w : World} {g : Nat} {a b c d e f k : Value} (H : StF w g a b c d e f k) (a' b' c' d' e' f' k' : Value) : StF (w.setRow g #[a', b', c', d', e', f', k']) g a' b' c' d' e' f' k' := by
  unfold StF at H ⊢
  exact setRow_heap w g _ _ _ _ H
theorem flt_one (c q : Int) (p : Bool) : (#[.int .i64 c, .bool p, .int .i64 q, .int .i64 0, .int .i64 0, .string ⟨#[]⟩, .slice none 0 0] : Array Value).all (·.oneCell') = true := by simp [Value.oneCell']
theorem flt_info : (Tryz.prog.info? 37).map (·.size) = some 7 := by kernel_rfl
end Go.Proofs.YtgmnbdfbbcpciaaGreatDoor
namespace Go.Proofs.YtgmnbdfbbcpciaaGreatDoor
open Go.RowKit Go.Lib
set_option linter.unusedVariables false

/-- A fault is handed back; if it is none, something is. -/
def RetF (e : Ending) (p : Prop) : Prop := ∃ (c : Int) (fp : Bool) (fq : Int), e = .returned (.agg #[.int .i64 c, .bool fp, .int .i64 fq, .int .i64 0, .int .i64 0, .string ⟨#[]⟩, .slice none 0 0]) ∧ (c = 0 → p)
theorem RetF.mk {e : Ending} {p : Prop} (c : Int) {fp : Bool} {fq : Int} (h : e = .returned (.agg #[.int .i64 c, .bool fp, .int .i64 fq, .int .i64 0, .int .i64 0, .string ⟨#[]⟩, .slice none 0 0])) (hp : c = 0 → p) : RetF e p := ⟨c, fp, fq, h, hp⟩

def badB (st ct vb r2 aw : Bool) : Bool := !st || !ct || !vb || r2 || aw
/-- Seven cells that were made ahead of a call. -/
theorem stf_drew {wq w5 : World} {a b c d e f g : Value} (h : Below ((wq.alloc (.cells #[a, b, c, d, e, f, g] 37)).drew).heap.size ((wq.alloc (.cells #[a, b, c, d, e, f, g] 37)).drew) w5) : StF w5 wq.heap.size a b c d e f g :=
  (show StF ((wq.alloc (.cells #[a, b, c, d, e, f, g] 37)).drew) wq.heap.size a b c d e f g from StF.new wq a b c d e f g).below h
theorem stf_new {wq w5 : World} {a b c d e f g : Value} (h : Below (wq.alloc (.cells #[a, b, c, d, e, f, g] 37)).heap.size (wq.alloc (.cells #[a, b, c, d, e, f, g] 37)) w5) : StF w5 wq.heap.size a b c d e f g :=
  (StF.new wq a b c d e f g).below h
theorem badB_no {st ct vb r2 aw : Bool} (h : badB st ct vb r2 aw = false) : st = true ∧ ct = true ∧ vb = true ∧ r2 = false ∧ aw = false := by
  revert h
  cases st <;> cases ct <;> cases vb <;> cases r2 <;> cases aw <;> decide
theorem plc_nat (r : Nat) : ((plc r : Nat) : Int) = (plc r : Int) := rfl
def OddRC (N : Nat) : Prop := ∀ (op ln : Int) (s : ByteArray) (k n : Int) (t : ByteArray) (v : VL) (va : Option Addr) (vc : Nat) (sub : NL) (sa : Option Addr) (sc : Nat) (role : Nat) (loopR : Bool) (w : World), sub.tot < N →
  s.size ≤ 140737488351232 → t.size ≤ 140737488351232 → v.len ≤ 140737488351232 → v.fit → v.len ≤ vc → sub.len ≤ 140737488351232 → sub.fit → sub.len ≤ sc → role ≤ 8 → RpL w (fun b => b < w.heap.size) v va → RpN w (fun b => b < w.heap.size) sub sa →
  Calls Tryz.prog 16 #[.agg #[.int .i64 op, .int .i64 ln, .string s, .int .i64 k, .int .i64 n, .string t, .slice va v.len vc, .slice sa sub.len sc], .int .i64 (plc role : Int), .bool loopR] w
    fun e w' => RetF e (FineAt op s k n t v sub role loopR) ∧ Below w.heap.size w w'

set_option maxRecDepth 100000 in
set_option maxHeartbeats 8000000 in
theorem odd_rstep (N : Nat) (ih : ∀ N', N' < N → OddRC N') : OddRC N := by
  intro op ln s k n t v va vc sub sa sc role loopR w hN hs ht hl hf hvc hsl hsf hsc hr hv hsub
  obtain ⟨wa, hwa⟩ : ∃ wa, wa = (w.alloc (.cells #[.int .i64 op, .int .i64 ln, .string s, .int .i64 k, .int .i64 n, .string t, .slice va v.len vc, .slice sa sub.len sc] 33)).alloc (.cells #[.int .i64 0, .bool false, .int .i64 0, .int .i64 0, .int .i64 0, .string ⟨#[]⟩, .slice none 0 0] 37) := ⟨_, rfl⟩
  have hb : Below w.heap.size w wa := by rw [hwa]; exact ((Below.refl _ _).alloc (Nat.le_refl _) _).alloc (by simp) _
  have hzw : wa.heap.size = w.heap.size + 2 := by rw [hwa]; simp
  have hN1 : NdB wa w.heap.size (.int .i64 op) (.int .i64 ln) (.string s) (.int .i64 k) (.int .i64 n) (.string t) (.slice va v.len vc) (.slice sa sub.len sc) := by
    rw [hwa]
    have h := NdB.new w (.int .i64 op) (.int .i64 ln) (.string s) (.int .i64 k) (.int .i64 n) (.string t) (.slice va v.len vc) (.slice sa sub.len sc)
    exact h.below' ((Below.refl _ _).alloc (Nat.le_refl _) _)
  have hF1 : StF wa (w.heap.size + 1) (.int .i64 0) (.bool false) (.int .i64 0) (.int .i64 0) (.int .i64 0) (.string ⟨#[]⟩) (.slice none 0 0) := by
    rw [hwa]
    have h := StF.new (w.alloc (.cells #[.int .i64 op, .int .i64 ln, .string s, .int .i64 k, .int .i64 n, .string t, .slice va v.len vc, .slice sa sub.len sc] 33)) (.int .i64 0) (.bool false) (.int .i64 0) (.int .i64 0) (.int .i64 0) (.string ⟨#[]⟩) (.slice none 0 0)
    simpa using h
  have SV := Lib.hid (sameV_c k n t v va vc 0 0 ⟨#[]⟩ .nil none 0 wa ⟨ht, hl, hf, trivial⟩ ⟨Nat.zero_le _, Nat.zero_le _, trivial, trivial⟩ hvc (Nat.le_refl _) (hv.keep (fun b hlt => hb.block b hlt) (fun b hlt => Nat.lt_of_lt_of_le hlt hb.size)) trivial)
  have v0 := hN1.c0; have v1 := hN1.c1; have v2 := hN1.c2; have v3 := hN1.c3; have v4 := hN1.c4; have v5 := hN1.c5; have v6 := hN1.c6; have v7 := hN1.c7
  rw [hwa] at v0 v1 v2 v3 v4 v5 v6 v7
  have HN := Lib.hid hN1
  obtain ⟨G, hG⟩ : ∃ G, G = w.heap.size + 1 := ⟨_, rfl⟩
  rw [← hG] at hF1
  have hGle : w.heap.size ≤ G := by omega
  have HF := Lib.hid hF1
  have HB := Lib.hid hb
  have HWA := Lib.hid hwa
  have HV := Lib.hid hv
  have HS := Lib.hid hsub
  obtain ⟨sv, hsv⟩ : ∃ sv, sv = same1 k n t v 0 0 ⟨#[]⟩ .nil := ⟨_, rfl⟩
  rw [← hsv] at SV
  have HSV := Lib.hid hsv
  clear hb hN1 hF1 hwa hv hsub hsv
  go_enter Tryz.func16, Tryz.ntmps16
  go_wp2_with fail
  rw [← HWA.out, ← hG]
  refine SV.out.mono ?_
  rintro e w2 ⟨rfl, hb2⟩
  have HB2 := Lib.hid hb2
  have HN2 := Lib.hid (HN.out.below' hb2)
  have hz2 := hb2.size
  have x0 := HN2.out.c0; have x1 := HN2.out.c1; have x2 := HN2.out.c2; have x3 := HN2.out.c3; have x4 := HN2.out.c4; have x5 := HN2.out.c5; have x6 := HN2.out.c6; have x7 := HN2.out.c7
  have HV2 := Lib.hid ((HV.out.keep (w' := w2) (S' := fun b => b < w2.heap.size) (fun b hlt => (hb2.block b (by omega)).trans (HB.out.block b hlt)) (fun b hlt => by omega)))
  have HG0 := Lib.hid hG
  clear hb2 v0 v1 v2 v3 v4 v5 v6 v7 SV hG
  go_upto_if 18 with fail
  go_cut [7] (fun c wx => c = .bool (valOkB op k n t v) ∧ Hid (Below wa.heap.size wa wx))
  case first =>
    by_cases h1 : op = 1
    · have e1 : (op == 1) = true := by rw [h1]; rfl
      have RC := Lib.hid (right_c k n t v va vc w2 ⟨ht, hl, hf, trivial⟩ hvc HV2.out)
      obtain ⟨rb, hrb⟩ : ∃ rb, rb = rightB k n t v := ⟨_, rfl⟩
      have HVO := Lib.hid (show valOkB op k n t v = (rb && (k != 4) && ((k != 0) || (n != -9223372036854775808))) by unfold valOkB; rw [if_pos h1, hrb])
      rw [← hrb] at RC
      rw [e1]
      clear h1 e1 hrb HSV
      go_wp2_with fail
      refine RC.out.mono ?_
      rintro e w3 ⟨rfl, hb3⟩
      have HB3 := Lib.hid (HB2.out.trans (below_le' hb3 hz2))
      have HN3 := Lib.hid (HN2.out.below' hb3)
      have y3 := HN3.out.c3; have y4 := HN3.out.c4
      clear hb3 x0 x1 x2 x3 x4 x5 x6 x7
      cases rb
      · go_wp2_with fail
        go_meet
        exact ⟨by rw [HVO.out]; rfl, HB3.out⟩
      by_cases hk4 : k = 4
      · have b4 := bne_no hk4
        rw [b4] at HVO
        clear hk4
        go_wp2_with fail
        go_meet
        exact ⟨by rw [HVO.out]; rfl, HB3.out⟩
      have b4 := bne_yes hk4
      rw [b4] at HVO
      by_cases hk0 : k = 0
      · have b0 := bne_no hk0
        rw [b0] at HVO
        by_cases hn : n = -9223372036854775808
        · have bn := bne_no hn
          rw [bn] at HVO
          clear hk4 hk0 hn
          go_wp2_with fail
          go_meet
          exact ⟨by rw [HVO.out]; rfl, HB3.out⟩
        · have bn := bne_yes hn
          rw [bn] at HVO
          clear hk4 hk0 hn
          go_wp2_with fail
          go_meet
          exact ⟨by rw [HVO.out]; rfl, HB3.out⟩
      · have b0 := bne_yes hk0
        rw [b0] at HVO
        clear hk4 hk0
        go_wp2_with fail
        go_meet
        exact ⟨by rw [HVO.out]; rfl, HB3.out⟩
    · have e1 := beq_no h1
      have HVO := Lib.hid (show valOkB op k n t v = sv by unfold valOkB; rw [if_neg h1, HSV.out])
      rw [e1]
      clear h1 e1
      go_wp2_with fail
      go_meet
      exact ⟨by rw [HVO.out], HB2.out⟩
  case rest =>
    obtain ⟨rfl, hb3⟩ := hcut
    obtain ⟨w3, rfl⟩ : ∃ w3, w3 = wc := ⟨_, rfl⟩
    have HB3 := Lib.hid hb3.out
    have HN3 := Lib.hid (HN.out.below' hb3.out)
    have hz3 := hb3.out.size
    have y0 := HN3.out.c0; have y1 := HN3.out.c1; have y2 := HN3.out.c2; have y3 := HN3.out.c3; have y4 := HN3.out.c4; have y5 := HN3.out.c5; have y6 := HN3.out.c6; have y7 := HN3.out.c7
    have NC := Lib.hid (named_r op ln s k n t (.slice va v.len vc) (.slice sa sub.len sc) w3 hs)
    clear hb3 x0 x1 x2 x3 x4 x5 x6 x7
    go_upto_region 4 with fail
    go_wp2_with fail
    refine NC.out.mono ?_
    rintro e w4 ⟨⟨r, rfl, hr0, hr3⟩, hb4⟩
    have HB4 := Lib.hid (HB3.out.trans (below_le' hb4 hz3))
    have HN4 := Lib.hid (HN3.out.below' hb4)
    have HF4 := Lib.hid (HF.out.below HB4.out)
    have hz4 := HB4.out.size
    have z0 := HN4.out.c0; have z1 := HN4.out.c1; have z7 := HN4.out.c7
    have HR0 := Lib.hid hr0
    clear hb4 y0 y1 y2 y3 y4 y5 y6 y7 NC hr0
    go_upto_region 5 with fail
    go_cut [9] (fun c wx => c = .bool (awB op loopR) ∧ w4 = wx)
    case first =>
      by_cases h45 : op = 45
      · have e1 : (op == 45) = true := by rw [h45]; rfl
        have HA := Lib.hid (show awB op loopR = !loopR by unfold awB; rw [e1]; rfl)
        clear h45
        cases loopR
        all_goals
          go_wp2_with fail
          go_meet
          exact ⟨by rw [HA.out]; rfl, rfl⟩
      have e1 := beq_no h45
      by_cases h46 : op = 46
      · have e2 : (op == 46) = true := by rw [h46]; rfl
        have HA := Lib.hid (show awB op loopR = !loopR by unfold awB; rw [e1, e2]; rfl)
        clear h45 h46
        cases loopR
        all_goals
          go_wp2_with fail
          go_meet
          exact ⟨by rw [HA.out]; rfl, rfl⟩
      · have e2 := beq_no h46
        have HA := Lib.hid (show awB op loopR = false by unfold awB; rw [e1, e2]; rfl)
        clear h45 h46
        go_wp2_with fail
        go_meet
        exact ⟨by rw [HA.out], rfl⟩
    case rest =>
      obtain ⟨rfl, rfl⟩ := hcut
      obtain ⟨st, hst⟩ : ∃ st, st = standsP op role := ⟨_, rfl⟩
      obtain ⟨ct, hct⟩ : ∃ ct, ct = countsP op sub.len := ⟨_, rfl⟩
      obtain ⟨vb, hvb⟩ : ∃ vb, vb = valOkB op k n t v := ⟨_, rfl⟩
      obtain ⟨aw, haw⟩ : ∃ aw, aw = awB op loopR := ⟨_, rfl⟩
      obtain ⟨r2, hr2⟩ : ∃ r2, r2 = (r == 2) := ⟨_, rfl⟩
      rw [← hvb, ← haw]
      have SC := Lib.hid (fun W => stands_r op role hr W)
      rw [← hst] at SC
      have CC := Lib.hid (fun (h : st = true) W => counts_r op sub.len (ops_of (hst.symm.trans h)) hsl W)
      rw [← hct] at CC
      have HST := Lib.hid hst
      have HCT := Lib.hid hct
      have HVB := Lib.hid hvb
      have HAW := Lib.hid haw
      have HR2 := Lib.hid hr2
      have hrr := hr2.symm
      clear hst hct hvb haw hr2
      go_upto_region 6 with fail
      go_cut [78] (fun c wx => c = .bool (badB st ct vb r2 aw) ∧ w4 = wx)
      case first =>
        cases st
        · go_wp2_with fail
          refine (SC.out _).mono ?_
          rintro e w5 ⟨rfl, rfl⟩
          go_wp2_with fail
          go_meet
          exact ⟨rfl, rfl⟩
        have CT := Lib.hid (CC.out rfl)
        clear CC
        cases ct
        · go_wp2_with fail
          refine (SC.out _).mono ?_
          rintro e w5 ⟨rfl, rfl⟩
          go_wp2_with fail
          refine (CT.out _).mono ?_
          rintro e w5 ⟨rfl, rfl⟩
          go_wp2_with fail
          go_meet
          exact ⟨rfl, rfl⟩
        cases vb
        · go_wp2_with fail
          refine (SC.out _).mono ?_
          rintro e w5 ⟨rfl, rfl⟩
          go_wp2_with fail
          refine (CT.out _).mono ?_
          rintro e w5 ⟨rfl, rfl⟩
          go_wp2_with fail
          go_meet
          exact ⟨rfl, rfl⟩
        cases r2
        · go_wp2_with fail
          refine (SC.out _).mono ?_
          rintro e w5 ⟨rfl, rfl⟩
          go_wp2_with fail
          refine (CT.out _).mono ?_
          rintro e w5 ⟨rfl, rfl⟩
          go_wp2_with fail
          go_meet
          exact ⟨by first | rfl | (cases aw <;> rfl), rfl⟩
        · go_wp2_with fail
          refine (SC.out _).mono ?_
          rintro e w5 ⟨rfl, rfl⟩
          go_wp2_with fail
          refine (CT.out _).mono ?_
          rintro e w5 ⟨rfl, rfl⟩
          go_wp2_with fail
          go_meet
          exact ⟨rfl, rfl⟩
      case rest =>
        obtain ⟨rfl, rfl⟩ := hcut
        obtain ⟨bd, hbd⟩ : ∃ bd, bd = badB st ct vb r2 aw := ⟨_, rfl⟩
        rw [← hbd]
        have HBD := Lib.hid hbd
        clear hbd SC CC hrr
        cases bd
        · have hgood := badB_no HBD.out.symm
          have HG := Lib.hid hgood
          clear hgood HBD
          by_cases hr1 : r = 1
          · have e1 : (r == 1) = true := by rw [hr1]; rfl
            clear hr1
            have PC := Lib.hid (fun W => placed_c 106 ln (by decide) W)
            unfold fltV at PC
            go_wp2_with fail
            refine (PC.out _).mono ?_
            rintro e w5 ⟨rfl, hb5⟩
            have hs5 := HF4.out.below hb5
            have HB5 := Lib.hid (HB.out.trans (below_le' (HB4.out.trans (below_le' hb5 hz4)) HB.out.size))
            have HS5 := Lib.hid hs5
            clear hb5 hs5
            go_wp2_with (refine wpList_store_row rfl 37 (.tmp 6) (.tmp 86) rfl G #[.int .i64 106, .bool true, .int .i64 ln, .int .i64 0, .int .i64 0, .string ⟨#[]⟩, .slice none 0 0] rfl rfl _ _ HS5.out flt_info rfl (flt_one _ _ _) ?_
                         rename_i hKK
                         refine hKK _ _ (wp_ret ?_)
                         simp only [Exit.then]
                         refine ret_cell7 Tryz.results16 G rfl rfl (stf_rowSet HS5.out _ _ _ _ _ _ _) ?_
                         exact ⟨.mk 106 rfl (fun h => by cases h), below_rowSet HB5.out hGle _⟩)
          · have e1 := beq_no hr1
            have hr00 : r = 0 := by
              have h := HR2.out
              rw [HG.out.2.2.2.1] at h
              have : r ≠ 2 := fun e => by rw [e] at h; cases h
              omega
            have HNM := Lib.hid (HR0.out hr00)
            clear hr00 hr1
            go_upto_block 0 with fail
            go_cut [2] (fun c wx => c = .bool (loopRB op loopR) ∧ w4 = wx)
            case first =>
              by_cases h42 : op = 42
              · have e42 : (op == 42) = true := by rw [h42]; rfl
                have HL := Lib.hid (show loopRB op loopR = true by rw [h42]; rfl)
                clear h42
                go_wp2_with fail
                go_meet
                exact ⟨by rw [HL.out], rfl⟩
              have e42 := beq_no h42
              by_cases h43 : op = 43
              · have e43 : (op == 43) = true := by rw [h43]; rfl
                have HL := Lib.hid (show loopRB op loopR = true by rw [h43]; rfl)
                clear h43
                go_wp2_with fail
                go_meet
                exact ⟨by rw [HL.out], rfl⟩
              have e43 := beq_no h43
              by_cases h44 : op = 44
              · have e44 : (op == 44) = true := by rw [h44]; rfl
                have HL := Lib.hid (show loopRB op loopR = true by rw [h44]; rfl)
                clear h44
                go_wp2_with fail
                go_meet
                exact ⟨by rw [HL.out], rfl⟩
              have e44 := beq_no h44
              by_cases h48 : op = 48
              · have e48 : (op == 48) = true := by rw [h48]; rfl
                have HL := Lib.hid (show loopRB op loopR = false by rw [h48]; rfl)
                clear h48
                go_wp2_with fail
                go_meet
                exact ⟨by rw [HL.out], rfl⟩
              have e48 := beq_no h48
              have HL := Lib.hid (show loopRB op loopR = loopR by unfold loopRB; rw [if_neg (by omega), if_neg h48])
              clear h42 h43 h44 h48
              go_wp2_with fail
              go_meet
              exact ⟨by rw [HL.out], rfl⟩
            case rest =>
              obtain ⟨rfl, rfl⟩ := hcut
              obtain ⟨lpR, hlp⟩ : ∃ lpR, lpR = loopRB op loopR := ⟨_, rfl⟩
              rw [← hlp]
              have HLP := Lib.hid hlp
              clear hlp
              have HS4 := Lib.hid (show RpN w4 (fun b => b < w.heap.size) sub sa from HS.out.keep (fun b hlt => (HB4.out.block b (by omega)).trans (HB.out.block b hlt)) (fun b hlt => hlt))
              have HKM := Lib.hid (show ∀ i, i < sub.len → placeP op sub.len (plc role) i = plc (subRole op sub.len role false i).1 from fun i hi => place_eq (HST.out.symm.trans HG.out.1) (counts_roles (ops_of (HST.out.symm.trans HG.out.1)) (HCT.out.symm.trans HG.out.2.1)) hr hi)
              go_wp2_with fail
              go_loopg [10] sub.len (fun kk v wr => ∃ i : Nat, v = .int .i64 (i : Int) ∧ i + kk = sub.len ∧ Hid (Below w4.heap.size w4 wr) ∧ Hid (∀ j, j < i → ∀ (op' ln' : Int) (s' : ByteArray) (k' n' : Int) (t' : ByteArray) (v' : VL) (sub' : NL), sub.drop j = .cons op' ln' s' k' n' t' v' sub' (sub.drop (j + 1)) → FineAt op' s' k' n' t' v' sub' (subRole op sub.len role false j).1 lpR))
              case atStart => exact ⟨0, rfl, by omega, Below.refl _ _, fun j hj => absurd hj (Nat.not_lt_zero _)⟩
              case round =>
                obtain ⟨i, rfl, hik, hbr, hfine⟩ := hrel
                obtain ⟨wo, rfl⟩ : ∃ wo, wo = wr := ⟨_, rfl⟩
                have HNO := Lib.hid (HN4.out.below' hbr.out)
                have hzo := hbr.out.size
                have n7 := HNO.out.c7
                have HBO := Lib.hid hbr.out
                have HFN := Lib.hid hfine.out
                clear hbr hfine
                by_cases hi : i < sub.len
                · obtain ⟨g, rfl⟩ : ∃ g, gk = g + 1 := ⟨gk - 1, by omega⟩
                  obtain ⟨b, o, op', ln', s', k', n', t', v', sub', va', vc', sa', sc', hA, hSb, hd, c0, c1, c2, c3, c4, c5, c6, hvc', hv', c7, hsc', hs'⟩ := (HS4.out.below HBO.out (fun b hb => by omega)).nth hi
                  have hfd := NL.fit_drop i sub hsf
                  have htd := NL.tot_drop i sub
                  rw [hd] at hfd htd
                  simp only [NL.tot] at htd
                  obtain ⟨hf1, hf2, hf3, hf4, hf5, hf6, -⟩ := hfd
                  subst hA
                  obtain ⟨rI, hrI⟩ : ∃ rI, rI = (subRole op sub.len role false i).1 := ⟨_, rfl⟩
                  have hrle : rI ≤ 8 := by rw [hrI]; exact sub_role_le8 _ _ _ _ _
                  have hpl := HKM.out i hi
                  rw [← hrI] at hpl
                  obtain ⟨S, hS⟩ : ∃ S : World → Prop, S = (fun W => W.cell? ⟨b, o + i * 8, none⟩ = some (.int .i64 op') ∧ W.cell? ⟨b, o + i * 8 + 1, none⟩ = some (.int .i64 ln') ∧ W.cell? ⟨b, o + i * 8 + 2, none⟩ = some (.string s') ∧ W.cell? ⟨b, o + i * 8 + 3, none⟩ = some (.int .i64 k') ∧ W.cell? ⟨b, o + i * 8 + 4, none⟩ = some (.int .i64 n') ∧ W.cell? ⟨b, o + i * 8 + 5, none⟩ = some (.string t') ∧ W.cell? ⟨b, o + i * 8 + 6, none⟩ = some (.slice va' v'.len vc') ∧ W.cell? ⟨b, o + i * 8 + 7, none⟩ = some (.slice sa' sub'.len sc') ∧ W.cell? ⟨w.heap.size, 0, none⟩ = some (.int .i64 op) ∧ W.cell? ⟨w.heap.size, 1, none⟩ = some (.int .i64 ln) ∧ W.cell? ⟨w.heap.size, 2, none⟩ = some (.string s) ∧ W.cell? ⟨w.heap.size, 3, none⟩ = some (.int .i64 k) ∧ W.cell? ⟨w.heap.size, 4, none⟩ = some (.int .i64 n) ∧ W.cell? ⟨w.heap.size, 5, none⟩ = some (.string t) ∧ W.cell? ⟨w.heap.size, 6, none⟩ = some (.slice va v.len vc) ∧ W.cell? ⟨w.heap.size, 7, none⟩ = some (.slice (some ⟨b, o, none⟩) sub.len sc) ∧ Below wo.heap.size wo W) := ⟨_, rfl⟩
                  have hbz : b < wo.heap.size := by omega
                  have hnz : w.heap.size < wo.heap.size := by omega
                  have KS : ∀ W, Below wo.heap.size wo W → S W := fun W h => by
                    rw [hS]
                    exact ⟨(h.cell (p := ⟨b, o + i * 8, none⟩) hbz).trans c0, (h.cell (p := ⟨b, o + i * 8 + 1, none⟩) hbz).trans c1, (h.cell (p := ⟨b, o + i * 8 + 2, none⟩) hbz).trans c2, (h.cell (p := ⟨b, o + i * 8 + 3, none⟩) hbz).trans c3, (h.cell (p := ⟨b, o + i * 8 + 4, none⟩) hbz).trans c4, (h.cell (p := ⟨b, o + i * 8 + 5, none⟩) hbz).trans c5, (h.cell (p := ⟨b, o + i * 8 + 6, none⟩) hbz).trans c6, (h.cell (p := ⟨b, o + i * 8 + 7, none⟩) hbz).trans c7, (h.cell (p := ⟨w.heap.size, 0, none⟩) hnz).trans HNO.out.c0, (h.cell (p := ⟨w.heap.size, 1, none⟩) hnz).trans HNO.out.c1, (h.cell (p := ⟨w.heap.size, 2, none⟩) hnz).trans HNO.out.c2, (h.cell (p := ⟨w.heap.size, 3, none⟩) hnz).trans HNO.out.c3, (h.cell (p := ⟨w.heap.size, 4, none⟩) hnz).trans HNO.out.c4, (h.cell (p := ⟨w.heap.size, 5, none⟩) hnz).trans HNO.out.c5, (h.cell (p := ⟨w.heap.size, 6, none⟩) hnz).trans HNO.out.c6, (h.cell (p := ⟨w.heap.size, 7, none⟩) hnz).trans HNO.out.c7, h⟩
                  have BS : ∀ W, S W → Below wo.heap.size wo W := fun W h => by rw [hS] at h; exact h.2.2.2.2.2.2.2.2.2.2.2.2.2.2.2.2
                  have PC := Lib.hid (fun W (h : S W) => (place_r op ln s k n t (.slice va v.len vc) (some ⟨b, o, none⟩) sub.len sc (plc role) i hi hsl W).mono (R' := fun e W' => e = .returned (.int .i64 (plc rI : Int)) ∧ Below W.heap.size W W' ∧ S W') fun e W' ⟨h1, h2⟩ => ⟨by rw [h1, hpl], h2, KS _ ((BS W h).trans (below_le' h2 (BS W h).size))⟩)
                  have OC := Lib.hid (fun W (h : S W) => (ih (sub'.tot + 1) (by omega) op' ln' s' k' n' t' v' va' vc' sub' sa' sc' rI lpR W (by omega) hf1 hf2 hf3 hf4 hvc' hf5 hf6 hsc' hrle (hv'.keep (fun b hb => (BS W h).block b (by omega)) (fun b hb => by have := (BS W h).size; omega)) (hs'.keep (fun b hb => (BS W h).block b (by omega)) (fun b hb => by have := (BS W h).size; omega))).mono (R' := fun e W' => (∃ (c : Int) (fp : Bool) (fq : Int), e = .returned (.agg #[.int .i64 c, .bool fp, .int .i64 fq, .int .i64 0, .int .i64 0, .string ⟨#[]⟩, .slice none 0 0]) ∧ Hid (c = 0 → FineAt op' s' k' n' t' v' sub' rI lpR)) ∧ Below W.heap.size W W' ∧ S W') fun e W' ⟨⟨c, fp, fq, h1, h3⟩, h2⟩ => ⟨⟨c, fp, fq, h1, h3⟩, h2, KS _ ((BS W h).trans (below_le' h2 (BS W h).size))⟩)
                  have K0 : S wo.drew := KS _ ((Below.refl _ _).drew)
                  have KA := Lib.hid (fun W (ob : Obj) (h : S W) => KS (W.alloc ob) ((BS W h).alloc (BS W h).size ob))
                  have K0A := Lib.hid (fun ob : Obj => KS (wo.alloc ob).drew ((Below.refl _ _).alloc (Nat.le_refl _) ob).drew)
                  have K7 := Lib.hid (fun W (gg : Nat) (hg : wo.heap.size ≤ gg) (a b c d e f g : Value) (h : S W) => KS _ (below_set7 (BS W h) hg a b c d e f g))
                  have BSS := Lib.hid BS
                  have HD := Lib.hid hd
                  have HRI := Lib.hid hrI
                  have ij : (i : Int) < (sub.len : Int) := by omega
                  clear KS BS hv' hs' hd hrI hpl c0 c1 c2 c3 c4 c5 c6 c7
                  subst hS
                  go_upto_region 20 with fail
                  go_cut [11] (fun p wx => ∃ (gf : Nat) (c : Int) (fp : Bool) (fq : Int), p = .pointer (some ⟨gf, 0, none⟩) ∧ Hid (StF wx gf (.int .i64 c) (.bool fp) (.int .i64 fq) (.int .i64 0) (.int .i64 0) (.string ⟨#[]⟩) (.slice none 0 0)) ∧ Hid (Below wo.heap.size wo wx) ∧ Hid (c = 0 → FineAt op' s' k' n' t' v' sub' rI lpR))
                  case first =>
                    go_region_held3 (fun W => W.cell? ⟨b, o + i * 8, none⟩ = some (.int .i64 op') ∧ W.cell? ⟨b, o + i * 8 + 1, none⟩ = some (.int .i64 ln') ∧ W.cell? ⟨b, o + i * 8 + 2, none⟩ = some (.string s') ∧ W.cell? ⟨b, o + i * 8 + 3, none⟩ = some (.int .i64 k') ∧ W.cell? ⟨b, o + i * 8 + 4, none⟩ = some (.int .i64 n') ∧ W.cell? ⟨b, o + i * 8 + 5, none⟩ = some (.string t') ∧ W.cell? ⟨b, o + i * 8 + 6, none⟩ = some (.slice va' v'.len vc') ∧ W.cell? ⟨b, o + i * 8 + 7, none⟩ = some (.slice sa' sub'.len sc') ∧ W.cell? ⟨w.heap.size, 0, none⟩ = some (.int .i64 op) ∧ W.cell? ⟨w.heap.size, 1, none⟩ = some (.int .i64 ln) ∧ W.cell? ⟨w.heap.size, 2, none⟩ = some (.string s) ∧ W.cell? ⟨w.heap.size, 3, none⟩ = some (.int .i64 k) ∧ W.cell? ⟨w.heap.size, 4, none⟩ = some (.int .i64 n) ∧ W.cell? ⟨w.heap.size, 5, none⟩ = some (.string t) ∧ W.cell? ⟨w.heap.size, 6, none⟩ = some (.slice va v.len vc) ∧ W.cell? ⟨w.heap.size, 7, none⟩ = some (.slice (some ⟨b, o, none⟩) sub.len sc) ∧ Below wo.heap.size wo W)
                      (first | (with_reducible assumption) | (with_reducible exact K0) | (with_reducible exact K0A.out _) | ((with_reducible refine KA.out _ _ ?_); with_reducible assumption) | ((with_reducible refine K7.out _ _ ?_ _ _ _ _ _ _ _ ?_); (first | exact Nat.le_refl _ | with_reducible assumption); (first | (with_reducible assumption) | ((with_reducible refine KA.out _ _ ?_); with_reducible assumption))))
                      (first
                        | (go_at_call 28; with_reducible refine (PC.out _ ?_).mono ?_; (first | (with_reducible assumption) | (with_reducible exact K0) | (with_reducible exact K0A.out _)); rintro e w5 ⟨rfl, hbw5, hs5⟩; have le5 := (BSS.out _ hs5).size; (with_reducible have hz5 := stf_drew hbw5))
                        | (go_at_call 28; with_reducible refine (PC.out _ ?_).mono ?_; (first | (with_reducible assumption) | (with_reducible exact K0) | (with_reducible exact K0A.out _)); rintro e w5 ⟨rfl, hbw5, hs5⟩; have le5 := (BSS.out _ hs5).size)
                        | (go_at_call 16; with_reducible refine (OC.out _ ?_).mono ?_; (first | (with_reducible assumption) | ((with_reducible refine KA.out _ _ ?_); with_reducible assumption)); rintro e w6 ⟨⟨c6, fp6, fq6, rfl, hfin6⟩, hbw6, hs6⟩; have le6 := (BSS.out _ hs6).size; (with_reducible have hz6 := hz5.below hbw6); have z0 := hz6.cells.1; have z1 := hz6.cells.2.1; have z2 := hz6.cells.2.2.1; have z3 := hz6.cells.2.2.2.1; have z4 := hz6.cells.2.2.2.2.1; have z5 := hz6.cells.2.2.2.2.2.1; have z6 := hz6.cells.2.2.2.2.2.2; have y0 := hz6.fr 0; have y1 := hz6.fr 1; have y2 := hz6.fr 2; have y3 := hz6.fr 3; have y4 := hz6.fr 4; have y5 := hz6.fr 5; have y6 := hz6.fr 6)
                        | (go_at_call 16; with_reducible refine (OC.out _ ?_).mono ?_; (first | (with_reducible assumption) | ((with_reducible refine KA.out _ _ ?_); with_reducible assumption)); rintro e w6 ⟨⟨c6, fp6, fq6, rfl, hfin6⟩, hbw6, hs6⟩; have le6 := (BSS.out _ hs6).size; (with_reducible have hz6 := stf_new hbw6); have z0 := hz6.cells.1; have z1 := hz6.cells.2.1; have z2 := hz6.cells.2.2.1; have z3 := hz6.cells.2.2.2.1; have z4 := hz6.cells.2.2.2.2.1; have z5 := hz6.cells.2.2.2.2.2.1; have z6 := hz6.cells.2.2.2.2.2.2; have y0 := hz6.fr 0; have y1 := hz6.fr 1; have y2 := hz6.fr 2; have y3 := hz6.fr 3; have y4 := hz6.fr 4; have y5 := hz6.fr 5; have y6 := hz6.fr 6)
                        | (go_at_call 16; with_reducible refine (OC.out _ ?_).mono ?_; (first | (with_reducible assumption) | ((with_reducible refine KA.out _ _ ?_); with_reducible assumption)); rintro e w6 ⟨⟨c6, fp6, fq6, rfl, hfin6⟩, hbw6, hs6⟩; have le6 := (BSS.out _ hs6).size))
                    all_goals
                      have HB6 := Lib.hid (BSS.out _ hs6)
                      clear hs6 hs5
                      go_wp2_with fail
                      go_meet
                      first
                      | with_reducible exact ⟨_, c6, fp6, fq6, rfl, Lib.hid (StF.new w6 (.int .i64 c6) (.bool fp6) (.int .i64 fq6) (.int .i64 0) (.int .i64 0) (.string ⟨#[]⟩) (.slice none 0 0)), Lib.hid (HB6.out.alloc le6 _), hfin6⟩
                      | with_reducible exact ⟨_, c6, fp6, fq6, rfl, Lib.hid (hz6.set7 _ _ _ _ _ _ _), Lib.hid (below_set7 HB6.out le5 _ _ _ _ _ _ _), hfin6⟩
                      | with_reducible exact ⟨_, c6, fp6, fq6, rfl, Lib.hid (hz6.set7 _ _ _ _ _ _ _), Lib.hid (below_set7 HB6.out (Nat.le_refl _) _ _ _ _ _ _ _), hfin6⟩
                  case rest =>
                    obtain ⟨gf, c, fp, fq, rfl, hst, hbx, hfin⟩ := hcut
                    have HBX := Lib.hid hbx.out
                    have HB4X := Lib.hid (HBO.out.trans (below_le' hbx.out hzo))
                    have HBWX := Lib.hid (HB.out.trans (below_le' (HB4.out.trans (below_le' HB4X.out hz4)) HB.out.size))
                    obtain ⟨z0, z1, z2, z3, z4, z5, z6⟩ := hst.out.cells
                    clear hst hbx PC OC KA K0 K0A K7 BSS
                    by_cases hc0 : c = 0
                    · have e1 := bne_no hc0
                      have HFI := Lib.hid (hfin.out hc0)
                      clear hc0 hfin
                      have HFN2 := Lib.hid (show ∀ j, j < i + 1 → ∀ (op' ln' : Int) (s' : ByteArray) (k' n' : Int) (t' : ByteArray) (v' : VL) (sub' : NL), sub.drop j = .cons op' ln' s' k' n' t' v' sub' (sub.drop (j + 1)) → FineAt op' s' k' n' t' v' sub' (subRole op sub.len role false j).1 lpR from by
                        intro j hj o1 l1 s1 k1 n1 t1 v1 sb1 hd1
                        by_cases hji : j < i
                        · exact HFN.out j hji o1 l1 s1 k1 n1 t1 v1 sb1 hd1
                        · obtain rfl : j = i := by omega
                          rw [HD.out] at hd1
                          injection hd1 with q1 q2 q3 q4 q5 q6 q7 q8 q9
                          subst q1; subst q3; subst q4; subst q5; subst q6; subst q7; subst q8
                          rw [← HRI.out]
                          exact HFI.out)
                      go_wp2_with fail
                      go_roundg g
                      case measure => omega
                      case rel => exact ⟨i + 1, by go_num, by omega, HB4X.out, HFN2.out⟩
                    · have e1 := bne_yes hc0
                      have hsX := HF4.out.below HB4X.out
                      have HSX := Lib.hid hsX
                      have HC0 := Lib.hid hc0
                      clear hsX hc0 hfin
                      go_wp2_with (refine wpList_store_row rfl 37 (.tmp 6) (.tmp 116) rfl G #[.int .i64 c, .bool fp, .int .i64 fq, .int .i64 0, .int .i64 0, .string ⟨#[]⟩, .slice none 0 0] rfl rfl _ _ HSX.out flt_info rfl (flt_one _ _ _) ?_
                                   rename_i hKK
                                   refine hKK _ _ (wp_ret ?_)
                                   simp only [Exit.then, Exit.inBlock]
                                   refine ret_cell7 Tryz.results16 G rfl rfl (stf_rowSet HSX.out _ _ _ _ _ _ _) ?_
                                   exact ⟨.mk c rfl (fun h => absurd h HC0.out), below_rowSet HBWX.out hGle _⟩)
                · obtain rfl : i = sub.len := by omega
                  have HB4X := HBO
                  have HBWX := Lib.hid (HB.out.trans (below_le' (HB4.out.trans (below_le' HB4X.out hz4)) HB.out.size))
                  have NO := Lib.hid (fun W => none_c W)
                  unfold fltV at NO
                  have HOK := Lib.hid (show FineAt op s k n t v sub role loopR from fine_of (HST.out.symm.trans HG.out.1) (HCT.out.symm.trans HG.out.2.1) (HVB.out.symm.trans HG.out.2.2.1) (HAW.out.symm.trans HG.out.2.2.2.2) hr HNM.out.1 HNM.out.2 (by
                    rw [← HLP.out]; exact HFN.out))
                  have hsX := HF4.out.below HB4X.out
                  have hzx := HB4X.out.size
                  go_wp2_with fail
                  refine (NO.out _).mono ?_
                  rintro e w9 ⟨rfl, hb9⟩
                  have hs9 := hsX.below hb9
                  have HB9 := Lib.hid (HBWX.out.trans (below_le' hb9 HBWX.out.size))
                  have HS9 := Lib.hid hs9
                  clear hs9 hb9 hsX
                  go_wp2_with (refine wpList_store_row rfl 37 (.tmp 6) (.tmp 117) rfl G #[.int .i64 0, .bool false, .int .i64 0, .int .i64 0, .int .i64 0, .string ⟨#[]⟩, .slice none 0 0] rfl rfl _ _ HS9.out flt_info rfl (flt_one _ _ _) ?_
                               rename_i hKK
                               refine hKK _ _ (wp_ret ?_)
                               dsimp only
                               refine ret_cell7 Tryz.results16 G rfl rfl (stf_rowSet HS9.out _ _ _ _ _ _ _) ?_
                               exact ⟨.mk 0 rfl (fun _ => HOK.out), below_rowSet HB9.out hGle _⟩)
        · clear HBD
          have PC := Lib.hid (fun W => placed_c 103 ln (by decide) W)
          unfold fltV at PC
          go_wp2_with fail
          refine (PC.out _).mono ?_
          rintro e w5 ⟨rfl, hb5⟩
          have hs5 := HF4.out.below hb5
          have HB5 := Lib.hid (HB.out.trans (below_le' (HB4.out.trans (below_le' hb5 hz4)) HB.out.size))
          have HS5 := Lib.hid hs5
          clear hb5 hs5
          go_wp2_with (refine wpList_store_row rfl 37 (.tmp 6) (.tmp 81) rfl G #[.int .i64 103, .bool true, .int .i64 ln, .int .i64 0, .int .i64 0, .string ⟨#[]⟩, .slice none 0 0] rfl rfl _ _ HS5.out flt_info rfl (flt_one _ _ _) ?_
                       rename_i hKK
                       refine hKK _ _ (wp_ret ?_)
                       simp only [Exit.then]
                       refine ret_cell7 Tryz.results16 G rfl rfl (stf_rowSet HS5.out _ _ _ _ _ _ _) ?_
                       exact ⟨.mk 103 rfl (fun h => by cases h), below_rowSet HB5.out hGle _⟩)

theorem odd_r (N : Nat) : OddRC N := by
  induction N using Nat.strongRecOn with
  | _ N ih => exact odd_rstep N ih
end Go.Proofs.YtgmnbdfbbcpciaaGreatDoor
namespace Go.Proofs.YtgmnbdfbbcpciaaGreatDoor
open Go.RowKit Go.Lib
set_option linter.unusedVariables false

def manyP (l : NL) (left : Nat) : Int := if l.tot ≤ left then ((left - l.tot : Nat) : Int) else -1
def ManyC (N : Nat) : Prop := ∀ (l : NL) (A : Option Addr) (c left : Nat) (w : World), l.tot < N → left ≤ 4096 → l.fit → l.len ≤ 140737488351232 → l.len ≤ c → RpN w (fun b => b < w.heap.size) l A →
  Calls Tryz.prog 21 #[.slice A l.len c, .int .i64 (left : Int)] w fun e w' => e = .returned (.int .i64 (manyP l left)) ∧ Below w.heap.size w w'

set_option maxRecDepth 100000 in
set_option maxHeartbeats 1000000 in
theorem many_step (N : Nat) (ih : ∀ N', N' < N → ManyC N') : ManyC N := by
  intro l A c left w hN hle hfit hlen hc hrep
  have HRP := Lib.hid hrep
  clear hrep
  go_enter Tryz.func21, Tryz.ntmps21
  go_wp2_with fail
  go_loopg [1, 5] l.len (fun kk m v wr => ∃ (i x : Nat), m = .int .i64 (x : Int) ∧ v = .int .i64 i ∧ i + kk = l.len ∧ x ≤ left ∧ Below w.heap.size w wr ∧ Hid (manyP (l.drop i) x = manyP l left))
  case atStart => exact ⟨0, left, rfl, rfl, by omega, Nat.le_refl _, Below.refl _ _, by show manyP (l.drop 0) _ = _; rw [NL.drop]⟩
  case round =>
    obtain ⟨i, x, rfl, rfl, hik, hx1, hbr, hcn⟩ := hrel
    by_cases hi : i < l.len
    · obtain ⟨g, rfl⟩ : ∃ g, gk = g + 1 := ⟨gk - 1, by omega⟩
      obtain ⟨b, o, op, ln, s, k, nn, t, v, sub, va, vc, sa, sc, hA, hSb, hd, c0, c1, c2, c3, c4, c5, c6, hvc, hv, c7, hsc, hs⟩ := (HRP.out.below hbr (fun b hb => hb)).nth hi
      have hfd := NL.fit_drop i l hfit
      have htd := NL.tot_drop i l
      have hdt : (l.drop i).tot = 1 + sub.tot + (l.drop (i + 1)).tot := by rw [hd]; rfl
      rw [hd] at hfd htd
      simp only [NL.tot] at htd
      obtain ⟨-, -, -, -, hf5, hf6, -⟩ := hfd
      have HST := Lib.hid hcn.out
      unfold manyP at HST
      rw [hdt] at HST
      have HBR := Lib.hid hbr
      subst hA
      by_cases hx : x < 1
      · have q1 : (x : Int) < 1 := by omega
        clear hbr hcn hs hv hd
        go_wp2_with fail
        go_ret
        exact ⟨ret_val (by unfold manyP; rw [← HST.out, if_neg (by omega)]; rfl), HBR.out⟩
      · obtain ⟨y, rfl⟩ : ∃ y, x = y + 1 := ⟨x - 1, by omega⟩
        have q1 : ¬ (((y + 1 : Nat) : Int) < 1) := by omega
        have e1 : IntKind.i64.wrap (((y + 1 : Nat) : Int) - 1) = (y : Int) := by rw [show ((y + 1 : Nat) : Int) - 1 = (y : Int) from by omega]; exact IntWalk.i64_in _ (by omega)
        have IHC := Lib.hid (fun w2 (hb2 : Below wr.heap.size wr w2) => ih (sub.tot + 1) (by omega) sub sa sc y w2 (by omega) (by omega) hf6 hf5 hsc (hs.keep (fun b hb => hb2.block b (by have := hbr.size; omega)) (fun b hb => by have := hbr.size; have := hb2.size; omega)))
        obtain ⟨r, hrr⟩ : ∃ r, r = manyP sub y := ⟨_, rfl⟩
        rw [← hrr] at IHC
        have HRR := Lib.hid hrr
        clear hbr hcn hs hv hd hrr
        go_wp2_with fail
        refine (IHC.out _ (by first | exact Below.refl _ _ | exact (Below.refl _ _).drew)).mono ?_
        rintro e w2 ⟨rfl, hb2⟩
        have HB2 := Lib.hid (HBR.out.trans (below_le' hb2 HBR.out.size))
        clear hb2 c0 c1 c2 c3 c4 c5 c6 c7
        by_cases hm2 : sub.tot ≤ y
        · have hr2 : r = ((y - sub.tot : Nat) : Int) := by rw [HRR.out]; unfold manyP; rw [if_pos hm2]
          have q2 : ¬ (r < 0) := by omega
          clear HRR
          go_wp2_with fail
          go_roundg g
          case measure => omega
          case rel => exact ⟨i + 1, y - sub.tot, by first | rfl | rw [hr2], by go_num, by omega, by omega, HB2.out, by
            show manyP (l.drop (i + 1)) (y - sub.tot) = _
            unfold manyP
            rw [← HST.out]
            by_cases h : (l.drop (i + 1)).tot ≤ y - sub.tot
            · rw [if_pos h, if_pos (by omega)]; omega
            · rw [if_neg h, if_neg (by omega)]⟩
        · have hr2 : r = -1 := by rw [HRR.out]; unfold manyP; rw [if_neg hm2]
          subst hr2
          clear HRR
          go_wp2_with fail
          go_ret
          exact ⟨ret_val (by unfold manyP; rw [← HST.out, if_neg (by omega)]; rfl), HB2.out⟩
    · obtain rfl : i = l.len := by omega
      rw [NL.drop_len] at hcn
      have HN := Lib.hid hcn.out
      have HBR := Lib.hid hbr
      clear hcn hbr
      go_wp2_with fail
      go_ret
      exact ⟨ret_val (by rw [← HN.out]; unfold manyP; simp [NL.tot]), HBR.out⟩

theorem many_r (N : Nat) : ManyC N := by
  induction N using Nat.strongRecOn with
  | _ N ih => exact many_step N ih

theorem toomany_r (l : NL) (A : Option Addr) (c : Nat) (w : World) (hfit : l.fit) (hlen : l.len ≤ 140737488351232) (hc : l.len ≤ c) (hrep : RpN w (fun b => b < w.heap.size) l A) :
    Calls Tryz.prog 13 #[.slice A l.len c] w fun e w' => e = .returned (.bool (decide (4096 < l.tot))) ∧ Below w.heap.size w w' := by
  have MC := Lib.hid (many_r (l.tot + 1) l A c 4096 w (by omega) (Nat.le_refl _) hfit hlen hc hrep)
  obtain ⟨r, hr⟩ : ∃ r, r = manyP l 4096 := ⟨_, rfl⟩
  rw [← hr] at MC
  have HR := Lib.hid hr
  clear hrep hr
  go_enter Tryz.func13, Tryz.ntmps13
  go_wp2_with fail
  refine MC.out.mono ?_
  rintro e w2 ⟨rfl, hb2⟩
  have HB := Lib.hid hb2
  clear hb2
  go_wp2_with fail
  go_ret
  exact ⟨ret_val (by
    congr 1
    rw [HR.out]; unfold manyP
    by_cases h : l.tot ≤ 4096
    · rw [if_pos h, decide_eq_false (by omega), decide_eq_false (by omega)]; rfl
    · rw [if_neg h, decide_eq_true (by omega), decide_eq_true (by omega)]; rfl), HB.out⟩

def DeepR (N : Nat) : Prop := ∀ (l : NL) (A : Option Addr) (c : Nat) (w : World), l.tot < N → l.tot ≤ 4096 → l.fit → l.len ≤ 140737488351232 → l.len ≤ c → RpN w (fun b => b < w.heap.size) l A →
  Calls Tryz.prog 15 #[.slice A l.len c] w fun e w' => e = .returned (.int .i64 l.deep) ∧ Below w.heap.size w w'

set_option maxRecDepth 100000 in
set_option maxHeartbeats 1000000 in
theorem deepR_step (N : Nat) (ih : ∀ N', N' < N → DeepR N') : DeepR N := by
  intro l A c w hN h4 hfit hlen hc hrep
  have HRP := Lib.hid hrep
  clear hrep
  go_enter Tryz.func15, Tryz.ntmps15
  go_wp2_with fail
  go_loopg [3, 4] l.len (fun kk m v wr => ∃ (i : Nat) (x : Nat), m = .int .i64 x ∧ v = .int .i64 i ∧ i + kk = l.len ∧ x ≤ 4096 ∧ Below w.heap.size w wr ∧ Hid (x = (l.take i).deep))
  case atStart => exact ⟨0, 0, rfl, rfl, by omega, by omega, Below.refl _ _, by show 0 = (l.take 0).deep; rw [NL.take]; rfl⟩
  case round =>
    obtain ⟨i, x, rfl, rfl, hik, hx1, hbr, hcn⟩ := hrel
    by_cases hi : i < l.len
    · obtain ⟨g, rfl⟩ : ∃ g, gk = g + 1 := ⟨gk - 1, by omega⟩
      obtain ⟨b, o, op, ln, s, k, nn, t, v, sub, va, vc, sa, sc, hA, hSb, hd, c0, c1, c2, c3, c4, c5, c6, hvc, hv, c7, hsc, hs⟩ := (HRP.out.below hbr (fun b hb => hb)).nth hi
      have hfd := NL.fit_drop i l hfit
      have htd := NL.tot_drop i l
      rw [hd] at hfd htd
      simp only [NL.tot] at htd
      obtain ⟨-, -, -, -, hf5, hf6, -⟩ := hfd
      have HST := Lib.hid (deep_take_succ hd)
      have hds := NL.deep_tot sub
      have HBR := Lib.hid hbr
      have IHC := Lib.hid (fun w2 (hb2 : Below wr.heap.size wr w2) => ih (sub.tot + 1) (by omega) sub sa sc w2 (by omega) (by omega) hf6 hf5 hsc (hs.keep (fun b hb => hb2.block b (by have := hbr.size; omega)) (fun b hb => by have := hbr.size; have := hb2.size; omega)))
      obtain ⟨d, hdd⟩ : ∃ d, d = sub.deep := ⟨_, rfl⟩
      rw [← hdd] at IHC HST hds
      have HX := Lib.hid hcn.out
      subst hA
      clear hbr hcn hs hv hdd hd
      have e1 : IntKind.i64.wrap (1 + (d : Int)) = 1 + (d : Int) := IntWalk.i64_in _ (by omega)
      go_wp2_with fail
      refine (IHC.out _ (by first | exact Below.refl _ _ | exact (Below.refl _ _).drew)).mono ?_
      rintro e w2 ⟨rfl, hb2⟩
      have HB2 := Lib.hid (HBR.out.trans (below_le' hb2 HBR.out.size))
      clear hb2 c0 c1 c2 c3 c4 c5 c6 c7
      by_cases hm2 : x < 1 + d
      · have q1 : (x : Int) < 1 + (d : Int) := by omega
        have q2 : max (x : Int) (1 + (d : Int)) = 1 + (d : Int) := by omega
        go_wp2_with fail
        go_roundg g
        case measure => omega
        case rel => exact ⟨i + 1, 1 + d, by go_num, by go_num, by omega, by omega, HB2.out, by show 1 + d = _; rw [HST.out, ← HX.out]; exact (Nat.max_eq_right (by omega)).symm⟩
      · have q1 : 1 + (d : Int) ≤ (x : Int) := by omega
        have q2 : max (x : Int) (1 + (d : Int)) = (x : Int) := by omega
        go_wp2_with fail
        go_roundg g
        case measure => omega
        case rel => exact ⟨i + 1, x, by go_num, by go_num, by omega, hx1, HB2.out, by show x = _; rw [HST.out, ← HX.out]; exact (Nat.max_eq_left (by omega)).symm⟩
    · obtain rfl : i = l.len := by omega
      rw [NL.take_len] at hcn
      have HN := Lib.hid hcn.out
      have HBR := Lib.hid hbr
      clear hcn hbr
      go_wp2_with fail
      go_ret
      exact ⟨ret_val (by rw [← HN.out]; rfl), HBR.out⟩

theorem deep_r (N : Nat) : DeepR N := by
  induction N using Nat.strongRecOn with
  | _ N ih => exact deepR_step N ih
end Go.Proofs.YtgmnbdfbbcpciaaGreatDoor
namespace Go.Proofs.YtgmnbdfbbcpciaaGreatDoor
open Go.RowKit Go.Lib
set_option linter.unusedVariables false

def FewC (N : Nat) : Prop := ∀ (k n : Int) (s : ByteArray) (sub : VL) (sa : Option Addr) (sc : Nat) (left dp : Int) (w : World), sub.size < N → (val1 k n s sub).fit → sub.len ≤ sc → RpL w (fun b => b < w.heap.size) sub sa → 0 ≤ left → left ≤ 1000000 → 0 ≤ dp → dp ≤ 1000 →
  Calls Tryz.prog 20 #[.agg #[.int .i64 k, .int .i64 n, .string s, .slice sa sub.len sc], .int .i64 left, .int .i64 dp] w fun e w' => (∃ r : Int, e = .returned (.int .i64 r) ∧ -1 ≤ r ∧ r ≤ left) ∧ Below w.heap.size w w'

theorem quo16 (n : Nat) (h : n ≤ 140737488351232) : (n : Int).tdiv 16 = ((n / 16 : Nat) : Int) ∧ n / 16 ≤ 140737488351232 := by
  refine ⟨?_, by omega⟩
  rw [Int.tdiv_eq_ediv_of_nonneg (by omega)]; omega

set_option maxRecDepth 100000 in
set_option maxHeartbeats 2000000 in
theorem few_step (N : Nat) (ih : ∀ N', N' < N → FewC N') : FewC N := by
  intro k n s sub sa sc left dp w hN hfit hsc hrep hl0 hl1 hd0 hd1
  obtain ⟨wa, hwa⟩ : ∃ wa, wa = w.alloc (.cells #[.int .i64 k, .int .i64 n, .string s, .slice sa sub.len sc] 31) := ⟨_, rfl⟩
  have hb : Below w.heap.size w wa := by rw [hwa]; exact (Below.refl _ _).alloc (Nat.le_refl _) _
  have hV : StB wa w.heap.size (.int .i64 k) (.int .i64 n) (.string s) (.slice sa sub.len sc) := by rw [hwa]; exact StB.new w _ _ _ _
  have v2 := hV.c2; have v3 := hV.c3
  have u3 := v3
  rw [hwa] at v2 v3
  have hss := hfit.1
  have hsl := hfit.2.1
  have hq0 : 0 ≤ (s.size : Int) / 16 ∧ (s.size : Int) / 16 ≤ 140737488351232 := by omega
  have e1 : IntKind.i64.wrap (left - 1) = left - 1 := IntWalk.i64_in _ (by omega)
  have e2 : IntKind.i64.wrap (left - 1 - (s.size : Int) / 16) = left - 1 - (s.size : Int) / 16 := IntWalk.i64_in _ (by omega)
  have e3 : IntKind.i64.wrap (dp + 1) = dp + 1 := IntWalk.i64_in _ (by omega)
  have HWA := Lib.hid hwa
  have HB := Lib.hid hb
  have HV := Lib.hid hV
  have HRP := Lib.hid (hrep.keep (w' := wa) (fun b hlt => hb.block b hlt) (fun b hlt => Nat.lt_of_lt_of_le hlt hb.size))
  clear hwa hb hV hrep
  go_enter Tryz.func20, Tryz.ntmps20
  by_cases ha : left - 1 - (s.size : Int) / 16 < 0
  · go_wp2_with fail
    rw [← HWA.out]
    go_ret
    exact ⟨⟨-1, rfl, by omega, by omega⟩, HB.out⟩
  by_cases hdp : dp > 60
  · go_wp2_with fail
    rw [← HWA.out]
    go_ret
    exact ⟨⟨-1, rfl, by omega, by omega⟩, HB.out⟩
  have hwlt : w.heap.size < wa.heap.size := by rw [HWA.out]; simp
  have HU := Lib.hid u3
  clear u3
  go_wp2_with fail
  rw [← HWA.out]
  clear v2 v3
  go_loopg [1, 7] sub.len (fun kk m v wr => ∃ (i : Nat) (x : Int), m = .int .i64 x ∧ v = .int .i64 i ∧ i + kk = sub.len ∧ 0 ≤ x ∧ x ≤ left ∧ Hid (Below wa.heap.size wa wr))
  case atStart => exact ⟨0, left - 1 - (s.size : Int) / 16, rfl, rfl, by omega, by omega, by omega, Below.refl _ _⟩
  case round =>
    obtain ⟨i, x, rfl, rfl, hik, hx0, hx1, hbr⟩ := hrel
    have x3 := (hbr.out.cell (p := ⟨w.heap.size, 3, none⟩) hwlt).trans HU.out
    by_cases hi : i < sub.len
    · obtain ⟨g, rfl⟩ : ∃ g, gk = g + 1 := ⟨gk - 1, by omega⟩
      obtain ⟨b, o, k1, n1, s1, sub1, sa1, sc1, hA, hdr, hSb, c0, c1, c2, c3, hcl, hrs, hsz⟩ := rp_at (HRP.out.keep (w' := wr) (fun b hb => hbr.out.block b hb) (fun b hb => hb)) hi
      have hfd := VL.fit_drop i sub hfit.2.2.1
      rw [hdr] at hfd
      have hvs : sub.size < N := hN
      have IHC := Lib.hid (fun w2 (hb2 : Below wr.heap.size wr w2) => ih sub.size hN k1 n1 s1 sub1 sa1 sc1 x (dp + 1) w2 hsz ⟨hfd.1, hfd.2.1, hfd.2.2.1, trivial⟩ hcl (hrs.keep (fun b hb => hb2.block b (by have := hbr.out.size; omega)) (fun b hb => by have := hbr.out.size; have := hb2.size; omega)) hx0 (by omega) (by omega) (by omega))
      have HBR := Lib.hid hbr.out
      subst hA
      clear hbr hrs hdr hfd
      go_wp2_with fail
      refine (IHC.out _ (by first | exact Below.refl _ _ | exact (Below.refl _ _).drew)).mono ?_
      rintro e w2 ⟨⟨r, rfl, hr0, hr1⟩, hb2⟩
      have HB2 := Lib.hid (HBR.out.trans (below_le' hb2 HBR.out.size))
      clear hb2 c0 c1 c2 c3 x3
      by_cases hr : r < 0
      · go_wp2_with fail
        go_ret
        exact ⟨⟨-1, rfl, by omega, by omega⟩, HB.out.trans (below_le' HB2.out HB.out.size)⟩
      · go_wp2_with fail
        go_roundg g
        case measure => omega
        case rel => exact ⟨i + 1, r, rfl, by go_num, by omega, by omega, by omega, HB2.out⟩
    · obtain rfl : i = sub.len := by omega
      have HBR := Lib.hid hbr.out
      clear hbr
      go_wp2_with fail
      go_ret
      exact ⟨⟨x, rfl, by omega, hx1⟩, HB.out.trans (below_le' HBR.out HB.out.size)⟩

theorem few_c (N : Nat) : FewC N := by
  induction N using Nat.strongRecOn with
  | _ N ih => exact few_step N ih

def NodesC (N : Nat) : Prop := ∀ (l : NL) (A : Option Addr) (c : Nat) (left dp : Int) (w : World), l.tot < N → l.fit → l.len ≤ 140737488351232 → l.len ≤ c → RpN w (fun b => b < w.heap.size) l A → 0 ≤ left → left ≤ 1000000 → 0 ≤ dp → dp ≤ 1000 →
  Calls Tryz.prog 12 #[.slice A l.len c, .int .i64 left, .int .i64 dp] w fun e w' => (∃ r : Int, e = .returned (.int .i64 r) ∧ -1 ≤ r ∧ r ≤ left ∧ (0 ≤ r → (l.tot : Int) + r ≤ left)) ∧ Below w.heap.size w w'

set_option maxRecDepth 100000 in
set_option maxHeartbeats 2000000 in
theorem nodes_step (N : Nat) (ih : ∀ N', N' < N → NodesC N') : NodesC N := by
  intro l A c left dp w hN hfit hlen hc hrep hl0 hl1 hd0 hd1
  have HRP := Lib.hid hrep
  have e3 : IntKind.i64.wrap (dp + 1) = dp + 1 := IntWalk.i64_in _ (by omega)
  clear hrep
  go_enter Tryz.func12, Tryz.ntmps12
  go_wp2_with fail
  go_loopg [1, 7] l.len (fun kk m v wr => ∃ (i : Nat) (x : Int), m = .int .i64 x ∧ v = .int .i64 i ∧ i + kk = l.len ∧ 0 ≤ x ∧ x ≤ left ∧ Hid (Below w.heap.size w wr) ∧ Hid ((l.tot : Int) + x ≤ left + ((l.drop i).tot : Int)))
  case atStart => exact ⟨0, left, rfl, rfl, by omega, by omega, by omega, Below.refl _ _, by show (l.tot : Int) + left ≤ left + ((l.drop 0).tot : Int); rw [NL.drop]; omega⟩
  case round =>
    obtain ⟨i, x, rfl, rfl, hik, hx0, hx1, hbr, hcn⟩ := hrel
    by_cases hi : i < l.len
    · obtain ⟨g, rfl⟩ : ∃ g, gk = g + 1 := ⟨gk - 1, by omega⟩
      obtain ⟨b, o, op, ln, s, k, nn, t, v, sub, va, vc, sa, sc, hA, hSb, hd, c0, c1, c2, c3, c4, c5, c6, hvc, hv, c7, hsc, hs⟩ := (HRP.out.below hbr.out (fun b hb => hb)).nth hi
      have hfd := NL.fit_drop i l hfit
      have htd := NL.tot_drop i l
      have hdt : (l.drop i).tot = 1 + sub.tot + (l.drop (i + 1)).tot := by rw [hd]; rfl
      rw [hd] at hfd htd
      simp only [NL.tot] at htd
      obtain ⟨hf1, hf2, hf3, hf4, hf5, hf6, -⟩ := hfd
      have hq0 : 0 ≤ (s.size : Int) / 16 ∧ (s.size : Int) / 16 ≤ 140737488351232 := by omega
      have e1 : IntKind.i64.wrap (x - 1) = x - 1 := IntWalk.i64_in _ (by omega)
      have e2 : IntKind.i64.wrap (x - 1 - (s.size : Int) / 16) = x - 1 - (s.size : Int) / 16 := IntWalk.i64_in _ (by omega)
      have HBR := Lib.hid hbr.out
      have HCN := Lib.hid hcn.out
      rw [hdt] at HCN
      have HVR := Lib.hid hv
      have HSR := Lib.hid hs
      subst hA
      clear hbr hcn hd hv hs
      by_cases ha : x - 1 - (s.size : Int) / 16 < 0
      · go_wp2_with fail
        go_ret
        exact ⟨⟨-1, rfl, by omega, by omega, fun h => by omega⟩, HBR.out⟩
      by_cases hdp : dp > 60
      · go_wp2_with fail
        go_ret
        exact ⟨⟨-1, rfl, by omega, by omega, fun h => by omega⟩, HBR.out⟩
      have FC := Lib.hid (fun w2 (hb2 : Below wr.heap.size wr w2) => few_c (v.size + 1) k nn t v va vc (x - 1 - (s.size : Int) / 16) 0 w2 (by omega) ⟨hf2, hf3, hf4, trivial⟩ hvc (HVR.out.keep (fun b hb => hb2.block b (by have := HBR.out.size; omega)) (fun b hb => by have := HBR.out.size; have := hb2.size; omega)) (by omega) (by omega) (by omega) (by omega))
      go_wp2_with fail
      refine (FC.out _ (by first | exact Below.refl _ _ | exact (Below.refl _ _).drew)).mono ?_
      rintro e w2 ⟨⟨r, rfl, hr0, hr1⟩, hb2⟩
      have HB2 := Lib.hid hb2
      have y7 := (hb2.cell (p := ⟨b, o + i * 8 + 7, none⟩) (by have := HBR.out.size; show b < wr.heap.size; omega)).trans c7
      clear hb2 c0 c1 c2 c3 c4 c5 c6 c7 FC
      by_cases hr : r < 0
      · go_wp2_with fail
        go_ret
        exact ⟨⟨-1, rfl, by omega, by omega, fun h => by omega⟩, HBR.out.trans (below_le' HB2.out HBR.out.size)⟩
      have IHC := Lib.hid (fun w3 (hb3 : Below w2.heap.size w2 w3) => ih (sub.tot + 1) (by omega) sub sa sc r (dp + 1) w3 (by omega) hf6 hf5 hsc ((HSR.out.keep (w' := w2) (S' := fun b => b < w2.heap.size) (fun b hb => HB2.out.block b (by have := HBR.out.size; omega)) (fun b hb => by have := HBR.out.size; have := HB2.out.size; omega)).keep (fun b hb => hb3.block b hb) (fun b hb => Nat.lt_of_lt_of_le hb hb3.size)) (by omega) (by omega) (by omega) (by omega))
      have HBW2 := Lib.hid (HBR.out.trans (below_le' HB2.out HBR.out.size))
      go_wp2_with fail
      refine (IHC.out _ (by first | exact Below.refl _ _ | exact (Below.refl _ _).drew)).mono ?_
      rintro e w3 ⟨⟨r2, rfl, hr20, hr21, hr22⟩, hb3⟩
      have HB3 := Lib.hid (HBW2.out.trans (below_le' hb3 HBW2.out.size))
      clear hb3 y7
      by_cases hr2 : r2 < 0
      · go_wp2_with fail
        go_ret
        exact ⟨⟨-1, rfl, by omega, by omega, fun h => by omega⟩, HB3.out⟩
      · go_wp2_with fail
        go_roundg g
        case measure => omega
        case rel => exact ⟨i + 1, r2, rfl, by go_num, by omega, by omega, by omega, HB3.out, by
          show (l.tot : Int) + r2 ≤ left + ((l.drop (i + 1)).tot : Int)
          have h1 := HCN.out
          have h2 := hr22 (by omega)
          omega⟩
    · obtain rfl : i = l.len := by omega
      rw [NL.drop_len] at hcn
      have HBR := Lib.hid hbr.out
      have HCN := Lib.hid hcn.out
      clear hbr hcn
      go_wp2_with fail
      go_ret
      exact ⟨⟨x, rfl, by omega, hx1, fun _ => by have h := HCN.out; simp only [NL.tot] at h; omega⟩, HBR.out⟩

theorem nodes_c (N : Nat) : NodesC N := by
  induction N using Nat.strongRecOn with
  | _ N ih => exact nodes_step N ih

/-- Are there few nodes? If so, there are not more than so many. -/
theorem Nodes_c (l : NL) (A : Option Addr) (c : Nat) (most : Int) (w : World) (hfit : l.fit) (hlen : l.len ≤ 140737488351232) (hc : l.len ≤ c) (hrep : RpN w (fun b => b < w.heap.size) l A) (h0 : 0 ≤ most) (h1 : most ≤ 1000000) :
    Calls Tryz.prog 8 #[.slice A l.len c, .int .i64 most] w fun e w' => (∃ b : Bool, e = .returned (.bool b) ∧ (b = true → (l.tot : Int) ≤ most)) ∧ Below w.heap.size w w' := by
  have NC := Lib.hid (nodes_c (l.tot + 1) l A c most 0 w (by omega) hfit hlen hc hrep h0 h1 (by omega) (by omega))
  clear hrep
  go_enter Tryz.func8, Tryz.ntmps8
  go_wp2_with fail
  refine NC.out.mono ?_
  rintro e w2 ⟨⟨r, rfl, hr0, hr1, hr2⟩, hb2⟩
  have HB := Lib.hid hb2
  have HR := Lib.hid (show 0 ≤ r → (l.tot : Int) ≤ most from fun h => by have := hr2 h; omega)
  clear hb2 hr2
  go_wp2_with fail
  go_ret
  exact ⟨⟨decide (0 ≤ r), rfl, fun h => HR.out (of_decide_eq_true h)⟩, HB.out⟩
end Go.Proofs.YtgmnbdfbbcpciaaGreatDoor
