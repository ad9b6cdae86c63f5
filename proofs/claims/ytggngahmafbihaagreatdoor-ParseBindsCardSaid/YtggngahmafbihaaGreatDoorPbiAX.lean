/- Contracts of the functions that the statement reaches, and the plain mathematics beneath: several texts joined. -/
import Derived.Test.YtggngahmafbihaaGreatDoorPbiAM
namespace Go.Proofs.YtggngahmafbihaaGreatDoor
open Go.RowKit Go.Lib
set_option linter.unusedVariables false

theorem own_cut {w : World} {base e n j cap : Nat} {A : Option Addr} {xs : List Value} (h : w.ownsRow base e 1 (.slice A n cap) n xs) (hj : j ≤ n) : w.ownsRow base e 1 (.slice A j cap) j (xs.take j) := by
  refine ⟨by rw [List.length_take, h.1]; omega, ?_⟩
  rcases h.2 with ⟨h0, h1⟩ | ⟨g, cap', cur, hv, hb1, hh, hn, hm, hc, ht⟩
  · injection h0 with e1 e2 e3
    subst e1; subst e3
    obtain rfl : j = 0 := by omega
    exact .inl ⟨rfl, rfl⟩
  · injection hv with e1 e2 e3
    subst e1; subst e3
    exact .inr ⟨g, cap, cur, rfl, hb1, hh, by omega, hm, hc, by rw [← ht, List.take_take, Nat.min_eq_left (by omega), Nat.mul_one]⟩

set_option maxRecDepth 100000 in
set_option maxHeartbeats 2000000 in
theorem roles_29 (ln : Int) (s : ByteArray) (k n : Int) (t : ByteArray) (vv : Value) (sa : Option Addr) (m sc : Nat) (w : World) (hm : m ≤ 4096) :
    Calls Tryz.prog 150 #[.agg #[.int .i64 29, .int .i64 ln, .string s, .int .i64 k, .int .i64 n, .string t, vv, .slice sa m sc]] w (RolesOut w 29 m) := by
  obtain ⟨wa, hwa⟩ : ∃ wa, wa = w.alloc (.cells #[.int .i64 29, .int .i64 ln, .string s, .int .i64 k, .int .i64 n, .string t, vv, .slice sa m sc] 31) := ⟨_, rfl⟩
  have hb : Below w.heap.size w wa := by rw [hwa]; exact (Below.refl _ _).alloc (Nat.le_refl _) _
  have hN : NdB wa w.heap.size (.int .i64 29) (.int .i64 ln) (.string s) (.int .i64 k) (.int .i64 n) (.string t) vv (.slice sa m sc) := by rw [hwa]; exact NdB.new _ _ _ _ _ _ _ _ _
  have v0 := hN.c0; have v7 := hN.c7
  rw [hwa] at v0 v7
  have HB := Lib.hid hb
  have HWA := Lib.hid hwa
  clear hb hN hwa
  have hz : wa.heap.size = w.heap.size + 1 := by rw [HWA.out]; simp
  have HZ := Lib.hid hz
  clear hz
  by_cases h0 : m = 0
  · subst h0
    go_enter Tryz.func150, Tryz.ntmps150
    go_wp2_with fail
    rw [← HWA.out]
    go_ret2
    refine ⟨_, ret_tup (c := .nilIface) (by rfl), ?_, HB.out.alloc HB.out.size _⟩
    have h := own_lit (cs := #[.int .i64 0, .int .i64 5, .int .i64 0]) (n := 3) wa HB.out.size (by decide) rfl
    rw [HZ.out] at h
    exact own_cut h (by decide : 0 ≤ 3)
  by_cases h1 : m = 1
  · subst h1
    go_enter Tryz.func150, Tryz.ntmps150
    go_wp2_with fail
    rw [← HWA.out]
    go_ret2
    refine ⟨_, ret_tup (c := .nilIface) (by rfl), ?_, HB.out.alloc HB.out.size _⟩
    have h := own_lit (cs := #[.int .i64 0, .int .i64 5, .int .i64 0]) (n := 3) wa HB.out.size (by decide) rfl
    rw [HZ.out] at h
    exact own_cut h (by decide : 1 ≤ 3)
  by_cases h2 : m = 2
  · subst h2
    go_enter Tryz.func150, Tryz.ntmps150
    go_wp2_with fail
    rw [← HWA.out]
    go_ret2
    refine ⟨_, ret_tup (c := .nilIface) (by rfl), ?_, HB.out.alloc HB.out.size _⟩
    have h := own_lit (cs := #[.int .i64 0, .int .i64 5, .int .i64 0]) (n := 3) wa HB.out.size (by decide) rfl
    rw [HZ.out] at h
    exact own_cut h (by decide : 2 ≤ 3)
  by_cases h3 : m = 3
  · subst h3
    go_enter Tryz.func150, Tryz.ntmps150
    go_wp2_with fail
    rw [← HWA.out]
    go_ret2
    refine ⟨_, ret_tup (c := .nilIface) (by rfl), ?_, HB.out.alloc HB.out.size _⟩
    have h := own_lit (cs := #[.int .i64 0, .int .i64 5, .int .i64 0]) (n := 3) wa HB.out.size (by decide) rfl
    rw [HZ.out] at h
    exact own_cut h (by decide : 3 ≤ 3)
  have q1 : (3 : Int) < (m : Int) := by omega
  have hmn : min (m : Int) 3 = 3 := by omega
  have q2 : ((m : Int) == 2) = false := by rw [beq_eq_false_iff_ne]; omega
  have q3 : ((m : Int) == 3) = false := by rw [beq_eq_false_iff_ne]; omega
  have HBO := Lib.hid (show (false : Bool) = (rolesP 29 m).2 by rw [show (rolesP 29 m).2 = (m == 2 || m == 3) from rfl]; simp [h2, h3])
  have HRO := Lib.hid (show (rolesP 29 m).1 = [0, 5, 0] by rw [show (rolesP 29 m).1 = [0, 5, 0].take (min m 3) from rfl, Nat.min_eq_right (by omega)]; rfl)
  clear h0 h1 h2 h3
  go_enter Tryz.func150, Tryz.ntmps150
  go_wp2_with fail
  rw [← HWA.out]
  go_ret2
  refine ⟨_, ret_tup (c := .nilIface) (by exact HBO.out), ?_, HB.out.alloc HB.out.size _⟩
  rw [HRO.out]
  have h := own_lit (cs := #[.int .i64 0, .int .i64 5, .int .i64 0]) (n := 3) wa HB.out.size (by decide) rfl
  rw [HZ.out] at h
  exact own_cut h (by decide : 3 ≤ 3)

set_option maxRecDepth 100000 in
set_option maxHeartbeats 2000000 in
theorem roles_none (ln : Int) (s : ByteArray) (k n : Int) (t : ByteArray) (vv : Value) (sa : Option Addr) (m sc : Nat) (w : World) (hm : m ≤ 4096) (op : Int) (hno : ¬((1 ≤ op ∧ op ≤ 29) ∨ (40 ≤ op ∧ op ≤ 52))) :
    Calls Tryz.prog 150 #[.agg #[.int .i64 op, .int .i64 ln, .string s, .int .i64 k, .int .i64 n, .string t, vv, .slice sa m sc]] w (RolesOut w op m) := by
  obtain ⟨wa, hwa⟩ : ∃ wa, wa = w.alloc (.cells #[.int .i64 op, .int .i64 ln, .string s, .int .i64 k, .int .i64 n, .string t, vv, .slice sa m sc] 31) := ⟨_, rfl⟩
  have hb : Below w.heap.size w wa := by rw [hwa]; exact (Below.refl _ _).alloc (Nat.le_refl _) _
  have hN : NdB wa w.heap.size (.int .i64 op) (.int .i64 ln) (.string s) (.int .i64 k) (.int .i64 n) (.string t) vv (.slice sa m sc) := by rw [hwa]; exact NdB.new _ _ _ _ _ _ _ _ _
  have v0 := hN.c0; have v7 := hN.c7
  rw [hwa] at v0 v7
  have HB := Lib.hid hb
  have HWA := Lib.hid hwa
  clear hb hN hwa
  have n1 : (op == 1) = false := by rw [beq_eq_false_iff_ne]; intro e; subst e; exact hno (by decide)
  have n2 : (op == 2) = false := by rw [beq_eq_false_iff_ne]; intro e; subst e; exact hno (by decide)
  have n3 : (op == 3) = false := by rw [beq_eq_false_iff_ne]; intro e; subst e; exact hno (by decide)
  have n4 : (op == 4) = false := by rw [beq_eq_false_iff_ne]; intro e; subst e; exact hno (by decide)
  have n5 : (op == 5) = false := by rw [beq_eq_false_iff_ne]; intro e; subst e; exact hno (by decide)
  have n6 : (op == 6) = false := by rw [beq_eq_false_iff_ne]; intro e; subst e; exact hno (by decide)
  have n7 : (op == 7) = false := by rw [beq_eq_false_iff_ne]; intro e; subst e; exact hno (by decide)
  have n8 : (op == 8) = false := by rw [beq_eq_false_iff_ne]; intro e; subst e; exact hno (by decide)
  have n9 : (op == 9) = false := by rw [beq_eq_false_iff_ne]; intro e; subst e; exact hno (by decide)
  have n10 : (op == 10) = false := by rw [beq_eq_false_iff_ne]; intro e; subst e; exact hno (by decide)
  have n11 : (op == 11) = false := by rw [beq_eq_false_iff_ne]; intro e; subst e; exact hno (by decide)
  have n12 : (op == 12) = false := by rw [beq_eq_false_iff_ne]; intro e; subst e; exact hno (by decide)
  have n13 : (op == 13) = false := by rw [beq_eq_false_iff_ne]; intro e; subst e; exact hno (by decide)
  have n14 : (op == 14) = false := by rw [beq_eq_false_iff_ne]; intro e; subst e; exact hno (by decide)
  have n15 : (op == 15) = false := by rw [beq_eq_false_iff_ne]; intro e; subst e; exact hno (by decide)
  have n16 : (op == 16) = false := by rw [beq_eq_false_iff_ne]; intro e; subst e; exact hno (by decide)
  have n17 : (op == 17) = false := by rw [beq_eq_false_iff_ne]; intro e; subst e; exact hno (by decide)
  have n18 : (op == 18) = false := by rw [beq_eq_false_iff_ne]; intro e; subst e; exact hno (by decide)
  have n19 : (op == 19) = false := by rw [beq_eq_false_iff_ne]; intro e; subst e; exact hno (by decide)
  have n20 : (op == 20) = false := by rw [beq_eq_false_iff_ne]; intro e; subst e; exact hno (by decide)
  have n21 : (op == 21) = false := by rw [beq_eq_false_iff_ne]; intro e; subst e; exact hno (by decide)
  have n22 : (op == 22) = false := by rw [beq_eq_false_iff_ne]; intro e; subst e; exact hno (by decide)
  have n23 : (op == 23) = false := by rw [beq_eq_false_iff_ne]; intro e; subst e; exact hno (by decide)
  have n24 : (op == 24) = false := by rw [beq_eq_false_iff_ne]; intro e; subst e; exact hno (by decide)
  have n25 : (op == 25) = false := by rw [beq_eq_false_iff_ne]; intro e; subst e; exact hno (by decide)
  have n26 : (op == 26) = false := by rw [beq_eq_false_iff_ne]; intro e; subst e; exact hno (by decide)
  have n27 : (op == 27) = false := by rw [beq_eq_false_iff_ne]; intro e; subst e; exact hno (by decide)
  have n28 : (op == 28) = false := by rw [beq_eq_false_iff_ne]; intro e; subst e; exact hno (by decide)
  have n29 : (op == 29) = false := by rw [beq_eq_false_iff_ne]; intro e; subst e; exact hno (by decide)
  have n40 : (op == 40) = false := by rw [beq_eq_false_iff_ne]; intro e; subst e; exact hno (by decide)
  have n41 : (op == 41) = false := by rw [beq_eq_false_iff_ne]; intro e; subst e; exact hno (by decide)
  have n42 : (op == 42) = false := by rw [beq_eq_false_iff_ne]; intro e; subst e; exact hno (by decide)
  have n43 : (op == 43) = false := by rw [beq_eq_false_iff_ne]; intro e; subst e; exact hno (by decide)
  have n44 : (op == 44) = false := by rw [beq_eq_false_iff_ne]; intro e; subst e; exact hno (by decide)
  have n45 : (op == 45) = false := by rw [beq_eq_false_iff_ne]; intro e; subst e; exact hno (by decide)
  have n46 : (op == 46) = false := by rw [beq_eq_false_iff_ne]; intro e; subst e; exact hno (by decide)
  have n47 : (op == 47) = false := by rw [beq_eq_false_iff_ne]; intro e; subst e; exact hno (by decide)
  have n48 : (op == 48) = false := by rw [beq_eq_false_iff_ne]; intro e; subst e; exact hno (by decide)
  have n49 : (op == 49) = false := by rw [beq_eq_false_iff_ne]; intro e; subst e; exact hno (by decide)
  have n50 : (op == 50) = false := by rw [beq_eq_false_iff_ne]; intro e; subst e; exact hno (by decide)
  have n51 : (op == 51) = false := by rw [beq_eq_false_iff_ne]; intro e; subst e; exact hno (by decide)
  have n52 : (op == 52) = false := by rw [beq_eq_false_iff_ne]; intro e; subst e; exact hno (by decide)
  have HR := Lib.hid (show rolesP op m = ([], false) by
    unfold rolesP
    have hx : ¬((1 ≤ op ∧ op ≤ 29) ∨ (40 ≤ op ∧ op ≤ 52)) := hno
    iterate 17 rw [if_neg (by omega)])
  clear hno
  go_enter Tryz.func150, Tryz.ntmps150
  go_wp2_with fail
  rw [← HWA.out]
  go_ret2
  exact ⟨_, ret_tup (c := .nilIface) (by rw [HR.out]), by rw [HR.out]; exact World.ownsRow_nil _ _ _ _, HB.out⟩
end Go.Proofs.YtggngahmafbihaaGreatDoor
