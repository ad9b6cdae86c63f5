/- Contracts of the functions that the statement reaches, and the plain mathematics beneath: several texts joined. -/
import Derived.Test.YtgmnbdfbbcpciaaGreatDoorSmB
import Derived.Deep.AppendLies
import Derived.Test.YtgmnbdfbbcpciaaGreatDoorSmD
import Derived.Deep.DeepCutAuto
import Derived.Test.YtgmnbdfbbcpciaaGreatDoorSmC
import Derived.Deep.CutBlock
import Derived.Test.YtgmnbdfbbcpciaaGreatDoorSmA
namespace Go.Proofs.YtgmnbdfbbcpciaaGreatDoor
open Go.RowKit Go.Lib
set_option linter.unusedVariables false

theorem own_cut {w : World} {base e n j cap : Nat} {A : Option Addr} {xs : List Value} (h : w.ownsRow base e 1 (.slice A n cap) n xs) (hj : j ≤ n) : w.ownsRow base e 1 (.slice A j cap) j (xs.take j) := by
  refine ⟨by rw [List.length_take, h.1]; omega, ?_⟩
  rcases h.2 with ⟨h0, h1⟩ | ⟨g, cap', cur, hv, hb1, hh, hn, hm, hc, ht⟩
  · injection h0 with e1 e2 e3
    subst e1; subst e3
    obtain rfl : j = 0 := by omega
    exact .inl ⟨rfl, rfl⟩
  · injection hv with e1 e2 e3
    subst e1; subst e3
    exact .inr ⟨g, cap, cur, rfl, hb1, hh, by omega, hm, hc, by rw [← ht, List.take_take, Nat.min_eq_left (by omega), Nat.mul_one]⟩

set_option maxRecDepth 100000 in
set_option maxHeartbeats 2000000 in
theorem roles_29 (ln : Int) (s : ByteArray) (k n : Int) (t : ByteArray) (vv : Value) (sa : Option Addr) (m sc : Nat) (w : World) (hm : m ≤ 4096) :
    Calls Tryz.prog 45 #[.agg #[.int .i64 29, .int .i64 ln, .string s, .int .i64 k, .int .i64 n, .string t, vv, .slice sa m sc]] w (RolesOut w 29 m) := by
  obtain ⟨wa, hwa⟩ : ∃ wa, wa = w.alloc (.cells #[.int .i64 29, .int .i64 ln, .string s, .int .i64 k, .int .i64 n, .string t, vv, .slice sa m sc] 33) := ⟨_, rfl⟩
  have hb : Below w.heap.size w wa := by rw [hwa]; exact (Below.refl _ _).alloc (Nat.le_refl _) _
  have hN : NdB wa w.heap.size (.int .i64 29) (.int .i64 ln) (.string s) (.int .i64 k) (.int .i64 n) (.string t) vv (.slice sa m sc) := by rw [hwa]; exact NdB.new _ _ _ _ _ _ _ _ _
  have v0 := hN.c0; have v7 := hN.c7
  rw [hwa] at v0 v7
  have HB := Lib.hid hb
  have HWA := Lib.hid hwa
  clear hb hN hwa
  have hz : wa.heap.size = w.heap.size + 1 := by rw [HWA.out]; simp
  have HZ := Lib.hid hz
  clear hz
  by_cases h0 : m = 0
  · subst h0
    go_enter Tryz.func45, Tryz.ntmps45
    go_wp2_with fail
    rw [← HWA.out]
    go_ret2
    refine ⟨_, ret_tup (c := .nilIface) (by rfl), ?_, HB.out.alloc HB.out.size _⟩
    have h := own_lit (cs := #[.int .i64 0, .int .i64 5, .int .i64 0]) (n := 3) wa HB.out.size (by decide) rfl
    rw [HZ.out] at h
    exact own_cut h (by decide : 0 ≤ 3)
  by_cases h1 : m = 1
  · subst h1
    go_enter Tryz.func45, Tryz.ntmps45
    go_wp2_with fail
    rw [← HWA.out]
    go_ret2
    refine ⟨_, ret_tup (c := .nilIface) (by rfl), ?_, HB.out.alloc HB.out.size _⟩
    have h := own_lit (cs := #[.int .i64 0, .int .i64 5, .int .i64 0]) (n := 3) wa HB.out.size (by decide) rfl
    rw [HZ.out] at h
    exact own_cut h (by decide : 1 ≤ 3)
  by_cases h2 : m = 2
  · subst h2
    go_enter Tryz.func45, Tryz.ntmps45
    go_wp2_with fail
    rw [← HWA.out]
    go_ret2
    refine ⟨_, ret_tup (c := .nilIface) (by rfl), ?_, HB.out.alloc HB.out.size _⟩
    have h := own_lit (cs := #[.int .i64 0, .int .i64 5, .int .i64 0]) (n := 3) wa HB.out.size (by decide) rfl
    rw [HZ.out] at h
    exact own_cut h (by decide : 2 ≤ 3)
  by_cases h3 : m = 3
  · subst h3
    go_enter Tryz.func45, Tryz.ntmps45
    go_wp2_with fail
    rw [← HWA.out]
    go_ret2
    refine ⟨_, ret_tup (c := .nilIface) (by rfl), ?_, HB.out.alloc HB.out.size _⟩
    have h := own_lit (cs := #[.int .i64 0, .int .i64 5, .int .i64 0]) (n := 3) wa HB.out.size (by decide) rfl
    rw [HZ.out] at h
    exact own_cut h (by decide : 3 ≤ 3)
  have q1 : (3 : Int) < (m : Int) := by omega
  have hmn : min (m : Int) 3 = 3 := by omega
  have q2 : ((m : Int) == 2) = false := by rw [beq_eq_false_iff_ne]; omega
  have q3 : ((m : Int) == 3) = false := by rw [beq_eq_false_iff_ne]; omega
  have HBO := Lib.hid (show (false : Bool) = (rolesP 29 m).2 by rw [show (rolesP 29 m).2 = (m == 2 || m == 3) from rfl]; simp [h2, h3])
  have HRO := Lib.hid (show (rolesP 29 m).1 = [0, 5, 0] by rw [show (rolesP 29 m).1 = [0, 5, 0].take (min m 3) from rfl, Nat.min_eq_right (by omega)]; rfl)
  clear h0 h1 h2 h3
  go_enter Tryz.func45, Tryz.ntmps45
  go_wp2_with fail
  rw [← HWA.out]
  go_ret2
  refine ⟨_, ret_tup (c := .nilIface) (by exact HBO.out), ?_, HB.out.alloc HB.out.size _⟩
  rw [HRO.out]
  have h := own_lit (cs := #[.int .i64 0, .int .i64 5, .int .i64 0]) (n := 3) wa HB.out.size (by decide) rfl
  rw [HZ.out] at h
  exact own_cut h (by decide : 3 ≤ 3)

set_option maxRecDepth 100000 in
set_option maxHeartbeats 2000000 in
theorem roles_none (ln : Int) (s : ByteArray) (k n : Int) (t : ByteArray) (vv : Value) (sa : Option Addr) (m sc : Nat) (w : World) (hm : m ≤ 4096) (op : Int) (hno : ¬((1 ≤ op ∧ op ≤ 29) ∨ (40 ≤ op ∧ op ≤ 52))) :
    Calls Tryz.prog 45 #[.agg #[.int .i64 op, .int .i64 ln, .string s, .int .i64 k, .int .i64 n, .string t, vv, .slice sa m sc]] w (RolesOut w op m) := by
  obtain ⟨wa, hwa⟩ : ∃ wa, wa = w.alloc (.cells #[.int .i64 op, .int .i64 ln, .string s, .int .i64 k, .int .i64 n, .string t, vv, .slice sa m sc] 33) := ⟨_, rfl⟩
  have hb : Below w.heap.size w wa := by rw [hwa]; exact (Below.refl _ _).alloc (Nat.le_refl _) _
  have hN : NdB wa w.heap.size (.int .i64 op) (.int .i64 ln) (.string s) (.int .i64 k) (.int .i64 n) (.string t) vv (.slice sa m sc) := by rw [hwa]; exact NdB.new _ _ _ _ _ _ _ _ _
  have v0 := hN.c0; have v7 := hN.c7
  rw [hwa] at v0 v7
  have HB := Lib.hid hb
  have HWA := Lib.hid hwa
  clear hb hN hwa
  have n1 : (op == 1) = false := by rw [beq_eq_false_iff_ne]; intro e; subst e; exact hno (by decide)
  have n2 : (op == 2) = false := by rw [beq_eq_false_iff_ne]; intro e; subst e; exact hno (by decide)
  have n3 : (op == 3) = false := by rw [beq_eq_false_iff_ne]; intro e; subst e; exact hno (by decide)
  have n4 : (op == 4) = false := by rw [beq_eq_false_iff_ne]; intro e; subst e; exact hno (by decide)
  have n5 : (op == 5) = false := by rw [beq_eq_false_iff_ne]; intro e; subst e; exact hno (by decide)
  have n6 : (op == 6) = false := by rw [beq_eq_false_iff_ne]; intro e; subst e; exact hno (by decide)
  have n7 : (op == 7) = false := by rw [beq_eq_false_iff_ne]; intro e; subst e; exact hno (by decide)
  have n8 : (op == 8) = false := by rw [beq_eq_false_iff_ne]; intro e; subst e; exact hno (by decide)
  have n9 : (op == 9) = false := by rw [beq_eq_false_iff_ne]; intro e; subst e; exact hno (by decide)
  have n10 : (op == 10) = false := by rw [beq_eq_false_iff_ne]; intro e; subst e; exact hno (by decide)
  have n11 : (op == 11) = false := by rw [beq_eq_false_iff_ne]; intro e; subst e; exact hno (by decide)
  have n12 : (op == 12) = false := by rw [beq_eq_false_iff_ne]; intro e; subst e; exact hno (by decide)
  have n13 : (op == 13) = false := by rw [beq_eq_false_iff_ne]; intro e; subst e; exact hno (by decide)
  have n14 : (op == 14) = false := by rw [beq_eq_false_iff_ne]; intro e; subst e; exact hno (by decide)
  have n15 : (op == 15) = false := by rw [beq_eq_false_iff_ne]; intro e; subst e; exact hno (by decide)
  have n16 : (op == 16) = false := by rw [beq_eq_false_iff_ne]; intro e; subst e; exact hno (by decide)
  have n17 : (op == 17) = false := by rw [beq_eq_false_iff_ne]; intro e; subst e; exact hno (by decide)
  have n18 : (op == 18) = false := by rw [beq_eq_false_iff_ne]; intro e; subst e; exact hno (by decide)
  have n19 : (op == 19) = false := by rw [beq_eq_false_iff_ne]; intro e; subst e; exact hno (by decide)
  have n20 : (op == 20) = false := by rw [beq_eq_false_iff_ne]; intro e; subst e; exact hno (by decide)
  have n21 : (op == 21) = false := by rw [beq_eq_false_iff_ne]; intro e; subst e; exact hno (by decide)
  have n22 : (op == 22) = false := by rw [beq_eq_false_iff_ne]; intro e; subst e; exact hno (by decide)
  have n23 : (op == 23) = false := by rw [beq_eq_false_iff_ne]; intro e; subst e; exact hno (by decide)
  have n24 : (op == 24) = false := by rw [beq_eq_false_iff_ne]; intro e; subst e; exact hno (by decide)
  have n25 : (op == 25) = false := by rw [beq_eq_false_iff_ne]; intro e; subst e; exact hno (by decide)
  have n26 : (op == 26) = false := by rw [beq_eq_false_iff_ne]; intro e; subst e; exact hno (by decide)
  have n27 : (op == 27) = false := by rw [beq_eq_false_iff_ne]; intro e; subst e; exact hno (by decide)
  have n28 : (op == 28) = false := by rw [beq_eq_false_iff_ne]; intro e; subst e; exact hno (by decide)
  have n29 : (op == 29) = false := by rw [beq_eq_false_iff_ne]; intro e; subst e; exact hno (by decide)
  have n40 : (op == 40) = false := by rw [beq_eq_false_iff_ne]; intro e; subst e; exact hno (by decide)
  have n41 : (op == 41) = false := by rw [beq_eq_false_iff_ne]; intro e; subst e; exact hno (by decide)
  have n42 : (op == 42) = false := by rw [beq_eq_false_iff_ne]; intro e; subst e; exact hno (by decide)
  have n43 : (op == 43) = false := by rw [beq_eq_false_iff_ne]; intro e; subst e; exact hno (by decide)
  have n44 : (op == 44) = false := by rw [beq_eq_false_iff_ne]; intro e; subst e; exact hno (by decide)
  have n45 : (op == 45) = false := by rw [beq_eq_false_iff_ne]; intro e; subst e; exact hno (by decide)
  have n46 : (op == 46) = false := by rw [beq_eq_false_iff_ne]; intro e; subst e; exact hno (by decide)
  have n47 : (op == 47) = false := by rw [beq_eq_false_iff_ne]; intro e; subst e; exact hno (by decide)
  have n48 : (op == 48) = false := by rw [beq_eq_false_iff_ne]; intro e; subst e; exact hno (by decide)
  have n49 : (op == 49) = false := by rw [beq_eq_false_iff_ne]; intro e; subst e; exact hno (by decide)
  have n50 : (op == 50) = false := by rw [beq_eq_false_iff_ne]; intro e; subst e; exact hno (by decide)
  have n51 : (op == 51) = false := by rw [beq_eq_false_iff_ne]; intro e; subst e; exact hno (by decide)
  have n52 : (op == 52) = false := by rw [beq_eq_false_iff_ne]; intro e; subst e; exact hno (by decide)
  have HR := Lib.hid (show rolesP op m = ([], false) by
    unfold rolesP
    have hx : ¬((1 ≤ op ∧ op ≤ 29) ∨ (40 ≤ op ∧ op ≤ 52)) := hno
    iterate 17 rw [if_neg (by omega)])
  clear hno
  go_enter Tryz.func45, Tryz.ntmps45
  go_wp2_with fail
  rw [← HWA.out]
  go_ret2
  exact ⟨_, ret_tup (c := .nilIface) (by rw [HR.out]), by rw [HR.out]; exact World.ownsRow_nil _ _ _ _, HB.out⟩
end Go.Proofs.YtgmnbdfbbcpciaaGreatDoor
namespace Go.Proofs.YtgmnbdfbbcpciaaGreatDoor
open Go.RowKit Go.Lib
set_option linter.unusedVariables false

set_option maxRecDepth 100000 in
set_option maxHeartbeats 2000000 in
theorem roles_28s (ln : Int) (s : ByteArray) (k n : Int) (t : ByteArray) (vv : Value) (sa : Option Addr) (m sc : Nat) (w : World) (hm : m < 2) :
    Calls Tryz.prog 45 #[.agg #[.int .i64 28, .int .i64 ln, .string s, .int .i64 k, .int .i64 n, .string t, vv, .slice sa m sc]] w (RolesOut w 28 m) := by
  obtain ⟨wa, hwa⟩ : ∃ wa, wa = w.alloc (.cells #[.int .i64 28, .int .i64 ln, .string s, .int .i64 k, .int .i64 n, .string t, vv, .slice sa m sc] 33) := ⟨_, rfl⟩
  have hb : Below w.heap.size w wa := by rw [hwa]; exact (Below.refl _ _).alloc (Nat.le_refl _) _
  have hN : NdB wa w.heap.size (.int .i64 28) (.int .i64 ln) (.string s) (.int .i64 k) (.int .i64 n) (.string t) vv (.slice sa m sc) := by rw [hwa]; exact NdB.new _ _ _ _ _ _ _ _ _
  have v0 := hN.c0; have v7 := hN.c7
  rw [hwa] at v0 v7
  have HB := Lib.hid hb
  have HWA := Lib.hid hwa
  clear hb hN hwa
  obtain ⟨i0, hi0, hz0, hz1, hz2⟩ := info_partsN int_info
  have HR := Lib.hid (show rolesP 28 m = ([0], false) by
    have : m = 0 ∨ m = 1 := by omega
    rcases this with rfl | rfl <;> rfl)
  have h1 : (m : Int) - 1 ≤ 0 := by omega
  have e1 : IntKind.i64.wrap ((m : Int) - 1) = (m : Int) - 1 := IntWalk.i64_in _ (by omega)
  have g1 : ¬ ((1 : Int) < (m : Int)) := by omega
  have g2 : ¬ ((2 : Int) ≤ (m : Int)) := by omega
  have g3 : (m : Int) - 1 = 0 ∨ (m : Int) - 1 = -1 := by omega
  have AC := Lib.hid (fun W => all_c 3 0 W (by decide) (by decide))
  rcases g3 with g3 | g3
  · go_enter Tryz.func45, Tryz.ntmps45
    go_wp2_with fail
    rw [← HWA.out]
    refine (AC.out wa).mono ?_
    rintro e w2 ⟨v1, rfl, ho, hb2⟩
    have HO := Lib.hid ho
    have HB2 := Lib.hid (HB.out.trans (below_le' hb2 HB.out.size))
    have hw2 : wa.heap.size ≤ w2.heap.size := hb2.size
    clear ho hb2
    go_wp2_with (at_builtin; refine wpList_append_own _ rfl (.tmp 94) (.tmp 95) 76 rfl wa.heap.size 3 i0 (.int .i64 0) 1 8 Tryz.underlying76 hi0 hz0 hz1 hz2 rfl (by decide) v1 0 (ints (List.replicate 0 3)) rfl (own_belowN HO.out ((Below.refl _ _).alloc (Nat.le_refl _) _)) ⟨w2.heap.size, 0, none⟩ 1 1 [.int .i64 0] rfl rfl ?c1 ?c2 ?c3 ?c4 ?c5 ?c6
                 case c1 => exact cell_one_new _ _ _
                 case c2 => intro u hu; simp at hu; subst hu; rfl
                 case c3 => decide
                 case c4 => decide
                 case c5 => simp; omega
                 intro v' w11 hown' hgrow _
                 have HB11 := Lib.hid (grown_belowN (HB2.out.alloc HB2.out.size _) (by have := HB2.out.size; simp; omega) hgrow (fun k hk => Nat.le_trans HB.out.size (own_geN HO.out k hk)))
                 have HO11 := Lib.hid hown'
                 clear hown' hgrow)
    go_ret2
    rw [show RolesOut w 28 m = RolesOut w 28 m from rfl]
    refine ⟨v', ?_, ?_, HB11.out⟩
    · rw [HR.out]; exact ret_tup (c := .nilIface) (by first | rfl | simp [g2])
    · rw [HR.out]; exact own_lower HO11.out HB.out.size
  · go_enter Tryz.func45, Tryz.ntmps45
    go_wp2_with fail
    rw [← HWA.out]
    refine (AC.out wa).mono ?_
    rintro e w2 ⟨v1, rfl, ho, hb2⟩
    have HO := Lib.hid ho
    have HB2 := Lib.hid (HB.out.trans (below_le' hb2 HB.out.size))
    have hw2 : wa.heap.size ≤ w2.heap.size := hb2.size
    clear ho hb2
    go_wp2_with (at_builtin; refine wpList_append_own _ rfl (.tmp 94) (.tmp 95) 76 rfl wa.heap.size 3 i0 (.int .i64 0) 1 8 Tryz.underlying76 hi0 hz0 hz1 hz2 rfl (by decide) v1 0 (ints (List.replicate 0 3)) rfl (own_belowN HO.out ((Below.refl _ _).alloc (Nat.le_refl _) _)) ⟨w2.heap.size, 0, none⟩ 1 1 [.int .i64 0] rfl rfl ?d1 ?d2 ?d3 ?d4 ?d5 ?d6
                 case d1 => exact cell_one_new _ _ _
                 case d2 => intro u hu; simp at hu; subst hu; rfl
                 case d3 => decide
                 case d4 => decide
                 case d5 => simp; omega
                 intro v' w11 hown' hgrow _
                 have HB11 := Lib.hid (grown_belowN (HB2.out.alloc HB2.out.size _) (by have := HB2.out.size; simp; omega) hgrow (fun k hk => Nat.le_trans HB.out.size (own_geN HO.out k hk)))
                 have HO11 := Lib.hid hown'
                 clear hown' hgrow)
    go_ret2
    refine ⟨v', ?_, ?_, HB11.out⟩
    · rw [HR.out]; exact ret_tup (c := .nilIface) (by first | rfl | simp [g2])
    · rw [HR.out]; exact own_lower HO11.out HB.out.size

theorem rep_set (j : Nat) : (ints (List.replicate (j + 1) 3)).set j (.int .i64 4) = ints (List.replicate j 3 ++ [4]) := by
  rw [List.replicate_succ', ints_app, ints_app, List.set_append_right _ _ (by rw [ints_len, List.length_replicate]; exact Nat.le_refl _), ints_len, List.length_replicate, Nat.sub_self]
  rfl

set_option maxRecDepth 100000 in
set_option maxHeartbeats 2000000 in
theorem roles_28b (ln : Int) (s : ByteArray) (k n : Int) (t : ByteArray) (vv : Value) (sa : Option Addr) (m sc : Nat) (w : World) (hm : m ≤ 4096) (hm2 : 2 ≤ m) :
    Calls Tryz.prog 45 #[.agg #[.int .i64 28, .int .i64 ln, .string s, .int .i64 k, .int .i64 n, .string t, vv, .slice sa m sc]] w (RolesOut w 28 m) := by
  obtain ⟨wa, hwa⟩ : ∃ wa, wa = w.alloc (.cells #[.int .i64 28, .int .i64 ln, .string s, .int .i64 k, .int .i64 n, .string t, vv, .slice sa m sc] 33) := ⟨_, rfl⟩
  have hb : Below w.heap.size w wa := by rw [hwa]; exact (Below.refl _ _).alloc (Nat.le_refl _) _
  have hN : NdB wa w.heap.size (.int .i64 28) (.int .i64 ln) (.string s) (.int .i64 k) (.int .i64 n) (.string t) vv (.slice sa m sc) := by rw [hwa]; exact NdB.new _ _ _ _ _ _ _ _ _
  have v0 := hN.c0; have v7 := hN.c7
  rw [hwa] at v0 v7
  have HB := Lib.hid hb
  have HWA := Lib.hid hwa
  clear hb hN hwa
  obtain ⟨i0, hi0, hz0, hz1, hz2⟩ := info_partsN int_info
  obtain ⟨j, hj⟩ : ∃ j : Nat, m = j + 2 := ⟨m - 2, by omega⟩
  have HR := Lib.hid (show rolesP 28 m = (List.replicate j 3 ++ [4] ++ [0], true) by
    have h1 : (rolesP 28 m).1 = (List.replicate (m - 2) 3 ++ (if 1 < m then [4] else [])) ++ [0] := rfl
    have h2 : (rolesP 28 m).2 = decide (2 ≤ m) := rfl
    rw [if_pos (by omega), show m - 2 = j by omega] at h1
    rw [decide_eq_true hm2] at h2
    rw [← h1, ← h2])
  have h1 : (m : Int) - 1 = ((j + 1 : Nat) : Int) := by omega
  have h0 : (0 : Int) ≤ ((j + 1 : Nat) : Int) := by omega
  have h2 : (m : Int) - 2 = (j : Int) := by omega
  have e1 : IntKind.i64.wrap ((m : Int) - 1) = ((j + 1 : Nat) : Int) := by rw [h1]; exact IntWalk.i64_in _ (by omega)
  have e2 : IntKind.i64.wrap ((m : Int) - 2) = (j : Int) := by rw [h2]; exact IntWalk.i64_in _ (by omega)
  have g1 : (1 : Int) < (m : Int) := by omega
  have g2 : (2 : Int) ≤ (m : Int) := by omega
  have g4 : j < j + 1 := by omega
  have hmx : max ((j + 1 : Nat) : Int) 0 = ((j + 1 : Nat) : Int) := by omega
  have hmx2 : max ((j : Int) + 1) 0 = (j : Int) + 1 := by omega
  have AC := Lib.hid (fun W => all_c 3 (j + 1) W (by decide) (by omega))
  have hj4 : j ≤ 4096 := by omega
  clear h1 h2 hj
  go_enter Tryz.func45, Tryz.ntmps45
  go_wp2_with fail
  rw [← HWA.out]
  refine (AC.out wa).mono ?_
  rintro e w2 ⟨v1, rfl, ho, hb2⟩
  obtain ⟨g, cap, hv, hbg, hlt⟩ := ho.form (by omega)
  subst hv
  have HO := Lib.hid ho
  have HB2 := Lib.hid (HB.out.trans (below_le' hb2 HB.out.size))
  have hw2 : wa.heap.size ≤ w2.heap.size := hb2.size
  have f0 := ho.frozenAt j
  have c0 : w2.cell? ⟨g, j, none⟩ = some (.int .i64 3) := by rw [ho.cellAt j (by omega)]; simp [ints]
  have hst := ho.stored j (.int .i64 4)
  rw [rep_set] at hst
  have HS := Lib.hid hst
  clear ho hb2 hst
  go_wp2_with (at_builtin; refine wpList_append_own _ rfl (.tmp 94) (.tmp 95) 76 rfl wa.heap.size 3 i0 (.int .i64 0) 1 8 Tryz.underlying76 hi0 hz0 hz1 hz2 rfl (by decide) (.slice (some ⟨g, 0, none⟩) (j + 1) cap) (j + 1) (ints (List.replicate j 3 ++ [4])) rfl (own_belowN HS.out.1 ((Below.refl _ _).alloc (Nat.le_refl _) _)) ⟨w2.heap.size, 0, none⟩ 1 1 [.int .i64 0] rfl rfl ?c1 ?c2 ?c3 ?c4 ?c5 ?c6
               case c1 => have h := cell_one_new (w2.setCell ⟨g, j, none⟩ (.int .i64 4)) (.int .i64 0) 3; rw [show (w2.setCell ⟨g, j, none⟩ (.int .i64 4)).heap.size = w2.heap.size by simp [World.setCell]] at h; exact h
               case c2 => intro u hu; simp at hu; subst hu; rfl
               case c3 => unfold maxLen; omega
               case c4 => omega
               case c5 => have := HS.out.2.size; simp at this ⊢; omega
               intro v' w11 hown' hgrow _
               have hb3 := grown_belowN HB2.out HB2.out.size HS.out.2 (fun k hk => by injection hk with hk; subst hk; have := HB.out.size; show w.heap.size ≤ g; omega)
               have HB11 := Lib.hid (grown_belowN (hb3.alloc hb3.size _) (by have := hb3.size; simp at this ⊢; omega) hgrow (fun k hk => by injection hk with hk; subst hk; have := HB.out.size; show w.heap.size ≤ g; omega))
               have HO11 := Lib.hid hown'
               clear hown' hgrow hb3)
  go_ret2
  refine ⟨v', ?_, ?_, HB11.out⟩
  · rw [HR.out]; exact ret_tup (c := .nilIface) (by first | rfl | simp [g2])
  · rw [HR.out]
    have h := own_lower HO11.out HB.out.size
    rw [show ints (List.replicate j 3 ++ [4] ++ [0]) = ints (List.replicate j 3 ++ [4]) ++ [.int .i64 0] from ints_app _ _]
    simpa using h

theorem roles_28 (ln : Int) (s : ByteArray) (k n : Int) (t : ByteArray) (vv : Value) (sa : Option Addr) (m sc : Nat) (w : World) (hm : m ≤ 4096) :
    Calls Tryz.prog 45 #[.agg #[.int .i64 28, .int .i64 ln, .string s, .int .i64 k, .int .i64 n, .string t, vv, .slice sa m sc]] w (RolesOut w 28 m) := by
  by_cases h : m < 2
  · exact roles_28s ln s k n t vv sa m sc w h
  · exact roles_28b ln s k n t vv sa m sc w hm (by omega)
end Go.Proofs.YtgmnbdfbbcpciaaGreatDoor
namespace Go.Proofs.YtgmnbdfbbcpciaaGreatDoor
open Go.RowKit Go.Lib
set_option linter.unusedVariables false

def rolI (i : Nat) : Nat := if i % 2 = 0 then 0 else 6
theorem rows_succ (i : Nat) : ints ((List.range (i + 1)).map rolI) = ints ((List.range i).map rolI) ++ [.int .i64 (rolI i : Int)] := by
  rw [List.range_succ, List.map_append, ints_app]; rfl
theorem rows_len (i : Nat) : ((List.range i).map rolI).length = i := by simp
theorem roles_41_even (m : Nat) (h : m % 2 = 0) : (rolesP 41 m).1 = (List.range m).map rolI := by
  show (List.range m).map (fun i => if m % 2 = 1 ∧ i = m - 1 then 6 else if i % 2 = 0 then 0 else 6) = _
  apply List.map_congr_left
  intro i _
  rw [if_neg (by omega)]; rfl
theorem roles_41_odd (m : Nat) (h : m % 2 = 1) : ints (rolesP 41 m).1 = (ints ((List.range m).map rolI)).set (m - 1) (.int .i64 6) := by
  obtain ⟨j, rfl⟩ : ∃ j, m = j + 1 := ⟨m - 1, by omega⟩
  have e : (rolesP 41 (j + 1)).1 = (List.range (j + 1)).map (fun i => if (j + 1) % 2 = 1 ∧ i = j + 1 - 1 then 6 else if i % 2 = 0 then 0 else 6) := rfl
  rw [e, rows_succ, List.range_succ, List.map_append, ints_app, show j + 1 - 1 = j from rfl, List.set_append_right _ _ (by rw [ints_len, rows_len]; exact Nat.le_refl _), ints_len, rows_len, Nat.sub_self]
  congr 1
  · congr 1
    apply List.map_congr_left
    intro i hi
    rw [List.mem_range] at hi
    rw [if_neg (by omega)]; rfl
  · show ints [if (j + 1) % 2 = 1 ∧ j = j then 6 else _] = _
    rw [if_pos ⟨h, rfl⟩]; rfl

set_option maxRecDepth 100000 in
set_option maxHeartbeats 4000000 in
theorem roles_41 (ln : Int) (s : ByteArray) (k n : Int) (t : ByteArray) (vv : Value) (sa : Option Addr) (m sc : Nat) (w : World) (hm : m ≤ 4096) :
    Calls Tryz.prog 45 #[.agg #[.int .i64 41, .int .i64 ln, .string s, .int .i64 k, .int .i64 n, .string t, vv, .slice sa m sc]] w (RolesOut w 41 m) := by
  obtain ⟨wa, hwa⟩ : ∃ wa, wa = w.alloc (.cells #[.int .i64 41, .int .i64 ln, .string s, .int .i64 k, .int .i64 n, .string t, vv, .slice sa m sc] 33) := ⟨_, rfl⟩
  have hb : Below w.heap.size w wa := by rw [hwa]; exact (Below.refl _ _).alloc (Nat.le_refl _) _
  have hN : NdB wa w.heap.size (.int .i64 41) (.int .i64 ln) (.string s) (.int .i64 k) (.int .i64 n) (.string t) vv (.slice sa m sc) := by rw [hwa]; exact NdB.new _ _ _ _ _ _ _ _ _
  have v0 := hN.c0; have v7 := hN.c7
  rw [hwa] at v0 v7
  have HB := Lib.hid hb
  have HWA := Lib.hid hwa
  clear hb hN hwa
  obtain ⟨i0, hi0, hz0, hz1, hz2⟩ := info_partsN int_info
  go_enter Tryz.func45, Tryz.ntmps45
  go_wp2_with fail
  rw [← HWA.out]
  go_loopg [7, 114] m (fun kk ov v wr => ∃ (bv : Value) (i : Nat), bv = ov ∧ v = .int .i64 i ∧ i + kk = m ∧ wr.ownsRow wa.heap.size 3 1 bv i (ints ((List.range i).map rolI)) ∧ Below w.heap.size w wr ∧ wa.heap.size ≤ wr.heap.size)
  case atStart => exact ⟨.slice none 0 0, 0, rfl, rfl, by omega, World.ownsRow_nil _ _ _ _, HB.out, Nat.le_refl _⟩
  case round =>
    obtain ⟨bv, i, rfl, rfl, hik, hrow, hbr, hrz⟩ := hrel
    by_cases hi : i < m
    · obtain ⟨g, rfl⟩ : ∃ g, gk = g + 1 := ⟨gk - 1, by omega⟩
      have HROW := Lib.hid hrow
      have HBR := Lib.hid hbr
      clear hrow hbr
      obtain ⟨wx, hwx⟩ : ∃ wx, wx = wr.alloc (.cells #[.int .i64 0, .int .i64 6] 3) := ⟨_, rfl⟩
      have hbx : Below wr.heap.size wr wx := by rw [hwx]; exact (Below.refl _ _).alloc (Nat.le_refl _) _
      have hxh := heap_alloc_new wr (.cells #[.int .i64 0, .int .i64 6] 3)
      have x0 := cell_of_row _ wr.heap.size 0 _ _ _ hxh
      have x1 := cell_of_row _ wr.heap.size 1 _ _ _ hxh
      have hxz : wx.heap.size = wr.heap.size + 1 := by rw [hwx]; simp
      have HX := Lib.hid (own_belowN HROW.out hbx)
      have HBX := Lib.hid (HBR.out.trans (below_le' hbx HBR.out.size))
      have HWX := Lib.hid hwx
      clear hbx hxh hwx
      rcases Nat.mod_two_eq_zero_or_one i with hp | hp
      · have t1 : Int.tmod (i : Int) 2 = 0 := by rw [Int.tmod_eq_emod_of_nonneg (by omega)]; omega
        have hri : rolI i = 0 := by unfold rolI; rw [if_pos hp]
        go_wp2_with (at_builtin; refine wpList_append_own _ rfl (.tmp 117) (.tmp 123) 76 rfl wa.heap.size 3 i0 (.int .i64 0) 1 8 Tryz.underlying76 hi0 hz0 hz1 hz2 rfl (by decide) bv i (ints ((List.range i).map rolI)) rfl (own_belowN (by rw [← HWX.out]; exact HX.out) ((Below.refl _ _).alloc (Nat.le_refl _) _)) ⟨wr.heap.size + 1, 0, none⟩ 1 1 [.int .i64 0] rfl rfl ?c1 ?c2 ?c3 ?c4 ?c5 ?c6
                     case c1 => have h := cell_one_new (wr.alloc (.cells #[.int .i64 0, .int .i64 6] 3)) (.int .i64 0) 3; rw [show (wr.alloc (.cells #[.int .i64 0, .int .i64 6] 3)).heap.size = wr.heap.size + 1 by simp] at h; exact h
                     case c2 => intro u hu; simp at hu; subst hu; rfl
                     case c3 => unfold maxLen; omega
                     case c4 => omega
                     case c5 => simp; omega
                     rw [← HWX.out]
                     intro v' w11 hown' hgrow _
                     have hb3 := HBX.out.alloc HBX.out.size (.cells #[.int .i64 0] 3)
                     have HB11 := Lib.hid (grown_belowN hb3 hb3.size hgrow (fun k hk => Nat.le_trans HB.out.size (own_geN HX.out k hk)))
                     have HZ11 := Lib.hid (show wa.heap.size ≤ w11.heap.size by have := hgrow.size; simp at this; omega)
                     have HO11 := Lib.hid hown'
                     clear hown' hgrow hb3)
        go_roundg g
        case measure => omega
        case rel => exact ⟨v', i + 1, rfl, by go_num, by omega, by rw [rows_succ, hri]; exact HO11.out, HB11.out, HZ11.out⟩
      · have t1 : Int.tmod (i : Int) 2 = 1 := by rw [Int.tmod_eq_emod_of_nonneg (by omega)]; omega
        have hri : rolI i = 6 := by unfold rolI; rw [if_neg (by omega)]
        go_wp2_with (at_builtin; refine wpList_append_own _ rfl (.tmp 117) (.tmp 123) 76 rfl wa.heap.size 3 i0 (.int .i64 0) 1 8 Tryz.underlying76 hi0 hz0 hz1 hz2 rfl (by decide) bv i (ints ((List.range i).map rolI)) rfl (own_belowN (by rw [← HWX.out]; exact HX.out) ((Below.refl _ _).alloc (Nat.le_refl _) _)) ⟨wr.heap.size + 1, 0, none⟩ 1 1 [.int .i64 6] rfl rfl ?d1 ?d2 ?d3 ?d4 ?d5 ?d6
                     case d1 => have h := cell_one_new (wr.alloc (.cells #[.int .i64 0, .int .i64 6] 3)) (.int .i64 6) 3; rw [show (wr.alloc (.cells #[.int .i64 0, .int .i64 6] 3)).heap.size = wr.heap.size + 1 by simp] at h; exact h
                     case d2 => intro u hu; simp at hu; subst hu; rfl
                     case d3 => unfold maxLen; omega
                     case d4 => omega
                     case d5 => simp; omega
                     rw [← HWX.out]
                     intro v' w11 hown' hgrow _
                     have hb3 := HBX.out.alloc HBX.out.size (.cells #[.int .i64 6] 3)
                     have HB11 := Lib.hid (grown_belowN hb3 hb3.size hgrow (fun k hk => Nat.le_trans HB.out.size (own_geN HX.out k hk)))
                     have HZ11 := Lib.hid (show wa.heap.size ≤ w11.heap.size by have := hgrow.size; simp at this; omega)
                     have HO11 := Lib.hid hown'
                     clear hown' hgrow hb3)
        go_roundg g
        case measure => omega
        case rel => exact ⟨v', i + 1, rfl, by go_num, by omega, by rw [rows_succ, hri]; exact HO11.out, HB11.out, HZ11.out⟩
    · obtain rfl : i = m := by omega
      have HR2 := Lib.hid (show decide ((2 : Int) ≤ (i : Int)) = (rolesP 41 i).2 by rw [show (rolesP 41 i).2 = decide (2 ≤ i) from rfl, ← le_nat]; rfl)
      rcases Nat.mod_two_eq_zero_or_one i with hp | hp
      · have t1 : Int.tmod (i : Int) 2 = 0 := by rw [Int.tmod_eq_emod_of_nonneg (by omega)]; omega
        have HROW := Lib.hid hrow
        have HBR := Lib.hid hbr
        have HRE := Lib.hid (roles_41_even i hp)
        clear hrow hbr hp
        go_wp2_with fail
        go_ret2
        refine ⟨bv, ret_tup (c := .nilIface) HR2.out, ?_, HBR.out⟩
        rw [HRE.out, rows_len]
        exact own_lower HROW.out HB.out.size
      · have t1 : Int.tmod (i : Int) 2 = 1 := by rw [Int.tmod_eq_emod_of_nonneg (by omega)]; omega
        have q0 : (0 : Int) < (i : Int) := by omega
        obtain ⟨j, hj⟩ : ∃ j : Nat, i = j + 1 := ⟨i - 1, by omega⟩
        have e1 : IntKind.i64.wrap ((i : Int) - 1) = (j : Int) := by rw [show (i : Int) - 1 = (j : Int) by omega]; exact IntWalk.i64_in _ (by omega)
        have g4 : j < i := by omega
        obtain ⟨g, cap, hv, hbg, hlt⟩ := hrow.form (by omega)
        subst hv
        have f0 := hrow.frozenAt j
        obtain ⟨u0, hu0⟩ : ∃ u0 : Nat, (ints ((List.range i).map rolI))[j]? = some (.int .i64 (u0 : Int)) := by
          refine ⟨rolI j, ?_⟩
          simp [ints, g4]
        have c0 : wr.cell? ⟨g, j, none⟩ = some (.int .i64 (u0 : Int)) := by rw [hrow.cellAt j (by omega)]; exact hu0
        have hst := hrow.stored j (.int .i64 6)
        have HRO := Lib.hid (roles_41_odd i hp)
        rw [show i - 1 = j by omega] at HRO
        rw [← HRO.out] at hst
        have HS := Lib.hid hst
        have HBR := Lib.hid hbr
        have HL := Lib.hid (show (rolesP 41 i).1.length = i by show ((List.range i).map _).length = i; rw [List.length_map, List.length_range])
        clear hrow hbr hst hp hu0 hj
        go_wp2_with fail
        go_ret2
        refine ⟨_, ret_tup (c := .nilIface) HR2.out, ?_, grown_belowN HBR.out HBR.out.size HS.out.2 (fun k hk => by injection hk with hk; subst hk; have := HB.out.size; omega)⟩
        rw [HL.out]
        exact own_lower HS.out.1 HB.out.size
end Go.Proofs.YtgmnbdfbbcpciaaGreatDoor
namespace Go.Proofs.YtgmnbdfbbcpciaaGreatDoor
open Go.RowKit Go.Lib
set_option linter.unusedVariables false

theorem roles_c (op ln : Int) (s : ByteArray) (k n : Int) (t : ByteArray) (vv : Value) (sa : Option Addr) (m sc : Nat) (w : World) (hm : m ≤ 4096) :
    Calls Tryz.prog 45 #[.agg #[.int .i64 op, .int .i64 ln, .string s, .int .i64 k, .int .i64 n, .string t, vv, .slice sa m sc]] w (RolesOut w op m) := by
  by_cases h : (1 ≤ op ∧ op ≤ 29) ∨ (40 ≤ op ∧ op ≤ 52)
  · have hk : op = 1 ∨ op = 2 ∨ op = 3 ∨ op = 4 ∨ op = 5 ∨ op = 6 ∨ op = 7 ∨ op = 8 ∨ op = 9 ∨ op = 10 ∨ op = 11 ∨ op = 12 ∨ op = 13 ∨ op = 14 ∨ op = 15 ∨ op = 16 ∨ op = 17 ∨ op = 18 ∨ op = 19 ∨ op = 20 ∨ op = 21 ∨ op = 22 ∨ op = 23 ∨ op = 24 ∨ op = 25 ∨ op = 26 ∨ op = 27 ∨ op = 28 ∨ op = 29 ∨ op = 40 ∨ op = 41 ∨ op = 42 ∨ op = 43 ∨ op = 44 ∨ op = 45 ∨ op = 46 ∨ op = 47 ∨ op = 48 ∨ op = 49 ∨ op = 50 ∨ op = 51 ∨ op = 52 := by omega
    rcases hk with rfl | rfl | rfl | rfl | rfl | rfl | rfl | rfl | rfl | rfl | rfl | rfl | rfl | rfl | rfl | rfl | rfl | rfl | rfl | rfl | rfl | rfl | rfl | rfl | rfl | rfl | rfl | rfl | rfl | rfl | rfl | rfl | rfl | rfl | rfl | rfl | rfl | rfl | rfl | rfl | rfl | rfl
    · exact roles_1 ln s k n t vv sa m sc w hm
    · exact roles_2 ln s k n t vv sa m sc w hm
    · exact roles_3 ln s k n t vv sa m sc w hm
    · exact roles_4 ln s k n t vv sa m sc w hm
    · exact roles_5 ln s k n t vv sa m sc w hm
    · exact roles_6 ln s k n t vv sa m sc w hm
    · exact roles_7 ln s k n t vv sa m sc w hm
    · exact roles_8 ln s k n t vv sa m sc w hm
    · exact roles_9 ln s k n t vv sa m sc w hm
    · exact roles_10 ln s k n t vv sa m sc w hm
    · exact roles_11 ln s k n t vv sa m sc w hm
    · exact roles_12 ln s k n t vv sa m sc w hm
    · exact roles_13 ln s k n t vv sa m sc w hm
    · exact roles_14 ln s k n t vv sa m sc w hm
    · exact roles_15 ln s k n t vv sa m sc w hm
    · exact roles_16 ln s k n t vv sa m sc w hm
    · exact roles_17 ln s k n t vv sa m sc w hm
    · exact roles_18 ln s k n t vv sa m sc w hm
    · exact roles_19 ln s k n t vv sa m sc w hm
    · exact roles_20 ln s k n t vv sa m sc w hm
    · exact roles_21 ln s k n t vv sa m sc w hm
    · exact roles_22 ln s k n t vv sa m sc w hm
    · exact roles_23 ln s k n t vv sa m sc w hm
    · exact roles_24 ln s k n t vv sa m sc w hm
    · exact roles_25 ln s k n t vv sa m sc w hm
    · exact roles_26 ln s k n t vv sa m sc w hm
    · exact roles_27 ln s k n t vv sa m sc w hm
    · exact roles_28 ln s k n t vv sa m sc w hm
    · exact roles_29 ln s k n t vv sa m sc w hm
    · exact roles_40 ln s k n t vv sa m sc w hm
    · exact roles_41 ln s k n t vv sa m sc w hm
    · exact roles_42 ln s k n t vv sa m sc w hm
    · exact roles_43 ln s k n t vv sa m sc w hm
    · exact roles_44 ln s k n t vv sa m sc w hm
    · exact roles_45 ln s k n t vv sa m sc w hm
    · exact roles_46 ln s k n t vv sa m sc w hm
    · exact roles_47 ln s k n t vv sa m sc w hm
    · exact roles_48 ln s k n t vv sa m sc w hm
    · exact roles_49 ln s k n t vv sa m sc w hm
    · exact roles_50 ln s k n t vv sa m sc w hm
    · exact roles_51 ln s k n t vv sa m sc w hm
    · exact roles_52 ln s k n t vv sa m sc w hm
  · exact roles_none ln s k n t vv sa m sc w hm op h
end Go.Proofs.YtgmnbdfbbcpciaaGreatDoor
namespace Go.Proofs.YtgmnbdfbbcpciaaGreatDoor
open Go.RowKit Go.Lib
set_option linter.unusedVariables false

/-- What is amiss, by the errors' numbers. -/
def ownC (c : Nat) : Nat := if c = 0 then 0 else if c = 1 then 103 else 106
theorem empty_size (s : ByteArray) : (s.toList.isEmpty = true ∧ s.toList = [] ∧ s.size = 0) ∨ (s.toList.isEmpty = false ∧ ¬s.toList = [] ∧ s.size ≠ 0) := by
  have hs : s.data.toList.length = s.size := by rw [Array.length_toList]; rfl
  rcases empty_iff s with ⟨h1, h2, h3⟩ | ⟨h1, h2, h3⟩
  · exact .inl ⟨h1, h2, by rw [← hs, h3]; rfl⟩
  · exact .inr ⟨h1, h2, fun e => h3 (List.eq_nil_of_length_eq_zero (by omega))⟩
/-- May a node stand there, as far as it itself goes? -/
def fairN1 (op : Int) (role : Nat) (loop : Bool) : Bool := standsP op role && (loop || (op != 45 && op != 46))
def fairN2 (op k n : Int) (t : ByteArray) (v : VL) : Bool := if op = 1 then k != 4 && (walk1 k n t v 1 4096).1 == 0 && (k != 0 || n != -9223372036854775808) else k == 0 && n == 0 && t.size == 0 && v.len == 0
theorem ownN_eq (op : Int) (s : ByteArray) (k n : Int) (t : ByteArray) (v : VL) (m role : Nat) (loop : Bool) :
    ownN op s k n t v m role loop = if (!(fairN1 op role loop && fairN2 op k n t v) || !(rolesP op m).2 || (!(namedP op).1 && s.size != 0)) = true then 1 else if ((namedP op).1 && !nameB s && !((namedP op).2 && s.size == 0)) = true then 2 else 0 := rfl

set_option maxRecDepth 100000 in
set_option maxHeartbeats 4000000 in
theorem own_tc (op ln : Int) (s : ByteArray) (k n : Int) (t : ByteArray) (v : VL) (va : Option Addr) (vc : Nat) (sa : Option Addr) (m sc : Nat) (role : Nat) (loop : Bool) (ea : Nat → Addr) (w : World) (he : ErrsAt w ea)
    (hs : s.size ≤ 140737488351232) (ht : t.size ≤ 140737488351232) (hl : v.len ≤ 140737488351232) (hf : v.fit) (hvc : v.len ≤ vc) (hm : m ≤ 4096) (hr : role ≤ 8) (hv : RpL w (fun b => b < w.heap.size) v va) :
    Calls Tryz.prog 44 #[.agg #[.int .i64 op, .int .i64 ln, .string s, .int .i64 k, .int .i64 n, .string t, .slice va v.len vc, .slice sa m sc], .int .i64 (role : Int), .bool loop] w
      fun e w' => e = .returned (errV ea (ownC (ownN op s k n t v m role loop))) ∧ Below w.heap.size w w' := by
  have hroom := he.room
  obtain ⟨wa, hwa⟩ : ∃ wa, wa = w.alloc (.cells #[.int .i64 op, .int .i64 ln, .string s, .int .i64 k, .int .i64 n, .string t, .slice va v.len vc, .slice sa m sc] 33) := ⟨_, rfl⟩
  have hb : Below w.heap.size w wa := by rw [hwa]; exact (Below.refl _ _).alloc (Nat.le_refl _) _
  have hN : NdB wa w.heap.size (.int .i64 op) (.int .i64 ln) (.string s) (.int .i64 k) (.int .i64 n) (.string t) (.slice va v.len vc) (.slice sa m sc) := by rw [hwa]; exact NdB.new _ _ _ _ _ _ _ _ _
  have v0 := hN.c0; have v1 := hN.c1; have v2 := hN.c2; have v3 := hN.c3; have v4 := hN.c4; have v5 := hN.c5; have v6 := hN.c6; have v7 := hN.c7
  have STC := Lib.hid (stands_c op ln s k n t (.slice va v.len vc) (.slice sa m sc) role wa hr)
  have HN := Lib.hid hN
  have HB := Lib.hid hb
  have HWA := Lib.hid hwa
  have HE := Lib.hid (he.below hb (Nat.le_of_lt hroom))
  have HV := Lib.hid (hv.keep (w' := wa) (fun b hlt => hb.block b hlt) (fun b hlt => Nat.lt_of_lt_of_le hlt hb.size))
  have hza : 10 < wa.heap.size := by have := hb.size; omega
  clear hb hN hwa he hv
  go_enter Tryz.func44, Tryz.ntmps44
  go_upto_region 1 with fail
  rw [← HWA.out]
  go_cut [7] (fun c wx => c = .bool (fairN1 op role loop) ∧ Hid (Below wa.heap.size wa wx))
  case first =>
    go_wp2_with fail
    refine STC.out.mono ?_
    rintro e w2 ⟨rfl, hb2⟩
    have hN2 := HN.out.below' hb2
    have x0 := hN2.c0
    have HB2 := Lib.hid hb2
    clear hb2 hN2 v0 v1 v2 v3 v4 v5 v6 v7
    cases hsx : standsP op role with
    | false =>
      have HF := Lib.hid (show fairN1 op role loop = false by unfold fairN1; rw [hsx]; rfl)
      clear hsx
      go_wp2_with fail
      go_meet
      exact ⟨by rw [HF.out], HB2.out⟩
    | true =>
      cases loop with
      | true =>
        have HF := Lib.hid (show fairN1 op role true = true by unfold fairN1; rw [hsx]; rfl)
        clear hsx
        go_wp2_with fail
        go_meet
        exact ⟨by rw [HF.out], HB2.out⟩
      | false =>
        by_cases h45 : op = 45
        · have HF := Lib.hid (show fairN1 op role false = false by unfold fairN1; rw [hsx, h45]; rfl)
          have b1 : (op != 45) = false := by rw [h45]; rfl
          clear hsx h45
          go_wp2_with fail
          go_meet
          exact ⟨by rw [HF.out], HB2.out⟩
        have b1 := bne_yes h45
        by_cases h46 : op = 46
        · have HF := Lib.hid (show fairN1 op role false = false by unfold fairN1; rw [hsx, h46]; rfl)
          have b2 : (op != 46) = false := by rw [h46]; rfl
          clear hsx h46 h45
          go_wp2_with fail
          go_meet
          exact ⟨by rw [HF.out], HB2.out⟩
        have b2 := bne_yes h46
        have HF := Lib.hid (show fairN1 op role false = true by unfold fairN1; rw [hsx, b1, b2]; rfl)
        clear hsx h46 h45
        go_wp2_with fail
        go_meet
        exact ⟨by rw [HF.out], HB2.out⟩
  case rest =>
    obtain ⟨rfl, hbx⟩ := hcut
    have hN3 := HN.out.below' hbx.out
    have HN3 := Lib.hid hN3
    have HE3 := Lib.hid (HE.out.below hbx.out (Nat.le_of_lt hza))
    have HV3 := Lib.hid (HV.out.keep (w' := wc) (fun b hlt => hbx.out.block b hlt) (fun b hlt => Nat.lt_of_lt_of_le hlt hbx.out.size))
    have HB3 := Lib.hid hbx.out
    have x0 := hN3.c0; have x1 := hN3.c1; have x2 := hN3.c2; have x3 := hN3.c3; have x4 := hN3.c4; have x5 := hN3.c5; have x6 := hN3.c6; have x7 := hN3.c7
    have VC := Lib.hid (valid_c k n t v va vc ea wc HE3.out ht hl hf hvc HV3.out)
    clear hbx hN3 v0 v1 v2 v3 v4 v5 v6 v7 STC
    have HEQ := Lib.hid (ownN_eq op s k n t v m role loop)
    obtain ⟨f1, hf1⟩ : ∃ f1, f1 = fairN1 op role loop := ⟨_, rfl⟩
    rw [← hf1] at HEQ ⊢
    clear hf1
    go_upto_if 30 with fail
    go_cut [7] (fun c wx => c = .bool (f1 && fairN2 op k n t v) ∧ Hid (Below wc.heap.size wc wx))
    case first =>
      by_cases h1 : op = 1
      · have b1 : (op == 1) = true := by rw [h1]; rfl
        have HF2 := Lib.hid (show fairN2 op k n t v = (k != 4 && (walk1 k n t v 1 4096).1 == 0 && (k != 0 || n != -9223372036854775808)) by unfold fairN2; rw [if_pos h1])
        clear h1
        cases f1 with
        | false =>
          go_wp2_with fail
          go_meet
          exact ⟨rfl, Below.refl _ _⟩
        | true =>
          by_cases h4 : k = 4
          · have b4 : (k != 4) = false := by rw [h4]; rfl
            have HF := Lib.hid (show (true && fairN2 op k n t v) = false by rw [HF2.out, b4]; rfl)
            clear h4 HF2
            go_wp2_with fail
            go_meet
            exact ⟨by rw [HF.out], Below.refl _ _⟩
          have b4 := bne_yes h4
          by_cases hw : (walk1 k n t v 1 4096).1 = 0
          · have e0 : errV ea (walk1 k n t v 1 4096).1 = .nilIface := by rw [hw]; rfl
            rw [e0] at VC
            have HF3 := Lib.hid (show fairN2 op k n t v = (k != 0 || n != -9223372036854775808) by rw [HF2.out, b4, hw]; rfl)
            clear h4 HF2 hw e0
            by_cases h0 : k = 0
            · have b0 : (k != 0) = false := by rw [h0]; rfl
              have HF := Lib.hid (show (true && fairN2 op k n t v) = (n != -9223372036854775808) by rw [HF3.out, b0]; simp)
              clear h0 HF3
              go_wp2_with fail
              refine VC.out.mono ?_
              rintro e w4 ⟨rfl, hb4⟩
              have hN4 := HN3.out.below' hb4
              have y3 := hN4.c3; have y4 := hN4.c4
              have HB4 := Lib.hid hb4
              clear hb4 hN4 x0 x1 x2 x3 x4 x5 x6 x7
              go_wp2_with fail
              go_meet
              exact ⟨by rw [HF.out], HB4.out⟩
            · have b0 := bne_yes h0
              have HF := Lib.hid (show (true && fairN2 op k n t v) = true by rw [HF3.out, b0]; rfl)
              clear h0 HF3
              go_wp2_with fail
              refine VC.out.mono ?_
              rintro e w4 ⟨rfl, hb4⟩
              have hN4 := HN3.out.below' hb4
              have y3 := hN4.c3; have y4 := hN4.c4
              have HB4 := Lib.hid hb4
              clear hb4 hN4 x0 x1 x2 x3 x4 x5 x6 x7
              go_wp2_with fail
              go_meet
              exact ⟨by rw [HF.out], HB4.out⟩
          · have e0 : errV ea (walk1 k n t v 1 4096).1 = .iface 148 (.pointer (some (ea (walk1 k n t v 1 4096).1))) := by unfold errV; rw [if_neg hw]
            rw [e0] at VC
            have HF := Lib.hid (show (true && fairN2 op k n t v) = false by rw [HF2.out, b4, beq_eq_false_iff_ne.2 hw]; rfl)
            clear h4 HF2 hw e0
            go_wp2_with fail
            refine VC.out.mono ?_
            rintro e w4 ⟨rfl, hb4⟩
            have HB4 := Lib.hid hb4
            clear hb4
            go_wp2_with fail
            go_meet
            exact ⟨by rw [HF.out], HB4.out⟩
      · have b1 := beq_no h1
        have HF2 := Lib.hid (show fairN2 op k n t v = (k == 0 && n == 0 && t.size == 0 && v.len == 0) by unfold fairN2; rw [if_neg h1])
        clear h1 VC
        cases f1 with
        | false =>
          go_wp2_with fail
          go_meet
          exact ⟨rfl, Below.refl _ _⟩
        | true =>
          by_cases h0 : k = 0
          case neg =>
            have b0 := beq_no h0
            have HF := Lib.hid (show (true && fairN2 op k n t v) = false by rw [HF2.out, b0]; rfl)
            clear h0 HF2
            go_wp2_with fail
            go_meet
            exact ⟨by rw [HF.out], Below.refl _ _⟩
          have b0 : (k == 0) = true := by rw [h0]; rfl
          by_cases hn : n = 0
          case neg =>
            have bn := beq_no hn
            have HF := Lib.hid (show (true && fairN2 op k n t v) = false by rw [HF2.out, b0, bn]; rfl)
            clear h0 HF2 hn
            go_wp2_with fail
            go_meet
            exact ⟨by rw [HF.out], Below.refl _ _⟩
          have bn : (n == 0) = true := by rw [hn]; rfl
          rcases empty_size t with ⟨g1, g2, g3⟩ | ⟨g1, g2, g3⟩
          case inr =>
            have HF := Lib.hid (show (true && fairN2 op k n t v) = false by rw [HF2.out, b0, bn, beq_eq_false_iff_ne.2 g3]; rfl)
            clear h0 HF2 hn g3
            go_wp2_with fail
            go_meet
            exact ⟨by rw [HF.out], Below.refl _ _⟩
          have HF := Lib.hid (show (true && fairN2 op k n t v) = ((v.len : Int) == 0) by rw [HF2.out, b0, bn, g3, show (0 : Int) = ((0 : Nat) : Int) from rfl, eq_nat]; simp)
          clear h0 HF2 hn g3
          go_wp2_with fail
          go_meet
          exact ⟨by rw [HF.out], Below.refl _ _⟩
    case rest =>
      obtain ⟨rfl, hbd⟩ := hcut
      have hN4 := HN3.out.below' hbd.out
      have HN4 := Lib.hid hN4
      have HE4 := Lib.hid (HE3.out.below hbd.out (by have := HB3.out.size; omega))
      have RC := Lib.hid (roles_c op ln s k n t (.slice va v.len vc) sa m sc wc hm)
      have y0 := hN4.c0; have y1 := hN4.c1; have y2 := hN4.c2; have y3 := hN4.c3; have y4 := hN4.c4; have y5 := hN4.c5; have y6 := hN4.c6; have y7 := hN4.c7
      have HB4 := Lib.hid (HB.out.trans (below_le' (HB3.out.trans (below_le' hbd.out HB3.out.size)) HB.out.size))
      clear hbd hN4 x0 x1 x2 x3 x4 x5 x6 x7 VC
      obtain ⟨f, hf⟩ : ∃ f, f = (f1 && fairN2 op k n t v) := ⟨_, rfl⟩
      rw [← hf] at HEQ ⊢
      clear hf
      go_wp2_with fail
      refine RC.out.mono ?_
      rintro e w5 ⟨rv, rfl, hro, hb5⟩
      have hN5 := HN4.out.below' (below_le' hb5 (Nat.le_refl _))
      have HN5 := Lib.hid hN5
      have HE5 := Lib.hid (HE4.out.below hb5 (Nat.le_of_lt HE4.out.room))
      have HB5 := Lib.hid (HB4.out.trans (below_le' hb5 HB4.out.size))
      have z0 := hN5.c0; have z2 := hN5.c2
      clear hro hb5 hN5 y0 y1 y2 y3 y4 y5 y6 y7 RC
      go_wp2_with fail
      refine (named_c op w5).mono ?_
      rintro e w6 ⟨rfl, rfl⟩
      have NC := Lib.hid (name_tc s w5 hs)
      cases f with
      | false =>
        have es := HE5.out.shape
        have HR := Lib.hid (show errV ea (ownC (ownN op s k n t v m role loop)) = .iface 148 (.pointer (some (ea 103))) by rw [HEQ.out]; rfl)
        clear HEQ
        go_wp2_with fail
        go_ret
        exact ⟨ret_val HR.out.symm, HB5.out⟩
      | true =>
        cases hb1 : (rolesP op m).2 with
        | false =>
          rw [hb1] at HEQ
          clear hb1
          have es := HE5.out.shape
          have HR := Lib.hid (show errV ea (ownC (ownN op s k n t v m role loop)) = .iface 148 (.pointer (some (ea 103))) by rw [HEQ.out]; rfl)
          clear HEQ
          go_wp2_with fail
          go_ret
          exact ⟨ret_val HR.out.symm, HB5.out⟩
        | true =>
          rw [hb1] at HEQ
          clear hb1
          cases hn1 : (namedP op).1 with
          | false =>
            rw [hn1] at HEQ
            clear hn1
            rcases empty_size s with ⟨g1, g2, g3⟩ | ⟨g1, g2, g3⟩
            · rw [g3] at HEQ
              clear g3
              have HR := Lib.hid (show errV ea (ownC (ownN op s k n t v m role loop)) = .nilIface by rw [HEQ.out]; rfl)
              clear HEQ
              go_wp2_with fail
              go_ret
              exact ⟨ret_val HR.out.symm, HB5.out⟩
            · have b3 := bne_iff_ne.2 g3
              rw [b3] at HEQ
              clear g3
              have es := HE5.out.shape
              have HR := Lib.hid (show errV ea (ownC (ownN op s k n t v m role loop)) = .iface 148 (.pointer (some (ea 103))) by rw [HEQ.out]; rfl)
              clear HEQ
              go_wp2_with fail
              go_ret
              exact ⟨ret_val HR.out.symm, HB5.out⟩
          | true =>
            rw [hn1] at HEQ
            clear hn1
            cases hnm : nameB s with
            | true =>
              rw [hnm] at HEQ NC
              clear hnm
              have HR := Lib.hid (show errV ea (ownC (ownN op s k n t v m role loop)) = .nilIface by rw [HEQ.out]; rfl)
              clear HEQ
              go_wp2_with fail
              refine NC.out.mono ?_
              rintro e w7 ⟨rfl, hb7⟩
              have hN7 := HN5.out.below' hb7
              have q2 := hN7.c2
              have en := (HE5.out.below hb7 (Nat.le_of_lt HE5.out.room)).name
              have HB7 := Lib.hid (HB5.out.trans (below_le' hb7 HB5.out.size))
              clear hb7 hN7 z0 z2
              go_wp2_with fail
              go_ret
              exact ⟨ret_val HR.out.symm, HB7.out⟩
            | false =>
              rw [hnm] at HEQ NC
              clear hnm
              cases hn2 : (namedP op).2 with
              | false =>
                rw [hn2] at HEQ
                clear hn2
                have HR := Lib.hid (show errV ea (ownC (ownN op s k n t v m role loop)) = .iface 148 (.pointer (some (ea 106))) by rw [HEQ.out]; rfl)
                clear HEQ
                go_wp2_with fail
                refine NC.out.mono ?_
                rintro e w7 ⟨rfl, hb7⟩
                have hN7 := HN5.out.below' hb7
                have q2 := hN7.c2
                have en := (HE5.out.below hb7 (Nat.le_of_lt HE5.out.room)).name
                have HB7 := Lib.hid (HB5.out.trans (below_le' hb7 HB5.out.size))
                clear hb7 hN7 z0 z2
                go_wp2_with fail
                go_ret
                exact ⟨ret_val HR.out.symm, HB7.out⟩
              | true =>
                rw [hn2] at HEQ
                clear hn2
                rcases empty_size s with ⟨g1, g2, g3⟩ | ⟨g1, g2, g3⟩
                · rw [g3] at HEQ
                  clear g3
                  have HR := Lib.hid (show errV ea (ownC (ownN op s k n t v m role loop)) = .nilIface by rw [HEQ.out]; rfl)
                  clear HEQ
                  go_wp2_with fail
                  refine NC.out.mono ?_
                  rintro e w7 ⟨rfl, hb7⟩
                  have hN7 := HN5.out.below' hb7
                  have q2 := hN7.c2
                  have en := (HE5.out.below hb7 (Nat.le_of_lt HE5.out.room)).name
                  have HB7 := Lib.hid (HB5.out.trans (below_le' hb7 HB5.out.size))
                  clear hb7 hN7 z0 z2
                  go_wp2_with fail
                  go_ret
                  exact ⟨ret_val HR.out.symm, HB7.out⟩
                · have b3 : (s.size == 0) = false := beq_eq_false_iff_ne.2 g3
                  rw [b3] at HEQ
                  clear g3
                  have HR := Lib.hid (show errV ea (ownC (ownN op s k n t v m role loop)) = .iface 148 (.pointer (some (ea 106))) by rw [HEQ.out]; rfl)
                  clear HEQ
                  go_wp2_with fail
                  refine NC.out.mono ?_
                  rintro e w7 ⟨rfl, hb7⟩
                  have hN7 := HN5.out.below' hb7
                  have q2 := hN7.c2
                  have en := (HE5.out.below hb7 (Nat.le_of_lt HE5.out.room)).name
                  have HB7 := Lib.hid (HB5.out.trans (below_le' hb7 HB5.out.size))
                  clear hb7 hN7 z0 z2
                  go_wp2_with fail
                  go_ret
                  exact ⟨ret_val HR.out.symm, HB7.out⟩
end Go.Proofs.YtgmnbdfbbcpciaaGreatDoor
namespace Go.Proofs.YtgmnbdfbbcpciaaGreatDoor

theorem roles_le8 (op : Int) (m : Nat) : ∀ x ∈ (rolesP op m).1, x ≤ 8 := by
  intro x hx
  by_cases hk : (1 ≤ op ∧ op ≤ 29) ∨ (40 ≤ op ∧ op ≤ 52)
  · have hk2 : op = 1 ∨ op = 2 ∨ op = 3 ∨ op = 4 ∨ (5 ≤ op ∧ op ≤ 18) ∨ op = 19 ∨ op = 20 ∨ op = 21 ∨ op = 22 ∨ op = 23 ∨ op = 24 ∨ op = 25 ∨ op = 26 ∨ op = 27 ∨ op = 28 ∨ op = 29 ∨ op = 40 ∨ op = 41 ∨ op = 42 ∨ op = 43 ∨ op = 44 ∨ op = 45 ∨ op = 46 ∨ op = 47 ∨ op = 48 ∨ op = 49 ∨ op = 50 ∨ op = 51 ∨ op = 52 := by omega
    rcases hk2 with rfl | rfl | rfl | rfl | hb | rfl | rfl | rfl | rfl | rfl | rfl | rfl | rfl | rfl | rfl | rfl | rfl | rfl | rfl | rfl | rfl | rfl | rfl | rfl | rfl | rfl | rfl | rfl | rfl
    · have e : x ∈ ([] : List Nat) := hx
      simp at e
    · have e : x ∈ ([] : List Nat) := hx
      simp at e
    · have e : x ∈ ([0] : List Nat) := hx
      simp at e; omega
    · have e : x ∈ ([0] : List Nat) := hx
      simp at e; omega
    · have e : (rolesP op m).1 = [0, 0] := by unfold rolesP; rw [if_neg (by omega), if_neg (by omega), if_pos (by omega)]
      rw [e] at hx
      simp at hx; omega
    · have e : x ∈ ([0, 0, 0] : List Nat) := hx
      simp at e; omega
    · have e : x ∈ ([0, 0] : List Nat) := hx
      simp at e; omega
    · have e : x ∈ ([0, 0, 0] : List Nat) := hx
      simp at e; omega
    · have e : x ∈ ([0, 0] : List Nat) := hx
      simp at e; omega
    · have e : x ∈ [0, 0] ++ List.replicate (m - 2) 1 := hx
      simp only [List.mem_append, List.mem_replicate, List.mem_cons, List.not_mem_nil, or_false] at e; omega
    · have e : x ∈ List.replicate m 1 := hx
      rw [List.mem_replicate] at e; omega
    · have e : x ∈ List.replicate m 1 := hx
      rw [List.mem_replicate] at e; omega
    · have e : x ∈ ([0] : List Nat) := hx
      simp at e; omega
    · have e : x ∈ ([2, 0] : List Nat) := hx
      simp at e; omega
    · have e : x ∈ (List.replicate (m - 2) 3 ++ (if 1 < m then [4] else [])) ++ [0] := hx
      split at e <;> simp only [List.mem_append, List.mem_replicate, List.mem_cons, List.not_mem_nil, or_false] at e <;> omega
    · have e : x ∈ [0, 5, 0].take (Nat.min m 3) := hx
      have e := List.mem_of_mem_take e
      simp at e; omega
    · have e : x ∈ ([0] : List Nat) := hx
      simp at e; omega
    · have e : x ∈ (List.range m).map (fun i => if m % 2 = 1 ∧ i = m - 1 then 6 else if i % 2 = 0 then 0 else 6) := hx
      rw [List.mem_map] at e
      obtain ⟨a, _, rfl⟩ := e
      split
      · omega
      · split <;> omega
    · have e : x ∈ ([0, 6] : List Nat) := hx
      simp at e; omega
    · have e : x ∈ ([0, 0, 6] : List Nat) := hx
      simp at e; omega
    · have e : x ∈ ([0, 6] : List Nat) := hx
      simp at e; omega
    · have e : x ∈ ([] : List Nat) := hx
      simp at e
    · have e : x ∈ ([] : List Nat) := hx
      simp at e
    · have e : x ∈ List.replicate m 0 := hx
      rw [List.mem_replicate] at e; omega
    · have e : x ∈ ([0, 6] : List Nat) := hx
      simp at e; omega
    · have e : x ∈ [6] ++ List.replicate (m - 1) 8 := hx
      simp only [List.mem_append, List.mem_replicate, List.mem_cons, List.not_mem_nil, or_false] at e; omega
    · have e : x ∈ ([5, 6] : List Nat) := hx
      simp at e; omega
    · have e : x ∈ ([6, 6] : List Nat) := hx
      simp at e; omega
    · have e : x ∈ List.replicate m 7 := hx
      rw [List.mem_replicate] at e; omega
  · have e : (rolesP op m).1 = [] := by
      unfold rolesP
      iterate 17 rw [if_neg (by omega)]
    rw [e] at hx; cases hx
theorem sub_role_le8 (op : Int) (m role : Nat) (loop : Bool) (j : Nat) : (subRole op m role loop j).1 ≤ 8 := by
  have h1 : (rolesP op m).1.getD j 0 ≤ 8 := by
    rw [List.getD_eq_getElem?_getD]
    cases e : (rolesP op m).1[j]? with
    | none => exact Nat.zero_le _
    | some x => exact roles_le8 op m x (List.mem_of_getElem? e)
  unfold subRole
  simp only
  split
  · omega
  · split
    · omega
    · split
      · omega
      · exact h1
end Go.Proofs.YtgmnbdfbbcpciaaGreatDoor
namespace Go.Proofs.YtgmnbdfbbcpciaaGreatDoor
open Go.RowKit Go.Lib
set_option linter.unusedVariables false

def CountC (N : Nat) : Prop := ∀ (l : NL) (A : Option Addr) (c : Nat) (n : Int) (w : World), l.tot < N → l.fit → l.len ≤ 140737488351232 → l.len ≤ c → RpN w (fun b => b < w.heap.size) l A → 0 ≤ n → n ≤ 4096 →
  Calls Tryz.prog 29 #[.slice A l.len c, .int .i64 n] w fun e w' => e = .returned (.int .i64 (countN l n)) ∧ Below w.heap.size w w'

set_option maxRecDepth 100000 in
set_option maxHeartbeats 1000000 in
theorem count_step (N : Nat) (ih : ∀ N', N' < N → CountC N') : CountC N := by
  intro l A c n w hN hfit hlen hc hrep hn0 hn1
  have HRP := Lib.hid hrep
  clear hrep
  go_enter Tryz.func29, Tryz.ntmps29
  go_wp2_with fail
  go_loopg [1, 9] l.len (fun kk m v wr => ∃ (i : Nat) (x : Int), m = .int .i64 x ∧ v = .int .i64 i ∧ i + kk = l.len ∧ 0 ≤ x ∧ x ≤ 4096 ∧ Below w.heap.size w wr ∧ Hid (countN (l.drop i) x = countN l n))
  case atStart => exact ⟨0, n, rfl, rfl, by omega, hn0, hn1, Below.refl _ _, by show countN (l.drop 0) _ = _; rw [NL.drop]⟩
  case round =>
    obtain ⟨i, x, rfl, rfl, hik, hx0, hx1, hbr, hcn⟩ := hrel
    by_cases hi : i < l.len
    · obtain ⟨g, rfl⟩ : ∃ g, gk = g + 1 := ⟨gk - 1, by omega⟩
      obtain ⟨b, o, op, ln, s, k, nn, t, v, sub, va, vc, sa, sc, hA, hSb, hd, c0, c1, c2, c3, c4, c5, c6, hvc, hv, c7, hsc, hs⟩ := (HRP.out.below hbr (fun b hb => hb)).nth hi
      have hfd := NL.fit_drop i l hfit
      have htd := NL.tot_drop i l
      rw [hd] at hfd htd
      simp only [NL.tot] at htd
      obtain ⟨-, -, -, -, hf5, hf6, -⟩ := hfd
      obtain ⟨wx, hwx⟩ : ∃ wx, wx = wr.alloc (.cells #[.int .i64 op, .int .i64 ln, .string s, .int .i64 k, .int .i64 nn, .string t, .slice va v.len vc, .slice sa sub.len sc] 33) := ⟨_, rfl⟩
      have hbx : Below wr.heap.size wr wx := by rw [hwx]; exact (Below.refl _ _).alloc (Nat.le_refl _) _
      have hnb : NdB wx wr.heap.size (.int .i64 op) (.int .i64 ln) (.string s) (.int .i64 k) (.int .i64 nn) (.string t) (.slice va v.len vc) (.slice sa sub.len sc) := by rw [hwx]; exact NdB.new _ _ _ _ _ _ _ _ _
      have y7 := hnb.c7
      rw [hwx] at y7
      have HST := Lib.hid hcn
      rw [hd, countN] at HST
      have HBR := Lib.hid (hbr.trans (below_le' hbx hbr.size))
      have HW := Lib.hid hwx
      subst hA
      by_cases hm : (4096 : Int) < x + 1
      · have hdd : decide (x + 1 > 4096) = true := by simp; omega
        rw [if_pos hm] at HST
        clear hbr hcn hs hv hwx hbx hnb
        go_wp2_with fail
        rw [← HW.out]
        go_ret
        exact ⟨ret_val (by rw [← HST.out]; rfl), HBR.out⟩
      · rw [if_neg hm] at HST
        have hr := countN_range sub (x + 1) (by omega) (by omega)
        have IHC := Lib.hid (ih (sub.tot + 1) (by omega) sub sa sc (x + 1) wx (by omega) hf6 hf5 hsc (hs.keep (fun b hb => hbx.block b (by have := hbr.size; omega)) (fun b hb => by have := hbr.size; have := hbx.size; omega)) (by omega) (by omega))
        obtain ⟨r, hrr⟩ : ∃ r, r = countN sub (x + 1) := ⟨_, rfl⟩
        rw [← hrr] at IHC HST hr
        clear hbr hcn hs hv hwx hbx hnb hrr
        go_wp2_with fail
        rw [← HW.out]
        refine IHC.out.mono ?_
        rintro e w2 ⟨rfl, hb2⟩
        have HB2 := Lib.hid (HBR.out.trans (below_le' hb2 HBR.out.size))
        clear hb2 y7 c0 c1 c2 c3 c4 c5 c6 c7
        by_cases hm2 : (4096 : Int) < r
        · rw [if_pos hm2] at HST
          go_wp2_with fail
          go_ret
          exact ⟨ret_val (by rw [← HST.out]; rfl), HB2.out⟩
        · rw [if_neg hm2] at HST
          go_wp2_with fail
          go_roundg g
          case measure => omega
          case rel => exact ⟨i + 1, r, rfl, by go_num, by omega, hr.1, by omega, HB2.out, HST.out⟩
    · obtain rfl : i = l.len := by omega
      rw [NL.drop_len] at hcn
      have HN := Lib.hid hcn
      have HBR := Lib.hid hbr
      clear hcn hbr
      go_wp2_with fail
      go_ret
      exact ⟨ret_val (by rw [← HN.out]; rfl), HBR.out⟩

theorem count_c (N : Nat) : CountC N := by
  induction N using Nat.strongRecOn with
  | _ N ih => exact count_step N ih

/-- How deep the first so many are. -/
theorem deep_take_succ {i : Nat} {l : NL} {op ln : Int} {s : ByteArray} {k n : Int} {t : ByteArray} {v : VL} {sub : NL} (hd : l.drop i = .cons op ln s k n t v sub (l.drop (i + 1))) : (l.take (i + 1)).deep = Nat.max (l.take i).deep (1 + sub.deep) := by
  rw [NL.take_succ i l op ln s k n t v sub hd, NL.deep_app]
  simp only [NL.deep]
  congr 1
  exact Nat.max_eq_left (Nat.zero_le _)
def DeepC (N : Nat) : Prop := ∀ (l : NL) (A : Option Addr) (c : Nat) (w : World), l.tot < N → l.tot ≤ 4096 → l.fit → l.len ≤ 140737488351232 → l.len ≤ c → RpN w (fun b => b < w.heap.size) l A →
  Calls Tryz.prog 30 #[.slice A l.len c] w fun e w' => e = .returned (.int .i64 l.deep) ∧ Below w.heap.size w w'

set_option maxRecDepth 100000 in
set_option maxHeartbeats 1000000 in
theorem deep_step (N : Nat) (ih : ∀ N', N' < N → DeepC N') : DeepC N := by
  intro l A c w hN h4 hfit hlen hc hrep
  have HRP := Lib.hid hrep
  clear hrep
  go_enter Tryz.func30, Tryz.ntmps30
  go_wp2_with fail
  go_loopg [3, 8] l.len (fun kk m v wr => ∃ (i : Nat) (x : Nat), m = .int .i64 x ∧ v = .int .i64 i ∧ i + kk = l.len ∧ x ≤ 4096 ∧ Below w.heap.size w wr ∧ Hid (x = (l.take i).deep))
  case atStart => exact ⟨0, 0, rfl, rfl, by omega, by omega, Below.refl _ _, by show 0 = (l.take 0).deep; rw [NL.take]; rfl⟩
  case round =>
    obtain ⟨i, x, rfl, rfl, hik, hx1, hbr, hcn⟩ := hrel
    by_cases hi : i < l.len
    · obtain ⟨g, rfl⟩ : ∃ g, gk = g + 1 := ⟨gk - 1, by omega⟩
      obtain ⟨b, o, op, ln, s, k, nn, t, v, sub, va, vc, sa, sc, hA, hSb, hd, c0, c1, c2, c3, c4, c5, c6, hvc, hv, c7, hsc, hs⟩ := (HRP.out.below hbr (fun b hb => hb)).nth hi
      have hfd := NL.fit_drop i l hfit
      have htd := NL.tot_drop i l
      rw [hd] at hfd htd
      simp only [NL.tot] at htd
      obtain ⟨-, -, -, -, hf5, hf6, -⟩ := hfd
      obtain ⟨wx, hwx⟩ : ∃ wx, wx = wr.alloc (.cells #[.int .i64 op, .int .i64 ln, .string s, .int .i64 k, .int .i64 nn, .string t, .slice va v.len vc, .slice sa sub.len sc] 33) := ⟨_, rfl⟩
      have hbx : Below wr.heap.size wr wx := by rw [hwx]; exact (Below.refl _ _).alloc (Nat.le_refl _) _
      have hnb : NdB wx wr.heap.size (.int .i64 op) (.int .i64 ln) (.string s) (.int .i64 k) (.int .i64 nn) (.string t) (.slice va v.len vc) (.slice sa sub.len sc) := by rw [hwx]; exact NdB.new _ _ _ _ _ _ _ _ _
      have y7 := hnb.c7
      rw [hwx] at y7
      have HST := Lib.hid (deep_take_succ hd)
      have hds := NL.deep_tot sub
      have HBR := Lib.hid (hbr.trans (below_le' hbx hbr.size))
      have HW := Lib.hid hwx
      have IHC := Lib.hid (ih (sub.tot + 1) (by omega) sub sa sc wx (by omega) (by omega) hf6 hf5 hsc (hs.keep (fun b hb => hbx.block b (by have := hbr.size; omega)) (fun b hb => by have := hbr.size; have := hbx.size; omega)))
      obtain ⟨d, hdd⟩ : ∃ d, d = sub.deep := ⟨_, rfl⟩
      rw [← hdd] at IHC HST hds
      have HX := Lib.hid hcn
      subst hA
      clear hbr hcn hs hv hwx hbx hnb hdd
      have e1 : IntKind.i64.wrap (1 + (d : Int)) = 1 + (d : Int) := IntWalk.i64_in _ (by omega)
      go_wp2_with fail
      rw [← HW.out]
      refine IHC.out.mono ?_
      rintro e w2 ⟨rfl, hb2⟩
      have HB2 := Lib.hid (HBR.out.trans (below_le' hb2 HBR.out.size))
      clear hb2 y7 c0 c1 c2 c3 c4 c5 c6 c7
      by_cases hm2 : x < 1 + d
      · have q1 : (x : Int) < 1 + (d : Int) := by omega
        go_wp2_with fail
        go_roundg g
        case measure => omega
        case rel => exact ⟨i + 1, 1 + d, by go_num, by go_num, by omega, by omega, HB2.out, by show 1 + d = _; rw [HST.out, ← HX.out]; exact (Nat.max_eq_right (by omega)).symm⟩
      · have q1 : 1 + (d : Int) ≤ (x : Int) := by omega
        go_wp2_with fail
        go_roundg g
        case measure => omega
        case rel => exact ⟨i + 1, x, by go_num, by go_num, by omega, hx1, HB2.out, by show x = _; rw [HST.out, ← HX.out]; exact (Nat.max_eq_left (by omega)).symm⟩
    · obtain rfl : i = l.len := by omega
      rw [NL.take_len] at hcn
      have HN := Lib.hid hcn
      have HBR := Lib.hid hbr
      clear hcn hbr
      go_wp2_with fail
      go_ret
      exact ⟨ret_val (by rw [← HN.out.out]; rfl), HBR.out⟩

theorem deep_c (N : Nat) : DeepC N := by
  induction N using Nat.strongRecOn with
  | _ N ih => exact deep_step N ih
end Go.Proofs.YtgmnbdfbbcpciaaGreatDoor
namespace Go.Proofs.YtgmnbdfbbcpciaaGreatDoor
open Go.RowKit Go.Lib
set_option linter.unusedVariables false

/-- What is amiss with one node and what it has. -/
def walkNode (op ln : Int) (s : ByteArray) (k n : Int) (t : ByteArray) (v : VL) (sub : NL) (role : Nat) (loop : Bool) : Option (Int × Nat) :=
  if ownN op s k n t v sub.len role loop ≠ 0 then some (ln, ownN op s k n t v sub.len role loop) else walkN sub (subRole op sub.len role loop) 0
theorem walkN_cons (op ln : Int) (s : ByteArray) (k n : Int) (t : ByteArray) (v : VL) (sub r : NL) (f : Nat → Nat × Bool) (i : Nat) :
    walkN (.cons op ln s k n t v sub r) f i = (match walkNode op ln s k n t v sub (f i).1 (f i).2 with | some e => some e | none => walkN r f (i + 1)) := by
  rw [walkN]
  unfold walkNode
  by_cases h : ownN op s k n t v sub.len (f i).1 (f i).2 ≠ 0
  · rw [if_pos h, if_pos h]
  · rw [if_neg h, if_neg h]
    cases walkN sub (subRole op sub.len (f i).1 (f i).2) 0 <;> rfl
theorem walkN_idx (f : Nat → Nat × Bool) : ∀ (l : NL) (i j : Nat), walkN (l.drop i) f (j + i) = walkN (l.drop i) (fun k => f (k + j)) i := by
  intro l i j
  have key : ∀ (l : NL) (i : Nat), walkN l f (j + i) = walkN l (fun k => f (k + j)) i := by
    intro l
    induction l with
    | nil => intro i; rfl
    | cons op ln s k n t v sub r ihs ihr =>
      intro i
      rw [walkN_cons, walkN_cons]
      simp only [Nat.add_comm i j]
      rw [show j + i + 1 = j + (i + 1) from by omega, ihr]
  exact key _ _

/-- What a call of walk leaves. -/
def PW (w : World) (ea : Nat → Addr) (res : Option (Int × Nat)) (e : Ending) (w' : World) : Prop :=
  Below w.heap.size w w' ∧ match res with
    | none => e = .returned .nilIface
    | some (l, c) => ∃ A, w.heap.size ≤ A ∧ w'.heap[A]? = some (.cells #[.int .i64 l, errV ea (ownC c)] 75 (0, 0)) ∧ e = .returned (.iface 73 (.pointer (some ⟨A, 0, none⟩)))

theorem roles_len {op : Int} {m : Nat} (h : (rolesP op m).2 = true) : (rolesP op m).1.length = m := by
  by_cases hk : (1 ≤ op ∧ op ≤ 29) ∨ (40 ≤ op ∧ op ≤ 52)
  · have hk2 : op = 1 ∨ op = 2 ∨ op = 3 ∨ op = 4 ∨ (5 ≤ op ∧ op ≤ 18) ∨ op = 19 ∨ op = 20 ∨ op = 21 ∨ op = 22 ∨ op = 23 ∨ op = 24 ∨ op = 25 ∨ op = 26 ∨ op = 27 ∨ op = 28 ∨ op = 29 ∨ op = 40 ∨ op = 41 ∨ op = 42 ∨ op = 43 ∨ op = 44 ∨ op = 45 ∨ op = 46 ∨ op = 47 ∨ op = 48 ∨ op = 49 ∨ op = 50 ∨ op = 51 ∨ op = 52 := by omega
    rcases hk2 with rfl | rfl | rfl | rfl | hb | rfl | rfl | rfl | rfl | rfl | rfl | rfl | rfl | rfl | rfl | rfl | rfl | rfl | rfl | rfl | rfl | rfl | rfl | rfl | rfl | rfl | rfl | rfl | rfl
    case inr.inr.inr.inr.inl =>
      have e : rolesP op m = ([0, 0], m == 2) := by unfold rolesP; rw [if_neg (by omega), if_neg (by omega), if_pos (by omega)]
      rw [e] at h ⊢
      simp at h ⊢; omega
    case inr.inr.inr.inr.inr.inr.inr.inr.inr.inr.inr.inr.inr.inr.inl =>
      have e : rolesP 28 m = ((List.replicate (m - 2) 3 ++ (if 1 < m then [4] else [])) ++ [0], decide (2 ≤ m)) := rfl
      rw [e] at h ⊢
      simp only [decide_eq_true_eq] at h
      rw [if_pos (by omega)]
      simp; omega
    case inr.inr.inr.inr.inr.inr.inr.inr.inr.inr.inr.inr.inr.inr.inr.inl =>
      have e : rolesP 29 m = ([0, 5, 0].take (min m 3), m == 2 || m == 3) := rfl
      rw [e] at h ⊢
      simp at h
      rcases h with rfl | rfl <;> rfl
    all_goals (simp [rolesP] at h ⊢; try omega)
  · have e : rolesP op m = ([], false) := by
      unfold rolesP
      iterate 17 rw [if_neg (by omega)]
    rw [e] at h; cases h
theorem roles_at {op : Int} {m : Nat} {v : Value} {w : World} {B : Nat} (ho : w.ownsRow B 3 1 v (rolesP op m).1.length (ints (rolesP op m).1)) {i : Nat} (hi : i < (rolesP op m).1.length) :
    ∃ g cap, v = .slice (some ⟨g, 0, none⟩) (rolesP op m).1.length cap ∧ g < w.heap.size ∧ w.cell? ⟨g, i, none⟩ = some (.int .i64 (((rolesP op m).1.getD i 0 : Nat) : Int)) := by
  obtain ⟨g, cap, cur, hv, hbg, hh, hq, hcm, hcs, ht⟩ : ∃ g cap cur, v = .slice (some ⟨g, 0, none⟩) (rolesP op m).1.length cap ∧ B ≤ g ∧ w.heap[g]? = some (.cells cur 3 (0, 0)) ∧ (rolesP op m).1.length ≤ cap ∧ cap ≤ maxLen ∧ cur.size = cap * 1 ∧ cur.toList.take ((rolesP op m).1.length * 1) = ints (rolesP op m).1 := by
    rcases ho.2 with ⟨_, h0⟩ | h
    · omega
    · exact h
  refine ⟨g, cap, hv, ?_, ?_⟩
  · rcases Nat.lt_or_ge g w.heap.size with hlt | hge
    · exact hlt
    · rw [Array.getElem?_eq_none hge] at hh; cases hh
  · subst hv
    rw [ho.cellAt i (by omega)]
    unfold ints
    rw [List.getElem?_map, List.getD_eq_getElem?_getD]
    rw [List.getElem?_eq_getElem hi]; rfl

theorem sub_role_1 (op : Int) (m role : Nat) (loop : Bool) (j : Nat) : (subRole op m role loop j).1 = if role = 5 then 0 else if role = 2 ∧ op = 20 ∧ j = 0 then 2 else if role = 4 ∧ op = 26 then 3 else (rolesP op m).1.getD j 0 := rfl
theorem sub_role_2 (op : Int) (m role : Nat) (loop : Bool) (j : Nat) : (subRole op m role loop j).2 = ((loop && op != 48) || (loopsP op && (subRole op m role loop j).1 == 6)) := rfl
theorem int_beq {a b : Nat} (h : a ≠ b) : ((a : Int) == (b : Int)) = false := beq_no (by omega)

def WalkTC (N : Nat) : Prop := ∀ (op ln : Int) (s : ByteArray) (k n : Int) (t : ByteArray) (v : VL) (va : Option Addr) (vc : Nat) (sub : NL) (sa : Option Addr) (sc : Nat) (role : Nat) (loop : Bool) (ea : Nat → Addr) (w : World), sub.tot < N → sub.tot ≤ 4096 → ErrsAt w ea →
  s.size ≤ 140737488351232 → t.size ≤ 140737488351232 → v.len ≤ 140737488351232 → v.fit → v.len ≤ vc → sub.fit → sub.len ≤ sc → role ≤ 8 → RpL w (fun b => b < w.heap.size) v va → RpN w (fun b => b < w.heap.size) sub sa →
  Calls Tryz.prog 31 #[.agg #[.int .i64 op, .int .i64 ln, .string s, .int .i64 k, .int .i64 n, .string t, .slice va v.len vc, .slice sa sub.len sc], .int .i64 (role : Int), .bool loop] w
    (PW w ea (walkNode op ln s k n t v sub role loop))

set_option maxRecDepth 100000 in
set_option maxHeartbeats 4000000 in
theorem walk_tstep (N : Nat) (ih : ∀ N', N' < N → WalkTC N') : WalkTC N := by
  intro op ln s k n t v va vc sub sa sc role loop ea w hN h4 he hs ht hl hf hvc hsf hsc hr hv hsub
  have hroom := he.room
  have hsl := NL.len_tot sub
  obtain ⟨wa, hwa⟩ : ∃ wa, wa = w.alloc (.cells #[.int .i64 op, .int .i64 ln, .string s, .int .i64 k, .int .i64 n, .string t, .slice va v.len vc, .slice sa sub.len sc] 33) := ⟨_, rfl⟩
  have hb : Below w.heap.size w wa := by rw [hwa]; exact (Below.refl _ _).alloc (Nat.le_refl _) _
  have hN1 : NdB wa w.heap.size (.int .i64 op) (.int .i64 ln) (.string s) (.int .i64 k) (.int .i64 n) (.string t) (.slice va v.len vc) (.slice sa sub.len sc) := by rw [hwa]; exact NdB.new _ _ _ _ _ _ _ _ _
  have v0 := hN1.c0; have v1 := hN1.c1; have v2 := hN1.c2; have v3 := hN1.c3; have v4 := hN1.c4; have v5 := hN1.c5; have v6 := hN1.c6; have v7 := hN1.c7
  rw [hwa] at v0 v1 v2 v3 v4 v5 v6 v7
  have hea := he.below hb (Nat.le_of_lt hroom)
  have OC := Lib.hid (own_tc op ln s k n t v va vc sa sub.len sc role loop ea wa hea hs ht hl hf hvc (by omega) hr (hv.keep (w' := wa) (fun b hlt => hb.block b hlt) (fun b hlt => Nat.lt_of_lt_of_le hlt hb.size)))
  have HN := Lib.hid hN1
  have HB := Lib.hid hb
  have HWA := Lib.hid hwa
  have HE := Lib.hid hea
  have HS := Lib.hid (hsub.keep (w' := wa) (fun b hlt => hb.block b hlt) (fun b hlt => Nat.lt_of_lt_of_le hlt hb.size))
  have hza : 10 < wa.heap.size := by have := hb.size; omega
  clear hb hN1 hwa he hv hsub hea
  go_enter Tryz.func31, Tryz.ntmps31
  go_wp2_with fail
  rw [← HWA.out]
  refine OC.out.mono ?_
  rintro e w2 ⟨rfl, hb2⟩
  have HB2 := Lib.hid hb2
  have HN2 := Lib.hid (HN.out.below' hb2)
  have HE2 := Lib.hid (HE.out.below hb2 (Nat.le_of_lt hza))
  have HS2 := Lib.hid (HS.out.keep (w' := w2) (fun b hlt => hb2.block b hlt) (fun b hlt => Nat.lt_of_lt_of_le hlt hb2.size))
  have HBW := Lib.hid (HB.out.trans (below_le' hb2 HB.out.size))
  have x0 := HN2.out.c0; have x1 := HN2.out.c1; have x2 := HN2.out.c2; have x3 := HN2.out.c3; have x4 := HN2.out.c4; have x5 := HN2.out.c5; have x6 := HN2.out.c6; have x7 := HN2.out.c7
  clear hb2 v0 v1 v2 v3 v4 v5 v6 v7 OC
  by_cases ho : ownN op s k n t v sub.len role loop ≠ 0
  · have HR := Lib.hid (show walkNode op ln s k n t v sub role loop = some (ln, ownN op s k n t v sub.len role loop) by unfold walkNode; rw [if_pos ho])
    obtain ⟨c, hc⟩ : ∃ c, c = ownN op s k n t v sub.len role loop := ⟨_, rfl⟩
    rw [← hc] at HR ho ⊢
    have hne : errV ea (ownC c) = .iface 148 (.pointer (some (ea (ownC c)))) := by
      unfold errV ownC; rw [if_neg]
      by_cases h1 : c = 1
      · rw [if_neg ho, if_pos h1]; decide
      · rw [if_neg ho, if_neg h1]; decide
    have HNE := Lib.hid hne
    rw [hne]
    clear hc hne ho
    go_wp2_with fail
    go_ret
    rw [HR.out]
    refine ⟨HBW.out.alloc HBW.out.size _, w2.heap.size, HBW.out.size, ?_, rfl⟩
    rw [heap_alloc_new, HNE.out]
  have ho0 : ownN op s k n t v sub.len role loop = 0 := by omega
  have HRES := Lib.hid (show walkNode op ln s k n t v sub role loop = walkN sub (subRole op sub.len role loop) 0 by unfold walkNode; rw [if_neg ho])
  have hrl : (rolesP op sub.len).2 = true := by
    obtain ⟨A, B, C, D, e⟩ : ∃ A B C D : Bool, ownN op s k n t v sub.len role loop = (if (!A || !B || C) = true then 1 else if D = true then 2 else 0) ∧ B = (rolesP op sub.len).2 := ⟨_, _, _, _, rfl, rfl⟩
    rw [e.1] at ho0
    rw [← e.2]
    cases A <;> cases B <;> cases C <;> cases D <;> simp_all
  have hrlen := roles_len hrl
  rw [ho0, show errV ea (ownC 0) = .nilIface from rfl]
  clear ho ho0
  have RC := Lib.hid (roles_c op ln s k n t (.slice va v.len vc) sa sub.len sc w2 (by omega))
  go_wp2_with fail
  refine RC.out.mono ?_
  rintro e w3 ⟨rv, rfl, hro, hb3⟩
  have HRO := Lib.hid hro
  have HN3 := Lib.hid (HN2.out.below' hb3)
  have HE3 := Lib.hid (HE2.out.below hb3 (Nat.le_of_lt HE2.out.room))
  have HS3 := Lib.hid (HS2.out.keep (w' := w3) (fun b hlt => hb3.block b hlt) (fun b hlt => Nat.lt_of_lt_of_le hlt hb3.size))
  have HB3 := Lib.hid (HBW.out.trans (below_le' hb3 HBW.out.size))
  have z0 := HN3.out.c0; have z7 := HN3.out.c7
  clear hro hb3 x0 x1 x2 x3 x4 x5 x6 x7 RC
  go_wp2_with fail
  go_loopg [35] sub.len (fun kk v wr => ∃ (i : Nat), v = .int .i64 i ∧ i + kk = sub.len ∧ Hid (Below w3.heap.size w3 wr) ∧ Hid (walkN (sub.drop i) (subRole op sub.len role loop) i = walkN sub (subRole op sub.len role loop) 0))
  case atStart => exact ⟨0, rfl, by omega, Below.refl _ _, by show walkN (sub.drop 0) _ _ = _; rw [NL.drop]⟩
  case round =>
    obtain ⟨i, rfl, hik, hbr, hwn⟩ := hrel
    by_cases hi : i < sub.len
    · obtain ⟨g, rfl⟩ : ∃ g, gk = g + 1 := ⟨gk - 1, by omega⟩
      obtain ⟨b, o, op', ln', s', k', n', t', v', sub', va', vc', sa', sc', hA, hSb, hd, c0, c1, c2, c3, c4, c5, c6, hvc', hv', c7, hsc', hs'⟩ := (HS3.out.below hbr.out (fun b hb => hb)).nth hi
      have hfd := NL.fit_drop i sub hsf
      have htd := NL.tot_drop i sub
      rw [hd] at hfd htd
      simp only [NL.tot] at htd
      obtain ⟨hf1, hf2, hf3, hf4, hf5, hf6, -⟩ := hfd
      obtain ⟨wx, hwx⟩ : ∃ wx, wx = wr.alloc (.cells #[.int .i64 op', .int .i64 ln', .string s', .int .i64 k', .int .i64 n', .string t', .slice va' v'.len vc', .slice sa' sub'.len sc'] 33) := ⟨_, rfl⟩
      have hbx : Below wr.heap.size wr wx := by rw [hwx]; exact (Below.refl _ _).alloc (Nat.le_refl _) _
      have hnb : NdB wx wr.heap.size (.int .i64 op') (.int .i64 ln') (.string s') (.int .i64 k') (.int .i64 n') (.string t') (.slice va' v'.len vc') (.slice sa' sub'.len sc') := by rw [hwx]; exact NdB.new _ _ _ _ _ _ _ _ _
      have hzr := hbr.out.size
      have HBX := Lib.hid (hbr.out.trans (below_le' hbx hzr))
      have hzx := HBX.out.size
      have HNX := Lib.hid (HN3.out.below' HBX.out)
      have HEX := Lib.hid (HE3.out.below HBX.out (Nat.le_of_lt HE3.out.room))
      obtain ⟨rg, rcap, hrv, hrg, hrc⟩ := roles_at (own_belowN HRO.out HBX.out) (i := i) (by omega)
      rw [hrlen] at hrv
      subst hrv
      have y0 := hnb.c0; have y1 := hnb.c1; have y2 := hnb.c2; have y3 := hnb.c3; have y4 := hnb.c4; have y5 := hnb.c5; have y6 := hnb.c6; have y7 := hnb.c7
      have p0 := HNX.out.c0
      have HY := Lib.hid hnb
      have HWX := Lib.hid hwx
      have HST := Lib.hid hwn.out
      rw [hd, walkN_cons] at HST
      have hrle : (subRole op sub.len role loop i).1 ≤ 8 := sub_role_le8 _ _ _ _ _
      have IHC := Lib.hid (ih (sub'.tot + 1) (by omega) op' ln' s' k' n' t' v' va' vc' sub' sa' sc' (subRole op sub.len role loop i).1 (subRole op sub.len role loop i).2 ea wx (by omega) (by omega) HEX.out hf1 hf2 hf3 hf4 hvc' hf6 hsc' hrle
        (hv'.keep (fun b hb => hbx.block b (by omega)) (fun b hb => by have := hbx.size; omega)) (hs'.keep (fun b hb => hbx.block b (by omega)) (fun b hb => by have := hbx.size; omega)))
      subst hA
      clear hbr hwn hbx hnb hv' hs' hd
      have HR1 := Lib.hid (sub_role_1 op sub.len role loop i)
      have HR2 := Lib.hid (sub_role_2 op sub.len role loop i)
      obtain ⟨r0, hr0⟩ : ∃ r0, r0 = (rolesP op sub.len).1.getD i 0 := ⟨_, rfl⟩
      rw [← hr0] at HR1 hrc
      clear hr0
      have hrc' := hrc
      have p0' := p0
      rw [hwx] at hrc' p0'
      clear hwx
      go_upto_block 2 with fail
      rw [← HWX.out]
      obtain ⟨rP, hrP⟩ : ∃ rP, rP = (subRole op sub.len role loop i).1 := ⟨_, rfl⟩
      obtain ⟨iP, hiP⟩ : ∃ iP, iP = (subRole op sub.len role loop i).2 := ⟨_, rfl⟩
      rw [← hrP] at HR1 HR2 IHC HST hrle
      rw [← hiP] at HR2 IHC HST
      clear hrP hiP
      go_cut [12] (fun c wz => c = .int .i64 (rP : Int) ∧ wz = wx)
      case first =>
        by_cases h5 : role = 5
        · have e5 : ((role : Int) == 5) = true := by rw [h5]; rfl
          have HF := Lib.hid (HR1.out.trans (if_pos h5))
          clear h5
          go_wp2_with fail
          go_meet
          exact ⟨by rw [HF.out]; rfl, rfl⟩
        have e5 : ((role : Int) == 5) = false := int_beq h5
        by_cases h2 : role = 2
        · have e2 : ((role : Int) == 2) = true := by rw [h2]; rfl
          have e4 : ((role : Int) == 4) = false := by rw [h2]; rfl
          by_cases h20 : op = 20
          · have e20 : (op == 20) = true := by rw [h20]; rfl
            by_cases h0 : i = 0
            · have e0 : ((i : Int) == 0) = true := by rw [h0]; rfl
              have HF := Lib.hid (show rP = 2 by rw [HR1.out, if_neg h5, if_pos ⟨h2, h20, h0⟩])
              clear h5 h2 h20 h0
              go_wp2_with fail
              go_meet
              exact ⟨by rw [HF.out]; rfl, rfl⟩
            · have e0 : ((i : Int) == 0) = false := int_beq h0
              have HF := Lib.hid (show rP = r0 by rw [HR1.out, if_neg h5, if_neg (by omega), if_neg (by omega)])
              clear h5 h2 h20 h0
              go_wp2_with fail
              go_meet
              exact ⟨by rw [HF.out], rfl⟩
          · have e20 := beq_no h20
            have HF := Lib.hid (show rP = r0 by rw [HR1.out, if_neg h5, if_neg (by omega), if_neg (by omega)])
            clear h5 h2 h20
            go_wp2_with fail
            go_meet
            exact ⟨by rw [HF.out], rfl⟩
        have e2 : ((role : Int) == 2) = false := int_beq h2
        by_cases h4 : role = 4
        · have e4 : ((role : Int) == 4) = true := by rw [h4]; rfl
          by_cases h26 : op = 26
          · have e26 : (op == 26) = true := by rw [h26]; rfl
            have HF := Lib.hid (show rP = 3 by rw [HR1.out, if_neg h5, if_neg (by omega), if_pos ⟨h4, h26⟩])
            clear h5 h2 h4 h26
            go_wp2_with fail
            go_meet
            exact ⟨by rw [HF.out]; rfl, rfl⟩
          · have e26 := beq_no h26
            have HF := Lib.hid (show rP = r0 by rw [HR1.out, if_neg h5, if_neg (by omega), if_neg (by omega)])
            clear h5 h2 h4 h26
            go_wp2_with fail
            go_meet
            exact ⟨by rw [HF.out], rfl⟩
        · have e4 : ((role : Int) == 4) = false := int_beq h4
          have HF := Lib.hid (show rP = r0 by rw [HR1.out, if_neg h5, if_neg (by omega), if_neg (by omega)])
          clear h5 h2 h4
          go_wp2_with fail
          go_meet
          exact ⟨by rw [HF.out], rfl⟩
      case rest =>
        obtain ⟨rfl, rfl⟩ := hcut
        go_upto_region 15 with fail
        obtain ⟨wy, hwy⟩ : ∃ wy, wy = wc := ⟨_, rfl⟩
        go_cut [13] (fun c wz => c = .bool iP ∧ wz = wy)
        case first =>
          have LC := Lib.hid (fun W => loops_c op W)
          have hd2 : loop = true ∧ op ≠ 48 ∨ (loop && op != 48) = false := by
            cases loop with
            | false => exact .inr rfl
            | true =>
              by_cases h : op = 48
              · exact .inr (by rw [h]; rfl)
              · exact .inl ⟨rfl, h⟩
          rcases hd2 with ⟨hl1, h48⟩ | hl0
          · subst hl1
            have e48 := bne_yes h48
            have HF := Lib.hid (show iP = true by rw [HR2.out, e48]; rfl)
            clear h48
            go_wp2_with fail
            go_meet
            exact ⟨by rw [HF.out], hwy.symm⟩
          · have HF := Lib.hid (show iP = (loopsP op && rP == 6) by rw [HR2.out, hl0]; rfl)
            have hl2 : loop = false ∨ (loop = true ∧ (op != 48) = false) := by
              cases loop with
              | false => exact .inl rfl
              | true => exact .inr ⟨rfl, by simpa using hl0⟩
            clear hl0
            cases hlp : loopsP op with
            | false =>
              rw [hlp] at HF LC
              clear hlp
              rcases hl2 with h | ⟨h, e48⟩
              · subst h
                go_wp2_with fail
                refine (LC.out _).mono ?_
                rintro e w9 ⟨rfl, rfl⟩
                go_wp2_with fail
                go_meet
                exact ⟨by rw [HF.out]; rfl, hwy.symm⟩
              · subst h
                go_wp2_with fail
                refine (LC.out _).mono ?_
                rintro e w9 ⟨rfl, rfl⟩
                go_wp2_with fail
                go_meet
                exact ⟨by rw [HF.out]; rfl, hwy.symm⟩
            | true =>
              have HF3 := Lib.hid (show iP = ((rP : Int) == 6) by rw [HF.out, hlp, show (6 : Int) = ((6 : Nat) : Int) from rfl, eq_nat]; rfl)
              rw [hlp] at LC
              clear hlp HF
              rcases hl2 with h | ⟨h, e48⟩
              · subst h
                go_wp2_with fail
                refine (LC.out _).mono ?_
                rintro e w9 ⟨rfl, rfl⟩
                go_wp2_with fail
                go_meet
                exact ⟨by rw [HF3.out], hwy.symm⟩
              · subst h
                go_wp2_with fail
                refine (LC.out _).mono ?_
                rintro e w9 ⟨rfl, rfl⟩
                go_wp2_with fail
                go_meet
                exact ⟨by rw [HF3.out], hwy.symm⟩
        case rest =>
          obtain ⟨rfl, rfl⟩ := hcut
          subst hwy
          obtain ⟨res, hres⟩ : ∃ res, res = walkNode op' ln' s' k' n' t' v' sub' rP iP := ⟨_, rfl⟩
          rw [← hres] at IHC HST
          clear hres
          go_wp2_with fail
          refine IHC.out.mono ?_
          rintro e w5 ⟨hb5, hpw⟩
          have HB5 := Lib.hid (HBX.out.trans (below_le' hb5 HBX.out.size))
          clear hb5
          cases res with
          | none =>
            subst hpw
            go_wp2_with fail
            go_roundg g
            case measure => omega
            case rel => exact ⟨i + 1, by go_num, by omega, HB5.out, HST.out⟩
          | some lc =>
            obtain ⟨l, c⟩ := lc
            obtain ⟨A, hA1, hA2, rfl⟩ := hpw
            go_wp2_with fail
            go_ret
            rw [HRES.out, ← HST.out]
            exact ⟨HB3.out.trans (below_le' HB5.out HB3.out.size), A, by have := HB3.out.size; have := HBX.out.size; omega, hA2, rfl⟩
    · obtain rfl : i = sub.len := by omega
      have HN9 := Lib.hid hwn.out
      rw [NL.drop_len] at HN9
      have HBR := Lib.hid hbr.out
      clear hwn hbr
      go_wp2_with fail
      go_ret
      rw [HRES.out, ← HN9.out]
      exact ⟨HB3.out.trans (below_le' HBR.out HB3.out.size), rfl⟩

theorem walk_tc (N : Nat) : WalkTC N := by
  induction N using Nat.strongRecOn with
  | _ N ih => exact walk_tstep N ih
end Go.Proofs.YtgmnbdfbbcpciaaGreatDoor
namespace Go.Proofs.YtgmnbdfbbcpciaaGreatDoor
open Go.RowKit Go.Lib
set_option linter.unusedVariables false

/-- What a call of valid leaves: an error's number, or where a node is amiss. -/
def PV (w : World) (ea : Nat → Addr) (l : NL) (role : Nat) (e : Ending) (w' : World) : Prop :=
  if 4096 < l.tot then Below w.heap.size w w' ∧ e = .returned (errV ea 104)
  else if 40 < l.deep then Below w.heap.size w w' ∧ e = .returned (errV ea 112)
  else PW w ea (walkN l (fun _ => (role, false)) 0) e w'
theorem PV.right {w w' : World} {ea : Nat → Addr} {l : NL} {role : Nat} {e : Ending} (h : PV w ea l role e w') (hr : rightN l role = true) : Below w.heap.size w w' ∧ e = .returned .nilIface := by
  simp only [rightN, Bool.and_eq_true, decide_eq_true_eq, Option.isNone_iff_eq_none] at hr
  unfold PV at h
  rw [if_neg (by omega), if_neg (by omega), hr.2] at h
  exact h
/-- Without an error the nodes are right; with one they are not. -/
theorem PV.wrong {w w' : World} {ea : Nat → Addr} {l : NL} {role : Nat} {e : Ending} (h : PV w ea l role e w') (hr : rightN l role = false) : Below w.heap.size w w' ∧ ∃ t a, e = .returned (.iface t (.pointer (some a))) := by
  unfold PV at h
  by_cases h1 : 4096 < l.tot
  · rw [if_pos h1] at h; exact ⟨h.1, _, _, h.2⟩
  rw [if_neg h1] at h
  by_cases h2 : 40 < l.deep
  · rw [if_pos h2] at h; exact ⟨h.1, _, _, h.2⟩
  rw [if_neg h2] at h
  cases hw : walkN l (fun _ => (role, false)) 0 with
  | none =>
    have : rightN l role = true := by
      simp only [rightN, Bool.and_eq_true, decide_eq_true_eq, Option.isNone_iff_eq_none]
      exact ⟨⟨by omega, by omega⟩, hw⟩
    rw [this] at hr; cases hr
  | some lc =>
    rw [hw] at h
    obtain ⟨hb, A, _, _, he⟩ := h
    exact ⟨hb, _, _, he⟩

set_option maxRecDepth 100000 in
set_option maxHeartbeats 2000000 in
theorem valid_tc (l : NL) (A : Option Addr) (c role : Nat) (ea : Nat → Addr) (w : World) (he : ErrsAt w ea) (hfit : l.fit) (hlen : l.len ≤ 140737488351232) (hc : l.len ≤ c) (hr : role ≤ 8) (hrep : RpN w (fun b => b < w.heap.size) l A) :
    Calls Tryz.prog 18 #[.slice A l.len c, .int .i64 (role : Int)] w (PV w ea l role) := by
  have hroom := he.room
  have CC := Lib.hid (count_c (l.tot + 1) l A c 0 w (by omega) hfit hlen hc hrep (by decide) (by decide))
  have hce := countN_eq l 0 (by decide) (by decide)
  have HRP := Lib.hid hrep
  have HE := Lib.hid he
  have eM := he.many
  clear hrep he
  by_cases h1 : 4096 < l.tot
  · have HP := Lib.hid (fun e w' => show PV w ea l role e w' = (Below w.heap.size w w' ∧ e = .returned (errV ea 104)) by unfold PV; rw [if_pos h1])
    rw [hce, if_neg (by omega)] at CC
    clear hce h1
    go_enter Tryz.func18, Tryz.ntmps18
    go_wp2_with fail
    refine CC.out.mono ?_
    rintro e w2 ⟨rfl, hb2⟩
    have e2 := (HE.out.below hb2 (Nat.le_of_lt hroom)).many
    have HB2 := Lib.hid hb2
    clear hb2 eM
    go_wp2_with fail
    go_ret
    rw [HP.out]
    exact ⟨HB2.out, rfl⟩
  rw [hce, if_pos (by omega)] at CC
  have q1 : ¬ ((4096 : Int) < 0 + (l.tot : Int)) := by omega
  have q1' : ¬ ((4096 : Int) < (l.tot : Int)) := by omega
  have h1' : l.tot ≤ 4096 := by omega
  have DC := Lib.hid (fun W (hW : Below w.heap.size w W) => deep_c (l.tot + 1) l A c W (by omega) h1' hfit hlen hc (HRP.out.keep (fun b hb => hW.block b hb) (fun b hb => Nat.lt_of_lt_of_le hb hW.size)))
  by_cases h2 : 40 < l.deep
  · have HP := Lib.hid (fun e w' => show PV w ea l role e w' = (Below w.heap.size w w' ∧ e = .returned (errV ea 112)) by unfold PV; rw [if_neg h1, if_pos h2])
    have q2 : (40 : Int) < (l.deep : Int) := by omega
    clear hce h1 h2 h1'
    go_enter Tryz.func18, Tryz.ntmps18
    go_wp2_with fail
    refine CC.out.mono ?_
    rintro e w2 ⟨rfl, hb2⟩
    have HB2 := Lib.hid hb2
    clear hb2 eM
    go_wp2_with fail
    refine (DC.out w2 HB2.out).mono ?_
    rintro e w3 ⟨rfl, hb3⟩
    have HB3 := Lib.hid (HB2.out.trans (below_le' hb3 HB2.out.size))
    have e3 := (HE.out.below HB3.out (Nat.le_of_lt hroom)).deep
    clear hb3
    go_wp2_with fail
    go_ret
    rw [HP.out]
    exact ⟨HB3.out, rfl⟩
  have HP := Lib.hid (fun e w' => show PV w ea l role e w' = PW w ea (walkN l (fun _ => (role, false)) 0) e w' by unfold PV; rw [if_neg h1, if_neg h2])
  have q2 : ¬ ((40 : Int) < (l.deep : Int)) := by omega
  clear hce h1 h2
  go_enter Tryz.func18, Tryz.ntmps18
  go_wp2_with fail
  refine CC.out.mono ?_
  rintro e w2 ⟨rfl, hb2⟩
  have HB2 := Lib.hid hb2
  clear hb2 eM
  go_wp2_with fail
  refine (DC.out w2 HB2.out).mono ?_
  rintro e w3 ⟨rfl, hb3⟩
  have HB3 := Lib.hid (HB2.out.trans (below_le' hb3 HB2.out.size))
  have HS3 := Lib.hid (HRP.out.keep (w' := w3) (fun b hb => HB3.out.block b hb) (fun b hb => Nat.lt_of_lt_of_le hb HB3.out.size))
  have HE3 := Lib.hid (HE.out.below HB3.out (Nat.le_of_lt hroom))
  clear hb3
  go_wp2_with fail
  go_loopg [18] l.len (fun kk v wr => ∃ (i : Nat), v = .int .i64 i ∧ i + kk = l.len ∧ Hid (Below w3.heap.size w3 wr) ∧ Hid (walkN (l.drop i) (fun _ => (role, false)) i = walkN l (fun _ => (role, false)) 0))
  case atStart => exact ⟨0, rfl, by omega, Below.refl _ _, by show walkN (l.drop 0) _ _ = _; rw [NL.drop]⟩
  case round =>
    obtain ⟨i, rfl, hik, hbr, hwn⟩ := hrel
    by_cases hi : i < l.len
    · obtain ⟨g, rfl⟩ : ∃ g, gk = g + 1 := ⟨gk - 1, by omega⟩
      obtain ⟨b, o, op', ln', s', k', n', t', v', sub', va', vc', sa', sc', hA, hSb, hd, c0, c1, c2, c3, c4, c5, c6, hvc', hv', c7, hsc', hs'⟩ := (HS3.out.below hbr.out (fun b hb => hb)).nth hi
      have hfd := NL.fit_drop i l hfit
      have htd := NL.tot_drop i l
      rw [hd] at hfd htd
      simp only [NL.tot] at htd
      obtain ⟨hf1, hf2, hf3, hf4, hf5, hf6, -⟩ := hfd
      obtain ⟨wx, hwx⟩ : ∃ wx, wx = wr.alloc (.cells #[.int .i64 op', .int .i64 ln', .string s', .int .i64 k', .int .i64 n', .string t', .slice va' v'.len vc', .slice sa' sub'.len sc'] 33) := ⟨_, rfl⟩
      have hbx : Below wr.heap.size wr wx := by rw [hwx]; exact (Below.refl _ _).alloc (Nat.le_refl _) _
      have hnb : NdB wx wr.heap.size (.int .i64 op') (.int .i64 ln') (.string s') (.int .i64 k') (.int .i64 n') (.string t') (.slice va' v'.len vc') (.slice sa' sub'.len sc') := by rw [hwx]; exact NdB.new _ _ _ _ _ _ _ _ _
      have hzr := hbr.out.size
      have HBX := Lib.hid (hbr.out.trans (below_le' hbx hzr))
      have hzx := HBX.out.size
      have HEX := Lib.hid (HE3.out.below HBX.out (Nat.le_of_lt HE3.out.room))
      have y0 := hnb.c0; have y1 := hnb.c1; have y2 := hnb.c2; have y3 := hnb.c3; have y4 := hnb.c4; have y5 := hnb.c5; have y6 := hnb.c6; have y7 := hnb.c7
      rw [hwx] at y0 y1 y2 y3 y4 y5 y6 y7
      have HWX := Lib.hid hwx
      have hst := hwn.out
      rw [hd, walkN_cons] at hst
      dsimp only at hst
      have IHC := Lib.hid (walk_tc (sub'.tot + 1) op' ln' s' k' n' t' v' va' vc' sub' sa' sc' role false ea wx (by omega) (by omega) HEX.out hf1 hf2 hf3 hf4 hvc' hf6 hsc' hr
        (hv'.keep (fun b hb => hbx.block b (by omega)) (fun b hb => by have := hbx.size; omega)) (hs'.keep (fun b hb => hbx.block b (by omega)) (fun b hb => by have := hbx.size; omega)))
      subst hA
      clear hbr hwn hbx hnb hv' hs' hd hwx
      obtain ⟨res, hres⟩ : ∃ res, res = walkNode op' ln' s' k' n' t' v' sub' role false := ⟨_, rfl⟩
      rw [← hres] at IHC hst
      have HST2 := Lib.hid hst
      clear hres hst
      go_wp2_with fail
      rw [← HWX.out]
      refine IHC.out.mono ?_
      rintro e w5 ⟨hb5, hpw⟩
      have HB5 := Lib.hid (HBX.out.trans (below_le' hb5 HBX.out.size))
      clear hb5
      cases res with
      | none =>
        subst hpw
        go_wp2_with fail
        go_roundg g
        case measure => omega
        case rel => exact ⟨i + 1, by go_num, by omega, HB5.out, HST2.out⟩
      | some lc =>
        obtain ⟨ll, cc⟩ := lc
        obtain ⟨A, hA1, hA2, rfl⟩ := hpw
        go_wp2_with fail
        go_ret
        rw [HP.out, ← HST2.out]
        exact ⟨HB3.out.trans (below_le' HB5.out HB3.out.size), A, by have := HB3.out.size; have := HBX.out.size; omega, hA2, rfl⟩
    · obtain rfl : i = l.len := by omega
      have HN9 := Lib.hid hwn.out
      rw [NL.drop_len] at HN9
      have HBR := Lib.hid hbr.out
      clear hwn hbr
      go_wp2_with fail
      go_ret
      rw [HP.out, ← HN9.out]
      exact ⟨HB3.out.trans (below_le' HBR.out HB3.out.size), rfl⟩

theorem Valid_tc (l : NL) (A : Option Addr) (c : Nat) (ea : Nat → Addr) (w : World) (he : ErrsAt w ea) (hfit : l.fit) (hlen : l.len ≤ 140737488351232) (hc : l.len ≤ c) (hrep : RpN w (fun b => b < w.heap.size) l A) :
    Calls Tryz.prog 10 #[.slice A l.len c] w (PV w ea l 7) := by
  have VC := Lib.hid (valid_tc l A c 7 ea w he hfit hlen hc (by decide) hrep)
  go_enter Tryz.func10, Tryz.ntmps10
  go_wp2_with fail
  refine VC.out.mono ?_
  intro e w2 hp
  have HP := Lib.hid hp
  by_cases hr : rightN l 7 = true
  · obtain ⟨hb, rfl⟩ := hp.right hr
    clear hp hb
    go_wp2_with fail
    go_ret
    exact HP.out
  · obtain ⟨hb, t, a, rfl⟩ := hp.wrong (by simpa using hr)
    clear hp hb
    go_wp2_with fail
    go_ret
    exact HP.out

/-- One node, as a list. -/
def node1 (op ln : Int) (s : ByteArray) (k n : Int) (t : ByteArray) (v : VL) (sub : NL) : NL := .cons op ln s k n t v sub .nil
theorem PV.below {w wa w' : World} {ea : Nat → Addr} {l : NL} {role : Nat} {e : Ending} (h : PV wa ea l role e w') (hb : Below w.heap.size w wa) : PV w ea l role e w' := by
  have hz := hb.size
  unfold PV at h ⊢
  split
  · rename_i h1; rw [if_pos h1] at h; exact ⟨hb.trans (below_le' h.1 hz), h.2⟩
  · rename_i h1
    rw [if_neg h1] at h
    split
    · rename_i h2; rw [if_pos h2] at h; exact ⟨hb.trans (below_le' h.1 hz), h.2⟩
    · rename_i h2
      rw [if_neg h2] at h
      cases hw : walkN l (fun _ => (role, false)) 0 with
      | none => rw [hw] at h; exact ⟨hb.trans (below_le' h.1 hz), h.2⟩
      | some lc =>
        rw [hw] at h
        obtain ⟨h1, A, h2, h3⟩ := h
        exact ⟨hb.trans (below_le' h1 hz), A, by omega, h3⟩

end Go.Proofs.YtgmnbdfbbcpciaaGreatDoor
namespace Go.Proofs.YtgmnbdfbbcpciaaGreatDoor

/-- What a node is as text: bare, whether it stands in brackets within another one, as a name behind a sign, as codes. -/
structure NTx where
  b : List UInt8
  lo : Bool
  nm : List UInt8
  cd : List UInt8
instance : Inhabited NTx := ⟨⟨[], false, [], []⟩⟩

def brk (l : List UInt8) : List UInt8 := 40 :: (l ++ [41])
def inT (x : NTx) : List UInt8 := if x.lo then brk x.b else x.b
def rowT (l : List NTx) : List UInt8 := Lib.join (l.map (·.b)) [44, 32]
def codesT (l : List NTx) : List UInt8 := if l.length = 0 then [97, 110, 121] else rowT l
def signT (op : Int) : List UInt8 :=
  if op < 5 ∨ 18 < op then [] else ([[43], [45], [42], [47], [37], [61, 61], [33, 61], [60], [60, 61], [62], [62, 61], [105, 110], [38, 38], [124, 124]] : List (List UInt8)).getD (op - 5).toNat []
def looseP (op k n : Int) : Bool :=
  if op = 1 then (k == 0 || k == 1) && decide (n < 0) else if op = 19 ∨ op = 27 ∨ op = 28 then true else decide (3 ≤ op) && decide (op ≤ 18)
/-- An expression's text, without brackets around it; vt is its value's text. -/
def bareT (op : Int) (s vt : List UInt8) (l : List NTx) : List UInt8 :=
  let g := fun i => l.getD i default
  if op = 1 then vt
  else if op = 2 then s
  else if op = 3 then (if 48 ≤ (inT (g 0)).getD 0 0 ∧ (inT (g 0)).getD 0 0 ≤ 57 then 45 :: brk (inT (g 0)) else 45 :: inT (g 0))
  else if op = 4 then 33 :: inT (g 0)
  else if op = 19 then inT (g 0) ++ [32, 63, 32] ++ inT (g 1) ++ [32, 124, 32] ++ inT (g 2)
  else if op = 20 then inT (g 0) ++ [91] ++ (g 1).b ++ [93]
  else if op = 21 then inT (g 0) ++ [91] ++ (g 1).b ++ [46, 46] ++ (g 2).b ++ [93]
  else if op = 22 then inT (g 0) ++ [46] ++ (g 1).nm
  else if op = 23 then inT (g 0) ++ [58] ++ (g 1).nm ++ [40] ++ rowT (l.drop 2) ++ [41]
  else if op = 24 then s ++ [40] ++ rowT l ++ [41]
  else if op = 25 then [123] ++ rowT l ++ [125]
  else if op = 26 then 64 :: (g 0).b
  else if op = 27 then (g 0).b ++ [32, 61, 32] ++ (g 1).b
  else if op = 28 then [123] ++ rowT (l.take (l.length - 1)) ++ [125, 32, 61, 32] ++ (g (l.length - 1)).b
  else if op = 29 then [96] ++ inT (g 0) ++ [32, 33, 32] ++ (g 1).cd ++ (if 2 < l.length then [32, 61, 62, 32] ++ inT (g 2) else []) ++ [39]
  else inT (g 0) ++ [32] ++ signT op ++ [32] ++ inT (g 1)
def nodeT (op : Int) (s : ByteArray) (k n : Int) (t : ByteArray) (v : VL) (l : List NTx) : NTx :=
  let b := bareT op s.data.toList (txt1 k n t (txtL v)) l
  ⟨b, looseP op k n, if op = 1 ∧ k = 2 ∧ nameB t = true then t.data.toList else brk b, codesT l⟩
def ntx : NL → List NTx
  | .nil => []
  | .cons op _ s k n t v sub r => nodeT op s k n t v (ntx sub) :: ntx r
theorem ntx_len : ∀ l : NL, (ntx l).length = l.len
  | .nil => rfl
  | .cons _ _ _ _ _ _ _ _ r => by rw [ntx, List.length_cons, ntx_len r, NL.len]
theorem ntx_app : ∀ a b : NL, ntx (a.app b) = ntx a ++ ntx b
  | .nil, _ => rfl
  | .cons _ _ _ _ _ _ _ _ r, b => by rw [NL.app, ntx, ntx, ntx_app r b]; rfl

/-- A line, so deep in Blocks. -/
def lineT (d : Nat) (s : List UInt8) : List UInt8 := List.replicate (2 * d) 32 ++ s ++ [10]
/-- What a node is as text where statements stand: itself as an expression, as a statement, its nodes as statements one deeper, itself as an Except. -/
structure STx where
  x : NTx
  st : List UInt8
  bk : List UInt8
  ex : List UInt8
instance : Inhabited STx := ⟨⟨default, [], [], []⟩⟩
def ifsT (d : Nat) : List UInt8 → List STx → List UInt8
  | w, c :: b :: r => lineT d (w ++ [32, 40] ++ c.x.b ++ [41]) ++ b.bk ++ ifsT d [101, 108, 115, 101, 105, 102] r
  | _, [b] => lineT d [101, 108, 115, 101] ++ b.bk ++ lineT d [101, 110, 100, 105, 102]
  | _, [] => lineT d [101, 110, 100, 105, 102]
def aroundT (d : Nat) (head bk tail : List UInt8) : List UInt8 := lineT d head ++ bk ++ lineT d tail
def stmtT (d : Nat) (op : Int) (s : List UInt8) (l : List STx) : List UInt8 :=
  let g := fun i => l.getD i default
  if op = 40 then lineT d ((g 0).x.b ++ [59])
  else if op = 45 then lineT d [98, 114, 101, 97, 107, 59]
  else if op = 46 then lineT d [99, 111, 110, 116, 105, 110, 117, 101, 59]
  else if op = 47 then lineT d ([114, 101, 116, 117, 114, 110] ++ (if 0 < l.length then 32 :: (g 0).x.b else []) ++ [59])
  else if op = 41 then ifsT d [105, 102] l
  else if op = 42 then aroundT d ([102, 111, 114, 32] ++ s ++ [32, 105, 110, 32, 40] ++ (g 0).x.b ++ [41]) (g 1).bk [101, 110, 100, 102, 111, 114]
  else if op = 43 then aroundT d ([102, 111, 114, 32] ++ s ++ [32, 105, 110, 32, 91] ++ (g 0).x.b ++ [46, 46] ++ (g 1).x.b ++ [93]) (g 2).bk [101, 110, 100, 102, 111, 114]
  else if op = 44 then aroundT d ([119, 104, 105, 108, 101, 32, 40] ++ (g 0).x.b ++ [41]) (g 1).bk [101, 110, 100, 119, 104, 105, 108, 101]
  else if op = 48 then aroundT d ([102, 111, 114, 107, 32, 40] ++ (g 0).x.b ++ [41]) (g 1).bk [101, 110, 100, 102, 111, 114, 107]
  else if op = 49 then lineT d [116, 114, 121] ++ (g 0).bk ++ ((l.drop 1).map (·.ex)).flatten ++ lineT d [101, 110, 100, 116, 114, 121]
  else if op = 51 then lineT d [116, 114, 121] ++ (g 0).bk ++ aroundT d [102, 105, 110, 97, 108, 108, 121] (g 1).bk [101, 110, 100, 116, 114, 121]
  else []
def exT (d : Nat) (s : List UInt8) (l : List STx) : List UInt8 :=
  lineT d ([101, 120, 99, 101, 112, 116, 32] ++ (if s.length ≠ 0 then s ++ [32] else []) ++ [40] ++ (l.getD 0 default).x.cd ++ [41]) ++ (l.getD 1 default).bk
def stx : NL → Nat → List STx
  | .nil, _ => []
  | .cons op _ s k n t v sub r, d =>
    ⟨nodeT op s k n t v (ntx sub), stmtT d op s.data.toList (stx sub d), ((stx sub (d + 1)).map (·.st)).flatten, exT d s.data.toList (stx sub d)⟩ :: stx r d
/-- A program's text. -/
def progT (l : NL) : List UInt8 := ((stx l 0).map (·.st)).flatten
theorem stx_app : ∀ (a b : NL) (d : Nat), stx (a.app b) d = stx a d ++ stx b d
  | .nil, _, _ => rfl
  | .cons _ _ _ _ _ _ _ _ r, b, d => by rw [NL.app, stx, stx, stx_app r b d]; rfl
/-- What is shown of two programs, one behind the other, is both. -/
theorem progT_app (a b : NL) : progT (a.app b) = progT a ++ progT b := by
  unfold progT; rw [stx_app, List.map_append, List.flatten_append]

/-- Other lines. -/
def NL.lines (by_ : Int → Int) : NL → NL
  | .nil => .nil
  | .cons op ln s k n t v sub r => .cons op (by_ ln) s k n t v sub (r.lines by_)
/-- Lines of nodes change nothing. -/
theorem stx_lines (f : Int → Int) : ∀ (a : NL) (d : Nat), stx (a.lines f) d = stx a d
  | .nil, _ => rfl
  | .cons _ _ _ _ _ _ _ _ r, d => by rw [NL.lines, stx, stx, stx_lines f r d]
theorem progT_lines (f : Int → Int) (a : NL) : progT (a.lines f) = progT a := by unfold progT; rw [stx_lines]
theorem walkN_lines (f : Int → Int) (h : Nat → Nat × Bool) : ∀ (a : NL) (i : Nat), walkN a h i = none → walkN (a.lines f) h i = none
  | .nil, _, _ => rfl
  | .cons op ln s k n t v sub r, i, e => by
    rw [walkN] at e
    rw [NL.lines, walkN]
    by_cases h0 : ownN op s k n t v sub.len (h i).1 (h i).2 ≠ 0
    · rw [if_pos h0] at e; simp at e
    · rw [if_neg h0] at e ⊢
      cases hs : walkN sub (subRole op sub.len (h i).1 (h i).2) 0 with
      | some x => rw [hs] at e; simp at e
      | none => rw [hs] at e; simp only [] at e ⊢; exact walkN_lines f h r (i + 1) e
theorem rightN_lines (f : Int → Int) (a : NL) (role : Nat) (ha : rightN a role = true) : rightN (a.lines f) role = true := by
  have ht : ∀ a : NL, (a.lines f).tot = a.tot ∧ (a.lines f).deep = a.deep := by
    intro a
    induction a with
    | nil => exact ⟨rfl, rfl⟩
    | cons _ _ _ _ _ _ _ _ r _ ih => exact ⟨by simp only [NL.lines, NL.tot, ih.1], by simp only [NL.lines, NL.deep, ih.2]⟩
  simp only [rightN, Bool.and_eq_true, decide_eq_true_eq, Option.isNone_iff_eq_none] at ha ⊢
  exact ⟨⟨by rw [(ht a).1]; exact ha.1.1, by rw [(ht a).2]; exact ha.1.2⟩, walkN_lines f _ a 0 ha.2⟩
end Go.Proofs.YtgmnbdfbbcpciaaGreatDoor
