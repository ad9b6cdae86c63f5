/- Contracts of the functions that the statement reaches, and the plain mathematics beneath: several texts joined. -/
import Derived.Test.YtjibjgokloondaaGreatDoorParT
import Derived.Test.YtjibjgokloondaaGreatDoorParA
import Derived.Test.YtjibjgokloondaaGreatDoorParB
import Derived.Test.YtjibjgokloondaaGreatDoorParC
import Derived.Test.YtjibjgokloondaaGreatDoorParD
import Derived.Test.YtjibjgokloondaaGreatDoorParE
import Derived.Test.YtjibjgokloondaaGreatDoorParF
import Derived.Test.YtjibjgokloondaaGreatDoorParG
import Derived.Test.YtjibjgokloondaaGreatDoorParH
import Derived.Test.YtjibjgokloondaaGreatDoorParI
import Derived.Test.YtjibjgokloondaaGreatDoorParJ
import Derived.Test.YtjibjgokloondaaGreatDoorParK
import Derived.Test.YtjibjgokloondaaGreatDoorParL
import Derived.Test.YtjibjgokloondaaGreatDoorParM
import Derived.Test.YtjibjgokloondaaGreatDoorParN
import Derived.Test.YtjibjgokloondaaGreatDoorParO
import Derived.Test.YtjibjgokloondaaGreatDoorParP
import Derived.Test.YtjibjgokloondaaGreatDoorParQ
import Derived.Test.YtjibjgokloondaaGreatDoorParR
import Derived.Test.YtjibjgokloondaaGreatDoorParS
import Derived.Test.YtjibjgokloondaaGreatDoorParU
namespace Go.Proofs.YtjibjgokloondaaGreatDoor
open Go.RowKit Go.Lib
set_option linter.unusedVariables false

set_option maxRecDepth 100000 in
set_option maxHeartbeats 2000000 in
theorem roles_5 (ln : Int) (s : ByteArray) (k n : Int) (t : ByteArray) (vv : Value) (sa : Option Addr) (m sc : Nat) (w : World) (hm : m ≤ 4096) :
    Calls Tryz.prog 84 #[.agg #[.int .i64 5, .int .i64 ln, .string s, .int .i64 k, .int .i64 n, .string t, vv, .slice sa m sc]] w (RolesOut w 5 m) := by
  obtain ⟨wa, hwa⟩ : ∃ wa, wa = w.alloc (.cells #[.int .i64 5, .int .i64 ln, .string s, .int .i64 k, .int .i64 n, .string t, vv, .slice sa m sc] 31) := ⟨_, rfl⟩
  have hb : Below w.heap.size w wa := by rw [hwa]; exact (Below.refl _ _).alloc (Nat.le_refl _) _
  have hN : NdB wa w.heap.size (.int .i64 5) (.int .i64 ln) (.string s) (.int .i64 k) (.int .i64 n) (.string t) vv (.slice sa m sc) := by rw [hwa]; exact NdB.new _ _ _ _ _ _ _ _ _
  have v0 := hN.c0; have v7 := hN.c7
  rw [hwa] at v0 v7
  have HB := Lib.hid hb
  have HWA := Lib.hid hwa
  clear hb hN hwa
  go_enter Tryz.func84, Tryz.ntmps84
  go_wp2_with fail
  rw [← HWA.out]
  refine (roll_c 0 2 wa (by decide) (by omega)).mono ?_
  rintro e w2 ⟨v, rfl, ho, hb2⟩
  have HO := Lib.hid ho
  have HB2 := Lib.hid (HB.out.trans (below_le' hb2 HB.out.size))
  clear ho hb2
  go_wp2_with fail
  go_ret2
  exact ⟨v, ret_tup (c := .nilIface) (by rw [show (2 : Int) = ((2 : Nat) : Int) from rfl, eq_nat]; rfl), by
    have h := own_lower HO.out HB.out.size
    have e : (rolesP 5 m).1 = List.replicate 2 0 := rfl
    rw [e, List.length_replicate]; exact h, HB2.out⟩

set_option maxRecDepth 100000 in
set_option maxHeartbeats 2000000 in
theorem roles_6 (ln : Int) (s : ByteArray) (k n : Int) (t : ByteArray) (vv : Value) (sa : Option Addr) (m sc : Nat) (w : World) (hm : m ≤ 4096) :
    Calls Tryz.prog 84 #[.agg #[.int .i64 6, .int .i64 ln, .string s, .int .i64 k, .int .i64 n, .string t, vv, .slice sa m sc]] w (RolesOut w 6 m) := by
  obtain ⟨wa, hwa⟩ : ∃ wa, wa = w.alloc (.cells #[.int .i64 6, .int .i64 ln, .string s, .int .i64 k, .int .i64 n, .string t, vv, .slice sa m sc] 31) := ⟨_, rfl⟩
  have hb : Below w.heap.size w wa := by rw [hwa]; exact (Below.refl _ _).alloc (Nat.le_refl _) _
  have hN : NdB wa w.heap.size (.int .i64 6) (.int .i64 ln) (.string s) (.int .i64 k) (.int .i64 n) (.string t) vv (.slice sa m sc) := by rw [hwa]; exact NdB.new _ _ _ _ _ _ _ _ _
  have v0 := hN.c0; have v7 := hN.c7
  rw [hwa] at v0 v7
  have HB := Lib.hid hb
  have HWA := Lib.hid hwa
  clear hb hN hwa
  go_enter Tryz.func84, Tryz.ntmps84
  go_wp2_with fail
  rw [← HWA.out]
  refine (roll_c 0 2 wa (by decide) (by omega)).mono ?_
  rintro e w2 ⟨v, rfl, ho, hb2⟩
  have HO := Lib.hid ho
  have HB2 := Lib.hid (HB.out.trans (below_le' hb2 HB.out.size))
  clear ho hb2
  go_wp2_with fail
  go_ret2
  exact ⟨v, ret_tup (c := .nilIface) (by rw [show (2 : Int) = ((2 : Nat) : Int) from rfl, eq_nat]; rfl), by
    have h := own_lower HO.out HB.out.size
    have e : (rolesP 6 m).1 = List.replicate 2 0 := rfl
    rw [e, List.length_replicate]; exact h, HB2.out⟩

set_option maxRecDepth 100000 in
set_option maxHeartbeats 2000000 in
theorem roles_7 (ln : Int) (s : ByteArray) (k n : Int) (t : ByteArray) (vv : Value) (sa : Option Addr) (m sc : Nat) (w : World) (hm : m ≤ 4096) :
    Calls Tryz.prog 84 #[.agg #[.int .i64 7, .int .i64 ln, .string s, .int .i64 k, .int .i64 n, .string t, vv, .slice sa m sc]] w (RolesOut w 7 m) := by
  obtain ⟨wa, hwa⟩ : ∃ wa, wa = w.alloc (.cells #[.int .i64 7, .int .i64 ln, .string s, .int .i64 k, .int .i64 n, .string t, vv, .slice sa m sc] 31) := ⟨_, rfl⟩
  have hb : Below w.heap.size w wa := by rw [hwa]; exact (Below.refl _ _).alloc (Nat.le_refl _) _
  have hN : NdB wa w.heap.size (.int .i64 7) (.int .i64 ln) (.string s) (.int .i64 k) (.int .i64 n) (.string t) vv (.slice sa m sc) := by rw [hwa]; exact NdB.new _ _ _ _ _ _ _ _ _
  have v0 := hN.c0; have v7 := hN.c7
  rw [hwa] at v0 v7
  have HB := Lib.hid hb
  have HWA := Lib.hid hwa
  clear hb hN hwa
  go_enter Tryz.func84, Tryz.ntmps84
  go_wp2_with fail
  rw [← HWA.out]
  refine (roll_c 0 2 wa (by decide) (by omega)).mono ?_
  rintro e w2 ⟨v, rfl, ho, hb2⟩
  have HO := Lib.hid ho
  have HB2 := Lib.hid (HB.out.trans (below_le' hb2 HB.out.size))
  clear ho hb2
  go_wp2_with fail
  go_ret2
  exact ⟨v, ret_tup (c := .nilIface) (by rw [show (2 : Int) = ((2 : Nat) : Int) from rfl, eq_nat]; rfl), by
    have h := own_lower HO.out HB.out.size
    have e : (rolesP 7 m).1 = List.replicate 2 0 := rfl
    rw [e, List.length_replicate]; exact h, HB2.out⟩

set_option maxRecDepth 100000 in
set_option maxHeartbeats 2000000 in
theorem roles_8 (ln : Int) (s : ByteArray) (k n : Int) (t : ByteArray) (vv : Value) (sa : Option Addr) (m sc : Nat) (w : World) (hm : m ≤ 4096) :
    Calls Tryz.prog 84 #[.agg #[.int .i64 8, .int .i64 ln, .string s, .int .i64 k, .int .i64 n, .string t, vv, .slice sa m sc]] w (RolesOut w 8 m) := by
  obtain ⟨wa, hwa⟩ : ∃ wa, wa = w.alloc (.cells #[.int .i64 8, .int .i64 ln, .string s, .int .i64 k, .int .i64 n, .string t, vv, .slice sa m sc] 31) := ⟨_, rfl⟩
  have hb : Below w.heap.size w wa := by rw [hwa]; exact (Below.refl _ _).alloc (Nat.le_refl _) _
  have hN : NdB wa w.heap.size (.int .i64 8) (.int .i64 ln) (.string s) (.int .i64 k) (.int .i64 n) (.string t) vv (.slice sa m sc) := by rw [hwa]; exact NdB.new _ _ _ _ _ _ _ _ _
  have v0 := hN.c0; have v7 := hN.c7
  rw [hwa] at v0 v7
  have HB := Lib.hid hb
  have HWA := Lib.hid hwa
  clear hb hN hwa
  go_enter Tryz.func84, Tryz.ntmps84
  go_wp2_with fail
  rw [← HWA.out]
  refine (roll_c 0 2 wa (by decide) (by omega)).mono ?_
  rintro e w2 ⟨v, rfl, ho, hb2⟩
  have HO := Lib.hid ho
  have HB2 := Lib.hid (HB.out.trans (below_le' hb2 HB.out.size))
  clear ho hb2
  go_wp2_with fail
  go_ret2
  exact ⟨v, ret_tup (c := .nilIface) (by rw [show (2 : Int) = ((2 : Nat) : Int) from rfl, eq_nat]; rfl), by
    have h := own_lower HO.out HB.out.size
    have e : (rolesP 8 m).1 = List.replicate 2 0 := rfl
    rw [e, List.length_replicate]; exact h, HB2.out⟩

set_option maxRecDepth 100000 in
set_option maxHeartbeats 2000000 in
theorem roles_9 (ln : Int) (s : ByteArray) (k n : Int) (t : ByteArray) (vv : Value) (sa : Option Addr) (m sc : Nat) (w : World) (hm : m ≤ 4096) :
    Calls Tryz.prog 84 #[.agg #[.int .i64 9, .int .i64 ln, .string s, .int .i64 k, .int .i64 n, .string t, vv, .slice sa m sc]] w (RolesOut w 9 m) := by
  obtain ⟨wa, hwa⟩ : ∃ wa, wa = w.alloc (.cells #[.int .i64 9, .int .i64 ln, .string s, .int .i64 k, .int .i64 n, .string t, vv, .slice sa m sc] 31) := ⟨_, rfl⟩
  have hb : Below w.heap.size w wa := by rw [hwa]; exact (Below.refl _ _).alloc (Nat.le_refl _) _
  have hN : NdB wa w.heap.size (.int .i64 9) (.int .i64 ln) (.string s) (.int .i64 k) (.int .i64 n) (.string t) vv (.slice sa m sc) := by rw [hwa]; exact NdB.new _ _ _ _ _ _ _ _ _
  have v0 := hN.c0; have v7 := hN.c7
  rw [hwa] at v0 v7
  have HB := Lib.hid hb
  have HWA := Lib.hid hwa
  clear hb hN hwa
  go_enter Tryz.func84, Tryz.ntmps84
  go_wp2_with fail
  rw [← HWA.out]
  refine (roll_c 0 2 wa (by decide) (by omega)).mono ?_
  rintro e w2 ⟨v, rfl, ho, hb2⟩
  have HO := Lib.hid ho
  have HB2 := Lib.hid (HB.out.trans (below_le' hb2 HB.out.size))
  clear ho hb2
  go_wp2_with fail
  go_ret2
  exact ⟨v, ret_tup (c := .nilIface) (by rw [show (2 : Int) = ((2 : Nat) : Int) from rfl, eq_nat]; rfl), by
    have h := own_lower HO.out HB.out.size
    have e : (rolesP 9 m).1 = List.replicate 2 0 := rfl
    rw [e, List.length_replicate]; exact h, HB2.out⟩

set_option maxRecDepth 100000 in
set_option maxHeartbeats 2000000 in
theorem roles_10 (ln : Int) (s : ByteArray) (k n : Int) (t : ByteArray) (vv : Value) (sa : Option Addr) (m sc : Nat) (w : World) (hm : m ≤ 4096) :
    Calls Tryz.prog 84 #[.agg #[.int .i64 10, .int .i64 ln, .string s, .int .i64 k, .int .i64 n, .string t, vv, .slice sa m sc]] w (RolesOut w 10 m) := by
  obtain ⟨wa, hwa⟩ : ∃ wa, wa = w.alloc (.cells #[.int .i64 10, .int .i64 ln, .string s, .int .i64 k, .int .i64 n, .string t, vv, .slice sa m sc] 31) := ⟨_, rfl⟩
  have hb : Below w.heap.size w wa := by rw [hwa]; exact (Below.refl _ _).alloc (Nat.le_refl _) _
  have hN : NdB wa w.heap.size (.int .i64 10) (.int .i64 ln) (.string s) (.int .i64 k) (.int .i64 n) (.string t) vv (.slice sa m sc) := by rw [hwa]; exact NdB.new _ _ _ _ _ _ _ _ _
  have v0 := hN.c0; have v7 := hN.c7
  rw [hwa] at v0 v7
  have HB := Lib.hid hb
  have HWA := Lib.hid hwa
  clear hb hN hwa
  go_enter Tryz.func84, Tryz.ntmps84
  go_wp2_with fail
  rw [← HWA.out]
  refine (roll_c 0 2 wa (by decide) (by omega)).mono ?_
  rintro e w2 ⟨v, rfl, ho, hb2⟩
  have HO := Lib.hid ho
  have HB2 := Lib.hid (HB.out.trans (below_le' hb2 HB.out.size))
  clear ho hb2
  go_wp2_with fail
  go_ret2
  exact ⟨v, ret_tup (c := .nilIface) (by rw [show (2 : Int) = ((2 : Nat) : Int) from rfl, eq_nat]; rfl), by
    have h := own_lower HO.out HB.out.size
    have e : (rolesP 10 m).1 = List.replicate 2 0 := rfl
    rw [e, List.length_replicate]; exact h, HB2.out⟩

set_option maxRecDepth 100000 in
set_option maxHeartbeats 2000000 in
theorem roles_11 (ln : Int) (s : ByteArray) (k n : Int) (t : ByteArray) (vv : Value) (sa : Option Addr) (m sc : Nat) (w : World) (hm : m ≤ 4096) :
    Calls Tryz.prog 84 #[.agg #[.int .i64 11, .int .i64 ln, .string s, .int .i64 k, .int .i64 n, .string t, vv, .slice sa m sc]] w (RolesOut w 11 m) := by
  obtain ⟨wa, hwa⟩ : ∃ wa, wa = w.alloc (.cells #[.int .i64 11, .int .i64 ln, .string s, .int .i64 k, .int .i64 n, .string t, vv, .slice sa m sc] 31) := ⟨_, rfl⟩
  have hb : Below w.heap.size w wa := by rw [hwa]; exact (Below.refl _ _).alloc (Nat.le_refl _) _
  have hN : NdB wa w.heap.size (.int .i64 11) (.int .i64 ln) (.string s) (.int .i64 k) (.int .i64 n) (.string t) vv (.slice sa m sc) := by rw [hwa]; exact NdB.new _ _ _ _ _ _ _ _ _
  have v0 := hN.c0; have v7 := hN.c7
  rw [hwa] at v0 v7
  have HB := Lib.hid hb
  have HWA := Lib.hid hwa
  clear hb hN hwa
  go_enter Tryz.func84, Tryz.ntmps84
  go_wp2_with fail
  rw [← HWA.out]
  refine (roll_c 0 2 wa (by decide) (by omega)).mono ?_
  rintro e w2 ⟨v, rfl, ho, hb2⟩
  have HO := Lib.hid ho
  have HB2 := Lib.hid (HB.out.trans (below_le' hb2 HB.out.size))
  clear ho hb2
  go_wp2_with fail
  go_ret2
  exact ⟨v, ret_tup (c := .nilIface) (by rw [show (2 : Int) = ((2 : Nat) : Int) from rfl, eq_nat]; rfl), by
    have h := own_lower HO.out HB.out.size
    have e : (rolesP 11 m).1 = List.replicate 2 0 := rfl
    rw [e, List.length_replicate]; exact h, HB2.out⟩

set_option maxRecDepth 100000 in
set_option maxHeartbeats 2000000 in
theorem roles_12 (ln : Int) (s : ByteArray) (k n : Int) (t : ByteArray) (vv : Value) (sa : Option Addr) (m sc : Nat) (w : World) (hm : m ≤ 4096) :
    Calls Tryz.prog 84 #[.agg #[.int .i64 12, .int .i64 ln, .string s, .int .i64 k, .int .i64 n, .string t, vv, .slice sa m sc]] w (RolesOut w 12 m) := by
  obtain ⟨wa, hwa⟩ : ∃ wa, wa = w.alloc (.cells #[.int .i64 12, .int .i64 ln, .string s, .int .i64 k, .int .i64 n, .string t, vv, .slice sa m sc] 31) := ⟨_, rfl⟩
  have hb : Below w.heap.size w wa := by rw [hwa]; exact (Below.refl _ _).alloc (Nat.le_refl _) _
  have hN : NdB wa w.heap.size (.int .i64 12) (.int .i64 ln) (.string s) (.int .i64 k) (.int .i64 n) (.string t) vv (.slice sa m sc) := by rw [hwa]; exact NdB.new _ _ _ _ _ _ _ _ _
  have v0 := hN.c0; have v7 := hN.c7
  rw [hwa] at v0 v7
  have HB := Lib.hid hb
  have HWA := Lib.hid hwa
  clear hb hN hwa
  go_enter Tryz.func84, Tryz.ntmps84
  go_wp2_with fail
  rw [← HWA.out]
  refine (roll_c 0 2 wa (by decide) (by omega)).mono ?_
  rintro e w2 ⟨v, rfl, ho, hb2⟩
  have HO := Lib.hid ho
  have HB2 := Lib.hid (HB.out.trans (below_le' hb2 HB.out.size))
  clear ho hb2
  go_wp2_with fail
  go_ret2
  exact ⟨v, ret_tup (c := .nilIface) (by rw [show (2 : Int) = ((2 : Nat) : Int) from rfl, eq_nat]; rfl), by
    have h := own_lower HO.out HB.out.size
    have e : (rolesP 12 m).1 = List.replicate 2 0 := rfl
    rw [e, List.length_replicate]; exact h, HB2.out⟩

set_option maxRecDepth 100000 in
set_option maxHeartbeats 2000000 in
theorem roles_13 (ln : Int) (s : ByteArray) (k n : Int) (t : ByteArray) (vv : Value) (sa : Option Addr) (m sc : Nat) (w : World) (hm : m ≤ 4096) :
    Calls Tryz.prog 84 #[.agg #[.int .i64 13, .int .i64 ln, .string s, .int .i64 k, .int .i64 n, .string t, vv, .slice sa m sc]] w (RolesOut w 13 m) := by
  obtain ⟨wa, hwa⟩ : ∃ wa, wa = w.alloc (.cells #[.int .i64 13, .int .i64 ln, .string s, .int .i64 k, .int .i64 n, .string t, vv, .slice sa m sc] 31) := ⟨_, rfl⟩
  have hb : Below w.heap.size w wa := by rw [hwa]; exact (Below.refl _ _).alloc (Nat.le_refl _) _
  have hN : NdB wa w.heap.size (.int .i64 13) (.int .i64 ln) (.string s) (.int .i64 k) (.int .i64 n) (.string t) vv (.slice sa m sc) := by rw [hwa]; exact NdB.new _ _ _ _ _ _ _ _ _
  have v0 := hN.c0; have v7 := hN.c7
  rw [hwa] at v0 v7
  have HB := Lib.hid hb
  have HWA := Lib.hid hwa
  clear hb hN hwa
  go_enter Tryz.func84, Tryz.ntmps84
  go_wp2_with fail
  rw [← HWA.out]
  refine (roll_c 0 2 wa (by decide) (by omega)).mono ?_
  rintro e w2 ⟨v, rfl, ho, hb2⟩
  have HO := Lib.hid ho
  have HB2 := Lib.hid (HB.out.trans (below_le' hb2 HB.out.size))
  clear ho hb2
  go_wp2_with fail
  go_ret2
  exact ⟨v, ret_tup (c := .nilIface) (by rw [show (2 : Int) = ((2 : Nat) : Int) from rfl, eq_nat]; rfl), by
    have h := own_lower HO.out HB.out.size
    have e : (rolesP 13 m).1 = List.replicate 2 0 := rfl
    rw [e, List.length_replicate]; exact h, HB2.out⟩

set_option maxRecDepth 100000 in
set_option maxHeartbeats 2000000 in
theorem roles_14 (ln : Int) (s : ByteArray) (k n : Int) (t : ByteArray) (vv : Value) (sa : Option Addr) (m sc : Nat) (w : World) (hm : m ≤ 4096) :
    Calls Tryz.prog 84 #[.agg #[.int .i64 14, .int .i64 ln, .string s, .int .i64 k, .int .i64 n, .string t, vv, .slice sa m sc]] w (RolesOut w 14 m) := by
  obtain ⟨wa, hwa⟩ : ∃ wa, wa = w.alloc (.cells #[.int .i64 14, .int .i64 ln, .string s, .int .i64 k, .int .i64 n, .string t, vv, .slice sa m sc] 31) := ⟨_, rfl⟩
  have hb : Below w.heap.size w wa := by rw [hwa]; exact (Below.refl _ _).alloc (Nat.le_refl _) _
  have hN : NdB wa w.heap.size (.int .i64 14) (.int .i64 ln) (.string s) (.int .i64 k) (.int .i64 n) (.string t) vv (.slice sa m sc) := by rw [hwa]; exact NdB.new _ _ _ _ _ _ _ _ _
  have v0 := hN.c0; have v7 := hN.c7
  rw [hwa] at v0 v7
  have HB := Lib.hid hb
  have HWA := Lib.hid hwa
  clear hb hN hwa
  go_enter Tryz.func84, Tryz.ntmps84
  go_wp2_with fail
  rw [← HWA.out]
  refine (roll_c 0 2 wa (by decide) (by omega)).mono ?_
  rintro e w2 ⟨v, rfl, ho, hb2⟩
  have HO := Lib.hid ho
  have HB2 := Lib.hid (HB.out.trans (below_le' hb2 HB.out.size))
  clear ho hb2
  go_wp2_with fail
  go_ret2
  exact ⟨v, ret_tup (c := .nilIface) (by rw [show (2 : Int) = ((2 : Nat) : Int) from rfl, eq_nat]; rfl), by
    have h := own_lower HO.out HB.out.size
    have e : (rolesP 14 m).1 = List.replicate 2 0 := rfl
    rw [e, List.length_replicate]; exact h, HB2.out⟩

set_option maxRecDepth 100000 in
set_option maxHeartbeats 2000000 in
theorem roles_15 (ln : Int) (s : ByteArray) (k n : Int) (t : ByteArray) (vv : Value) (sa : Option Addr) (m sc : Nat) (w : World) (hm : m ≤ 4096) :
    Calls Tryz.prog 84 #[.agg #[.int .i64 15, .int .i64 ln, .string s, .int .i64 k, .int .i64 n, .string t, vv, .slice sa m sc]] w (RolesOut w 15 m) := by
  obtain ⟨wa, hwa⟩ : ∃ wa, wa = w.alloc (.cells #[.int .i64 15, .int .i64 ln, .string s, .int .i64 k, .int .i64 n, .string t, vv, .slice sa m sc] 31) := ⟨_, rfl⟩
  have hb : Below w.heap.size w wa := by rw [hwa]; exact (Below.refl _ _).alloc (Nat.le_refl _) _
  have hN : NdB wa w.heap.size (.int .i64 15) (.int .i64 ln) (.string s) (.int .i64 k) (.int .i64 n) (.string t) vv (.slice sa m sc) := by rw [hwa]; exact NdB.new _ _ _ _ _ _ _ _ _
  have v0 := hN.c0; have v7 := hN.c7
  rw [hwa] at v0 v7
  have HB := Lib.hid hb
  have HWA := Lib.hid hwa
  clear hb hN hwa
  go_enter Tryz.func84, Tryz.ntmps84
  go_wp2_with fail
  rw [← HWA.out]
  refine (roll_c 0 2 wa (by decide) (by omega)).mono ?_
  rintro e w2 ⟨v, rfl, ho, hb2⟩
  have HO := Lib.hid ho
  have HB2 := Lib.hid (HB.out.trans (below_le' hb2 HB.out.size))
  clear ho hb2
  go_wp2_with fail
  go_ret2
  exact ⟨v, ret_tup (c := .nilIface) (by rw [show (2 : Int) = ((2 : Nat) : Int) from rfl, eq_nat]; rfl), by
    have h := own_lower HO.out HB.out.size
    have e : (rolesP 15 m).1 = List.replicate 2 0 := rfl
    rw [e, List.length_replicate]; exact h, HB2.out⟩

set_option maxRecDepth 100000 in
set_option maxHeartbeats 2000000 in
theorem roles_16 (ln : Int) (s : ByteArray) (k n : Int) (t : ByteArray) (vv : Value) (sa : Option Addr) (m sc : Nat) (w : World) (hm : m ≤ 4096) :
    Calls Tryz.prog 84 #[.agg #[.int .i64 16, .int .i64 ln, .string s, .int .i64 k, .int .i64 n, .string t, vv, .slice sa m sc]] w (RolesOut w 16 m) := by
  obtain ⟨wa, hwa⟩ : ∃ wa, wa = w.alloc (.cells #[.int .i64 16, .int .i64 ln, .string s, .int .i64 k, .int .i64 n, .string t, vv, .slice sa m sc] 31) := ⟨_, rfl⟩
  have hb : Below w.heap.size w wa := by rw [hwa]; exact (Below.refl _ _).alloc (Nat.le_refl _) _
  have hN : NdB wa w.heap.size (.int .i64 16) (.int .i64 ln) (.string s) (.int .i64 k) (.int .i64 n) (.string t) vv (.slice sa m sc) := by rw [hwa]; exact NdB.new _ _ _ _ _ _ _ _ _
  have v0 := hN.c0; have v7 := hN.c7
  rw [hwa] at v0 v7
  have HB := Lib.hid hb
  have HWA := Lib.hid hwa
  clear hb hN hwa
  go_enter Tryz.func84, Tryz.ntmps84
  go_wp2_with fail
  rw [← HWA.out]
  refine (roll_c 0 2 wa (by decide) (by omega)).mono ?_
  rintro e w2 ⟨v, rfl, ho, hb2⟩
  have HO := Lib.hid ho
  have HB2 := Lib.hid (HB.out.trans (below_le' hb2 HB.out.size))
  clear ho hb2
  go_wp2_with fail
  go_ret2
  exact ⟨v, ret_tup (c := .nilIface) (by rw [show (2 : Int) = ((2 : Nat) : Int) from rfl, eq_nat]; rfl), by
    have h := own_lower HO.out HB.out.size
    have e : (rolesP 16 m).1 = List.replicate 2 0 := rfl
    rw [e, List.length_replicate]; exact h, HB2.out⟩

set_option maxRecDepth 100000 in
set_option maxHeartbeats 2000000 in
theorem roles_17 (ln : Int) (s : ByteArray) (k n : Int) (t : ByteArray) (vv : Value) (sa : Option Addr) (m sc : Nat) (w : World) (hm : m ≤ 4096) :
    Calls Tryz.prog 84 #[.agg #[.int .i64 17, .int .i64 ln, .string s, .int .i64 k, .int .i64 n, .string t, vv, .slice sa m sc]] w (RolesOut w 17 m) := by
  obtain ⟨wa, hwa⟩ : ∃ wa, wa = w.alloc (.cells #[.int .i64 17, .int .i64 ln, .string s, .int .i64 k, .int .i64 n, .string t, vv, .slice sa m sc] 31) := ⟨_, rfl⟩
  have hb : Below w.heap.size w wa := by rw [hwa]; exact (Below.refl _ _).alloc (Nat.le_refl _) _
  have hN : NdB wa w.heap.size (.int .i64 17) (.int .i64 ln) (.string s) (.int .i64 k) (.int .i64 n) (.string t) vv (.slice sa m sc) := by rw [hwa]; exact NdB.new _ _ _ _ _ _ _ _ _
  have v0 := hN.c0; have v7 := hN.c7
  rw [hwa] at v0 v7
  have HB := Lib.hid hb
  have HWA := Lib.hid hwa
  clear hb hN hwa
  go_enter Tryz.func84, Tryz.ntmps84
  go_wp2_with fail
  rw [← HWA.out]
  refine (roll_c 0 2 wa (by decide) (by omega)).mono ?_
  rintro e w2 ⟨v, rfl, ho, hb2⟩
  have HO := Lib.hid ho
  have HB2 := Lib.hid (HB.out.trans (below_le' hb2 HB.out.size))
  clear ho hb2
  go_wp2_with fail
  go_ret2
  exact ⟨v, ret_tup (c := .nilIface) (by rw [show (2 : Int) = ((2 : Nat) : Int) from rfl, eq_nat]; rfl), by
    have h := own_lower HO.out HB.out.size
    have e : (rolesP 17 m).1 = List.replicate 2 0 := rfl
    rw [e, List.length_replicate]; exact h, HB2.out⟩

set_option maxRecDepth 100000 in
set_option maxHeartbeats 2000000 in
theorem roles_18 (ln : Int) (s : ByteArray) (k n : Int) (t : ByteArray) (vv : Value) (sa : Option Addr) (m sc : Nat) (w : World) (hm : m ≤ 4096) :
    Calls Tryz.prog 84 #[.agg #[.int .i64 18, .int .i64 ln, .string s, .int .i64 k, .int .i64 n, .string t, vv, .slice sa m sc]] w (RolesOut w 18 m) := by
  obtain ⟨wa, hwa⟩ : ∃ wa, wa = w.alloc (.cells #[.int .i64 18, .int .i64 ln, .string s, .int .i64 k, .int .i64 n, .string t, vv, .slice sa m sc] 31) := ⟨_, rfl⟩
  have hb : Below w.heap.size w wa := by rw [hwa]; exact (Below.refl _ _).alloc (Nat.le_refl _) _
  have hN : NdB wa w.heap.size (.int .i64 18) (.int .i64 ln) (.string s) (.int .i64 k) (.int .i64 n) (.string t) vv (.slice sa m sc) := by rw [hwa]; exact NdB.new _ _ _ _ _ _ _ _ _
  have v0 := hN.c0; have v7 := hN.c7
  rw [hwa] at v0 v7
  have HB := Lib.hid hb
  have HWA := Lib.hid hwa
  clear hb hN hwa
  go_enter Tryz.func84, Tryz.ntmps84
  go_wp2_with fail
  rw [← HWA.out]
  refine (roll_c 0 2 wa (by decide) (by omega)).mono ?_
  rintro e w2 ⟨v, rfl, ho, hb2⟩
  have HO := Lib.hid ho
  have HB2 := Lib.hid (HB.out.trans (below_le' hb2 HB.out.size))
  clear ho hb2
  go_wp2_with fail
  go_ret2
  exact ⟨v, ret_tup (c := .nilIface) (by rw [show (2 : Int) = ((2 : Nat) : Int) from rfl, eq_nat]; rfl), by
    have h := own_lower HO.out HB.out.size
    have e : (rolesP 18 m).1 = List.replicate 2 0 := rfl
    rw [e, List.length_replicate]; exact h, HB2.out⟩

set_option maxRecDepth 100000 in
set_option maxHeartbeats 2000000 in
theorem roles_20 (ln : Int) (s : ByteArray) (k n : Int) (t : ByteArray) (vv : Value) (sa : Option Addr) (m sc : Nat) (w : World) (hm : m ≤ 4096) :
    Calls Tryz.prog 84 #[.agg #[.int .i64 20, .int .i64 ln, .string s, .int .i64 k, .int .i64 n, .string t, vv, .slice sa m sc]] w (RolesOut w 20 m) := by
  obtain ⟨wa, hwa⟩ : ∃ wa, wa = w.alloc (.cells #[.int .i64 20, .int .i64 ln, .string s, .int .i64 k, .int .i64 n, .string t, vv, .slice sa m sc] 31) := ⟨_, rfl⟩
  have hb : Below w.heap.size w wa := by rw [hwa]; exact (Below.refl _ _).alloc (Nat.le_refl _) _
  have hN : NdB wa w.heap.size (.int .i64 20) (.int .i64 ln) (.string s) (.int .i64 k) (.int .i64 n) (.string t) vv (.slice sa m sc) := by rw [hwa]; exact NdB.new _ _ _ _ _ _ _ _ _
  have v0 := hN.c0; have v7 := hN.c7
  rw [hwa] at v0 v7
  have HB := Lib.hid hb
  have HWA := Lib.hid hwa
  clear hb hN hwa
  go_enter Tryz.func84, Tryz.ntmps84
  go_wp2_with fail
  rw [← HWA.out]
  refine (roll_c 0 2 wa (by decide) (by omega)).mono ?_
  rintro e w2 ⟨v, rfl, ho, hb2⟩
  have HO := Lib.hid ho
  have HB2 := Lib.hid (HB.out.trans (below_le' hb2 HB.out.size))
  clear ho hb2
  go_wp2_with fail
  go_ret2
  exact ⟨v, ret_tup (c := .nilIface) (by rw [show (2 : Int) = ((2 : Nat) : Int) from rfl, eq_nat]; rfl), by
    have h := own_lower HO.out HB.out.size
    have e : (rolesP 20 m).1 = List.replicate 2 0 := rfl
    rw [e, List.length_replicate]; exact h, HB2.out⟩

set_option maxRecDepth 100000 in
set_option maxHeartbeats 2000000 in
theorem roles_22 (ln : Int) (s : ByteArray) (k n : Int) (t : ByteArray) (vv : Value) (sa : Option Addr) (m sc : Nat) (w : World) (hm : m ≤ 4096) :
    Calls Tryz.prog 84 #[.agg #[.int .i64 22, .int .i64 ln, .string s, .int .i64 k, .int .i64 n, .string t, vv, .slice sa m sc]] w (RolesOut w 22 m) := by
  obtain ⟨wa, hwa⟩ : ∃ wa, wa = w.alloc (.cells #[.int .i64 22, .int .i64 ln, .string s, .int .i64 k, .int .i64 n, .string t, vv, .slice sa m sc] 31) := ⟨_, rfl⟩
  have hb : Below w.heap.size w wa := by rw [hwa]; exact (Below.refl _ _).alloc (Nat.le_refl _) _
  have hN : NdB wa w.heap.size (.int .i64 22) (.int .i64 ln) (.string s) (.int .i64 k) (.int .i64 n) (.string t) vv (.slice sa m sc) := by rw [hwa]; exact NdB.new _ _ _ _ _ _ _ _ _
  have v0 := hN.c0; have v7 := hN.c7
  rw [hwa] at v0 v7
  have HB := Lib.hid hb
  have HWA := Lib.hid hwa
  clear hb hN hwa
  go_enter Tryz.func84, Tryz.ntmps84
  go_wp2_with fail
  rw [← HWA.out]
  refine (roll_c 0 2 wa (by decide) (by omega)).mono ?_
  rintro e w2 ⟨v, rfl, ho, hb2⟩
  have HO := Lib.hid ho
  have HB2 := Lib.hid (HB.out.trans (below_le' hb2 HB.out.size))
  clear ho hb2
  go_wp2_with fail
  go_ret2
  exact ⟨v, ret_tup (c := .nilIface) (by rw [show (2 : Int) = ((2 : Nat) : Int) from rfl, eq_nat]; rfl), by
    have h := own_lower HO.out HB.out.size
    have e : (rolesP 22 m).1 = List.replicate 2 0 := rfl
    rw [e, List.length_replicate]; exact h, HB2.out⟩
end Go.Proofs.YtjibjgokloondaaGreatDoor
namespace Go.Proofs.YtjibjgokloondaaGreatDoor
open Go.RowKit Go.Lib
set_option linter.unusedVariables false

set_option maxRecDepth 100000 in
set_option maxHeartbeats 2000000 in
theorem roles_27 (ln : Int) (s : ByteArray) (k n : Int) (t : ByteArray) (vv : Value) (sa : Option Addr) (m sc : Nat) (w : World) (hm : m ≤ 4096) :
    Calls Tryz.prog 84 #[.agg #[.int .i64 27, .int .i64 ln, .string s, .int .i64 k, .int .i64 n, .string t, vv, .slice sa m sc]] w (RolesOut w 27 m) := by
  obtain ⟨wa, hwa⟩ : ∃ wa, wa = w.alloc (.cells #[.int .i64 27, .int .i64 ln, .string s, .int .i64 k, .int .i64 n, .string t, vv, .slice sa m sc] 31) := ⟨_, rfl⟩
  have hb : Below w.heap.size w wa := by rw [hwa]; exact (Below.refl _ _).alloc (Nat.le_refl _) _
  have hN : NdB wa w.heap.size (.int .i64 27) (.int .i64 ln) (.string s) (.int .i64 k) (.int .i64 n) (.string t) vv (.slice sa m sc) := by rw [hwa]; exact NdB.new _ _ _ _ _ _ _ _ _
  have v0 := hN.c0; have v7 := hN.c7
  rw [hwa] at v0 v7
  have HB := Lib.hid hb
  have HWA := Lib.hid hwa
  clear hb hN hwa
  go_enter Tryz.func84, Tryz.ntmps84
  go_wp2_with fail
  rw [← HWA.out]
  go_ret2
  refine ⟨_, ret_tup (c := .nilIface) (by rw [show (2 : Int) = ((2 : Nat) : Int) from rfl, eq_nat]; rfl), ?_, HB.out.alloc HB.out.size _⟩
  have h := own_lit (cs := #[.int .i64 2, .int .i64 0]) (n := 2) wa HB.out.size (by decide) rfl
  have hz : wa.heap.size = w.heap.size + 1 := by rw [HWA.out]; simp
  rw [hz] at h
  exact h

set_option maxRecDepth 100000 in
set_option maxHeartbeats 2000000 in
theorem roles_42 (ln : Int) (s : ByteArray) (k n : Int) (t : ByteArray) (vv : Value) (sa : Option Addr) (m sc : Nat) (w : World) (hm : m ≤ 4096) :
    Calls Tryz.prog 84 #[.agg #[.int .i64 42, .int .i64 ln, .string s, .int .i64 k, .int .i64 n, .string t, vv, .slice sa m sc]] w (RolesOut w 42 m) := by
  obtain ⟨wa, hwa⟩ : ∃ wa, wa = w.alloc (.cells #[.int .i64 42, .int .i64 ln, .string s, .int .i64 k, .int .i64 n, .string t, vv, .slice sa m sc] 31) := ⟨_, rfl⟩
  have hb : Below w.heap.size w wa := by rw [hwa]; exact (Below.refl _ _).alloc (Nat.le_refl _) _
  have hN : NdB wa w.heap.size (.int .i64 42) (.int .i64 ln) (.string s) (.int .i64 k) (.int .i64 n) (.string t) vv (.slice sa m sc) := by rw [hwa]; exact NdB.new _ _ _ _ _ _ _ _ _
  have v0 := hN.c0; have v7 := hN.c7
  rw [hwa] at v0 v7
  have HB := Lib.hid hb
  have HWA := Lib.hid hwa
  clear hb hN hwa
  go_enter Tryz.func84, Tryz.ntmps84
  go_wp2_with fail
  rw [← HWA.out]
  go_ret2
  refine ⟨_, ret_tup (c := .nilIface) (by rw [show (2 : Int) = ((2 : Nat) : Int) from rfl, eq_nat]; rfl), ?_, HB.out.alloc HB.out.size _⟩
  have h := own_lit (cs := #[.int .i64 0, .int .i64 6]) (n := 2) wa HB.out.size (by decide) rfl
  have hz : wa.heap.size = w.heap.size + 1 := by rw [HWA.out]; simp
  rw [hz] at h
  exact h

set_option maxRecDepth 100000 in
set_option maxHeartbeats 2000000 in
theorem roles_44 (ln : Int) (s : ByteArray) (k n : Int) (t : ByteArray) (vv : Value) (sa : Option Addr) (m sc : Nat) (w : World) (hm : m ≤ 4096) :
    Calls Tryz.prog 84 #[.agg #[.int .i64 44, .int .i64 ln, .string s, .int .i64 k, .int .i64 n, .string t, vv, .slice sa m sc]] w (RolesOut w 44 m) := by
  obtain ⟨wa, hwa⟩ : ∃ wa, wa = w.alloc (.cells #[.int .i64 44, .int .i64 ln, .string s, .int .i64 k, .int .i64 n, .string t, vv, .slice sa m sc] 31) := ⟨_, rfl⟩
  have hb : Below w.heap.size w wa := by rw [hwa]; exact (Below.refl _ _).alloc (Nat.le_refl _) _
  have hN : NdB wa w.heap.size (.int .i64 44) (.int .i64 ln) (.string s) (.int .i64 k) (.int .i64 n) (.string t) vv (.slice sa m sc) := by rw [hwa]; exact NdB.new _ _ _ _ _ _ _ _ _
  have v0 := hN.c0; have v7 := hN.c7
  rw [hwa] at v0 v7
  have HB := Lib.hid hb
  have HWA := Lib.hid hwa
  clear hb hN hwa
  go_enter Tryz.func84, Tryz.ntmps84
  go_wp2_with fail
  rw [← HWA.out]
  go_ret2
  refine ⟨_, ret_tup (c := .nilIface) (by rw [show (2 : Int) = ((2 : Nat) : Int) from rfl, eq_nat]; rfl), ?_, HB.out.alloc HB.out.size _⟩
  have h := own_lit (cs := #[.int .i64 0, .int .i64 6]) (n := 2) wa HB.out.size (by decide) rfl
  have hz : wa.heap.size = w.heap.size + 1 := by rw [HWA.out]; simp
  rw [hz] at h
  exact h

set_option maxRecDepth 100000 in
set_option maxHeartbeats 2000000 in
theorem roles_48 (ln : Int) (s : ByteArray) (k n : Int) (t : ByteArray) (vv : Value) (sa : Option Addr) (m sc : Nat) (w : World) (hm : m ≤ 4096) :
    Calls Tryz.prog 84 #[.agg #[.int .i64 48, .int .i64 ln, .string s, .int .i64 k, .int .i64 n, .string t, vv, .slice sa m sc]] w (RolesOut w 48 m) := by
  obtain ⟨wa, hwa⟩ : ∃ wa, wa = w.alloc (.cells #[.int .i64 48, .int .i64 ln, .string s, .int .i64 k, .int .i64 n, .string t, vv, .slice sa m sc] 31) := ⟨_, rfl⟩
  have hb : Below w.heap.size w wa := by rw [hwa]; exact (Below.refl _ _).alloc (Nat.le_refl _) _
  have hN : NdB wa w.heap.size (.int .i64 48) (.int .i64 ln) (.string s) (.int .i64 k) (.int .i64 n) (.string t) vv (.slice sa m sc) := by rw [hwa]; exact NdB.new _ _ _ _ _ _ _ _ _
  have v0 := hN.c0; have v7 := hN.c7
  rw [hwa] at v0 v7
  have HB := Lib.hid hb
  have HWA := Lib.hid hwa
  clear hb hN hwa
  go_enter Tryz.func84, Tryz.ntmps84
  go_wp2_with fail
  rw [← HWA.out]
  go_ret2
  refine ⟨_, ret_tup (c := .nilIface) (by rw [show (2 : Int) = ((2 : Nat) : Int) from rfl, eq_nat]; rfl), ?_, HB.out.alloc HB.out.size _⟩
  have h := own_lit (cs := #[.int .i64 0, .int .i64 6]) (n := 2) wa HB.out.size (by decide) rfl
  have hz : wa.heap.size = w.heap.size + 1 := by rw [HWA.out]; simp
  rw [hz] at h
  exact h

set_option maxRecDepth 100000 in
set_option maxHeartbeats 2000000 in
theorem roles_43 (ln : Int) (s : ByteArray) (k n : Int) (t : ByteArray) (vv : Value) (sa : Option Addr) (m sc : Nat) (w : World) (hm : m ≤ 4096) :
    Calls Tryz.prog 84 #[.agg #[.int .i64 43, .int .i64 ln, .string s, .int .i64 k, .int .i64 n, .string t, vv, .slice sa m sc]] w (RolesOut w 43 m) := by
  obtain ⟨wa, hwa⟩ : ∃ wa, wa = w.alloc (.cells #[.int .i64 43, .int .i64 ln, .string s, .int .i64 k, .int .i64 n, .string t, vv, .slice sa m sc] 31) := ⟨_, rfl⟩
  have hb : Below w.heap.size w wa := by rw [hwa]; exact (Below.refl _ _).alloc (Nat.le_refl _) _
  have hN : NdB wa w.heap.size (.int .i64 43) (.int .i64 ln) (.string s) (.int .i64 k) (.int .i64 n) (.string t) vv (.slice sa m sc) := by rw [hwa]; exact NdB.new _ _ _ _ _ _ _ _ _
  have v0 := hN.c0; have v7 := hN.c7
  rw [hwa] at v0 v7
  have HB := Lib.hid hb
  have HWA := Lib.hid hwa
  clear hb hN hwa
  go_enter Tryz.func84, Tryz.ntmps84
  go_wp2_with fail
  rw [← HWA.out]
  go_ret2
  refine ⟨_, ret_tup (c := .nilIface) (by rw [show (3 : Int) = ((3 : Nat) : Int) from rfl, eq_nat]; rfl), ?_, HB.out.alloc HB.out.size _⟩
  have h := own_lit (cs := #[.int .i64 0, .int .i64 0, .int .i64 6]) (n := 3) wa HB.out.size (by decide) rfl
  have hz : wa.heap.size = w.heap.size + 1 := by rw [HWA.out]; simp
  rw [hz] at h
  exact h

set_option maxRecDepth 100000 in
set_option maxHeartbeats 2000000 in
theorem roles_50 (ln : Int) (s : ByteArray) (k n : Int) (t : ByteArray) (vv : Value) (sa : Option Addr) (m sc : Nat) (w : World) (hm : m ≤ 4096) :
    Calls Tryz.prog 84 #[.agg #[.int .i64 50, .int .i64 ln, .string s, .int .i64 k, .int .i64 n, .string t, vv, .slice sa m sc]] w (RolesOut w 50 m) := by
  obtain ⟨wa, hwa⟩ : ∃ wa, wa = w.alloc (.cells #[.int .i64 50, .int .i64 ln, .string s, .int .i64 k, .int .i64 n, .string t, vv, .slice sa m sc] 31) := ⟨_, rfl⟩
  have hb : Below w.heap.size w wa := by rw [hwa]; exact (Below.refl _ _).alloc (Nat.le_refl _) _
  have hN : NdB wa w.heap.size (.int .i64 50) (.int .i64 ln) (.string s) (.int .i64 k) (.int .i64 n) (.string t) vv (.slice sa m sc) := by rw [hwa]; exact NdB.new _ _ _ _ _ _ _ _ _
  have v0 := hN.c0; have v7 := hN.c7
  rw [hwa] at v0 v7
  have HB := Lib.hid hb
  have HWA := Lib.hid hwa
  clear hb hN hwa
  go_enter Tryz.func84, Tryz.ntmps84
  go_wp2_with fail
  rw [← HWA.out]
  go_ret2
  refine ⟨_, ret_tup (c := .nilIface) (by rw [show (2 : Int) = ((2 : Nat) : Int) from rfl, eq_nat]; rfl), ?_, HB.out.alloc HB.out.size _⟩
  have h := own_lit (cs := #[.int .i64 5, .int .i64 6]) (n := 2) wa HB.out.size (by decide) rfl
  have hz : wa.heap.size = w.heap.size + 1 := by rw [HWA.out]; simp
  rw [hz] at h
  exact h

set_option maxRecDepth 100000 in
set_option maxHeartbeats 2000000 in
theorem roles_51 (ln : Int) (s : ByteArray) (k n : Int) (t : ByteArray) (vv : Value) (sa : Option Addr) (m sc : Nat) (w : World) (hm : m ≤ 4096) :
    Calls Tryz.prog 84 #[.agg #[.int .i64 51, .int .i64 ln, .string s, .int .i64 k, .int .i64 n, .string t, vv, .slice sa m sc]] w (RolesOut w 51 m) := by
  obtain ⟨wa, hwa⟩ : ∃ wa, wa = w.alloc (.cells #[.int .i64 51, .int .i64 ln, .string s, .int .i64 k, .int .i64 n, .string t, vv, .slice sa m sc] 31) := ⟨_, rfl⟩
  have hb : Below w.heap.size w wa := by rw [hwa]; exact (Below.refl _ _).alloc (Nat.le_refl _) _
  have hN : NdB wa w.heap.size (.int .i64 51) (.int .i64 ln) (.string s) (.int .i64 k) (.int .i64 n) (.string t) vv (.slice sa m sc) := by rw [hwa]; exact NdB.new _ _ _ _ _ _ _ _ _
  have v0 := hN.c0; have v7 := hN.c7
  rw [hwa] at v0 v7
  have HB := Lib.hid hb
  have HWA := Lib.hid hwa
  clear hb hN hwa
  go_enter Tryz.func84, Tryz.ntmps84
  go_wp2_with fail
  rw [← HWA.out]
  go_ret2
  refine ⟨_, ret_tup (c := .nilIface) (by rw [show (2 : Int) = ((2 : Nat) : Int) from rfl, eq_nat]; rfl), ?_, HB.out.alloc HB.out.size _⟩
  have h := own_lit (cs := #[.int .i64 6, .int .i64 6]) (n := 2) wa HB.out.size (by decide) rfl
  have hz : wa.heap.size = w.heap.size + 1 := by rw [HWA.out]; simp
  rw [hz] at h
  exact h
end Go.Proofs.YtjibjgokloondaaGreatDoor
namespace Go.Proofs.YtjibjgokloondaaGreatDoor
open Go.RowKit Go.Lib
set_option linter.unusedVariables false

set_option maxRecDepth 100000 in
set_option maxHeartbeats 2000000 in
theorem roles_23 (ln : Int) (s : ByteArray) (k n : Int) (t : ByteArray) (vv : Value) (sa : Option Addr) (m sc : Nat) (w : World) (hm : m ≤ 4096) :
    Calls Tryz.prog 84 #[.agg #[.int .i64 23, .int .i64 ln, .string s, .int .i64 k, .int .i64 n, .string t, vv, .slice sa m sc]] w (RolesOut w 23 m) := by
  obtain ⟨wa, hwa⟩ : ∃ wa, wa = w.alloc (.cells #[.int .i64 23, .int .i64 ln, .string s, .int .i64 k, .int .i64 n, .string t, vv, .slice sa m sc] 31) := ⟨_, rfl⟩
  have hb : Below w.heap.size w wa := by rw [hwa]; exact (Below.refl _ _).alloc (Nat.le_refl _) _
  have hN : NdB wa w.heap.size (.int .i64 23) (.int .i64 ln) (.string s) (.int .i64 k) (.int .i64 n) (.string t) vv (.slice sa m sc) := by rw [hwa]; exact NdB.new _ _ _ _ _ _ _ _ _
  have v0 := hN.c0; have v7 := hN.c7
  rw [hwa] at v0 v7
  have HB := Lib.hid hb
  have HWA := Lib.hid hwa
  clear hb hN hwa
  obtain ⟨i0, hi0, hz0, hz1, hz2⟩ := info_partsN int_info
  obtain ⟨q, hq⟩ : ∃ q : Nat, q = m - 2 := ⟨_, rfl⟩
  have HQ := Lib.hid hq
  have hsz : wa.heap.size ≤ wa.heap.size := Nat.le_refl _
  by_cases hlt : m < 2
  · have h1 : (m : Int) - 2 < 0 := by omega
    have e1 : IntKind.i64.wrap ((m : Int) - 2) = (m : Int) - 2 := IntWalk.i64_in _ (by omega)
    have AC := Lib.hid (fun W => by have h := roll_c 1 q W (by decide) (by omega); rw [show (q : Int) = 0 by omega] at h; exact h)
    have hq4 : q ≤ 4096 := by omega
    have hmx : max ((m : Int) - 2) 0 = 0 := by omega
    clear hq
    go_enter Tryz.func84, Tryz.ntmps84
    go_wp2_with fail
    rw [← HWA.out]
    refine (roll_c 0 2 wa (by decide) (by decide)).mono ?_
    rintro e w2 ⟨v1, rfl, ho, hb2⟩
    have HO := Lib.hid ho
    have HB2 := Lib.hid (HB.out.trans (below_le' hb2 HB.out.size))
    have hw2 : wa.heap.size ≤ w2.heap.size := hb2.size
    clear ho hb2
    go_wp2_with fail
    refine (AC.out w2).mono ?_
    rintro e w3 ⟨v2, rfl, ho2, hb3⟩
    have HB3 := Lib.hid (HB2.out.trans (below_le' hb3 HB2.out.size))
    have HO3 := Lib.hid (own_belowN HO.out hb3)
    have HA := Lib.hid ho2
    have hz3 : wa.heap.size ≤ w3.heap.size := by have := HB3.out.size; have := HO3.out; have := hb3.size; omega
    clear hb3
    rcases ho2.2 with ⟨rfl, hq0⟩ | ⟨g, cap, cur, rfl, hbg, hh, hqc, hcm, hcs, htk⟩
    · clear ho2
      go_wp2_with (at_builtin; refine wpList_append_own_none rfl (.tmp 61) (.tmp 66) 24 rfl wa.heap.size 3 i0 1 Tryz.underlying24 hi0 v1 2 (ints (List.replicate 2 0)) rfl HO3.out rfl ?_)
      go_ret2
      exact ⟨_, ret_tup (c := .nilIface) (by rw [show (rolesP 23 m).2 = decide (2 ≤ m) from rfl, ← le_nat]; rfl), by
        have h := own_lower HO3.out HB.out.size
        have e : (rolesP 23 m).1 = [0, 0] := by rw [show (rolesP 23 m).1 = [0, 0] ++ List.replicate (m - 2) 1 from rfl, ← HQ.out, hq0]; rfl
        rw [e]; exact h, HB3.out⟩
    · clear ho2 hh htk
      go_wp2_with (at_builtin; refine wpList_append_own _ rfl (.tmp 61) (.tmp 66) 24 rfl wa.heap.size 3 i0 (.int .i64 0) 1 8 Tryz.underlying24 hi0 hz0 hz1 hz2 rfl (by decide) v1 2 (ints (List.replicate 2 0)) rfl HO3.out ⟨g, 0, none⟩ q cap (ints (List.replicate q 1)) rfl (by rw [ints_len, List.length_replicate]; omega) (HA.out.cells (g := g) rfl) ?c2 ?c3 ?c4 ?c5 ?c6
                   case c2 => intro u hu; unfold ints at hu; rw [List.mem_map] at hu; obtain ⟨x, _, rfl⟩ := hu; rfl
                   case c3 => unfold maxLen; omega
                   case c4 => omega
                   case c5 => exact hz3
                   intro v' w11 hown' hgrow _
                   have HB11 := Lib.hid (grown_belowN HB3.out HB3.out.size hgrow (fun k hk => Nat.le_trans HB.out.size (own_geN HO3.out k hk)))
                   have HO11 := Lib.hid hown'
                   clear hown' hgrow)
      go_ret2
      exact ⟨_, ret_tup (c := .nilIface) (by rw [show (rolesP 23 m).2 = decide (2 ≤ m) from rfl, ← le_nat]; rfl), by
        have h := own_lower HO11.out HB.out.size
        have e : (rolesP 23 m).1 = [0, 0] ++ List.replicate q 1 := by rw [show (rolesP 23 m).1 = [0, 0] ++ List.replicate (m - 2) 1 from rfl, ← HQ.out]
        rw [e, ints_app, List.length_append, List.length_replicate]; exact h, HB11.out⟩
  · have h1 : (0 : Int) ≤ (m : Int) - 2 := by omega
    have e1 : IntKind.i64.wrap ((m : Int) - 2) = (m : Int) - 2 := IntWalk.i64_in _ (by omega)
    have AC := Lib.hid (fun W => by have h := roll_c 1 q W (by decide) (by omega); rw [show (q : Int) = (m : Int) - 2 by omega] at h; exact h)
    have hq4 : q ≤ 4096 := by omega
    have hmx : max ((m : Int) - 2) 0 = (m : Int) - 2 := by omega
    clear hq
    go_enter Tryz.func84, Tryz.ntmps84
    go_wp2_with fail
    rw [← HWA.out]
    refine (roll_c 0 2 wa (by decide) (by decide)).mono ?_
    rintro e w2 ⟨v1, rfl, ho, hb2⟩
    have HO := Lib.hid ho
    have HB2 := Lib.hid (HB.out.trans (below_le' hb2 HB.out.size))
    have hw2 : wa.heap.size ≤ w2.heap.size := hb2.size
    clear ho hb2
    go_wp2_with fail
    refine (AC.out w2).mono ?_
    rintro e w3 ⟨v2, rfl, ho2, hb3⟩
    have HB3 := Lib.hid (HB2.out.trans (below_le' hb3 HB2.out.size))
    have HO3 := Lib.hid (own_belowN HO.out hb3)
    have HA := Lib.hid ho2
    have hz3 : wa.heap.size ≤ w3.heap.size := by have := HB3.out.size; have := HO3.out; have := hb3.size; omega
    clear hb3
    rcases ho2.2 with ⟨rfl, hq0⟩ | ⟨g, cap, cur, rfl, hbg, hh, hqc, hcm, hcs, htk⟩
    · clear ho2
      go_wp2_with (at_builtin; refine wpList_append_own_none rfl (.tmp 61) (.tmp 66) 24 rfl wa.heap.size 3 i0 1 Tryz.underlying24 hi0 v1 2 (ints (List.replicate 2 0)) rfl HO3.out rfl ?_)
      go_ret2
      exact ⟨_, ret_tup (c := .nilIface) (by rw [show (rolesP 23 m).2 = decide (2 ≤ m) from rfl, ← le_nat]; rfl), by
        have h := own_lower HO3.out HB.out.size
        have e : (rolesP 23 m).1 = [0, 0] := by rw [show (rolesP 23 m).1 = [0, 0] ++ List.replicate (m - 2) 1 from rfl, ← HQ.out, hq0]; rfl
        rw [e]; exact h, HB3.out⟩
    · clear ho2 hh htk
      go_wp2_with (at_builtin; refine wpList_append_own _ rfl (.tmp 61) (.tmp 66) 24 rfl wa.heap.size 3 i0 (.int .i64 0) 1 8 Tryz.underlying24 hi0 hz0 hz1 hz2 rfl (by decide) v1 2 (ints (List.replicate 2 0)) rfl HO3.out ⟨g, 0, none⟩ q cap (ints (List.replicate q 1)) rfl (by rw [ints_len, List.length_replicate]; omega) (HA.out.cells (g := g) rfl) ?d2 ?d3 ?d4 ?d5 ?d6
                   case d2 => intro u hu; unfold ints at hu; rw [List.mem_map] at hu; obtain ⟨x, _, rfl⟩ := hu; rfl
                   case d3 => unfold maxLen; omega
                   case d4 => omega
                   case d5 => exact hz3
                   intro v' w11 hown' hgrow _
                   have HB11 := Lib.hid (grown_belowN HB3.out HB3.out.size hgrow (fun k hk => Nat.le_trans HB.out.size (own_geN HO3.out k hk)))
                   have HO11 := Lib.hid hown'
                   clear hown' hgrow)
      go_ret2
      exact ⟨_, ret_tup (c := .nilIface) (by rw [show (rolesP 23 m).2 = decide (2 ≤ m) from rfl, ← le_nat]; rfl), by
        have h := own_lower HO11.out HB.out.size
        have e : (rolesP 23 m).1 = [0, 0] ++ List.replicate q 1 := by rw [show (rolesP 23 m).1 = [0, 0] ++ List.replicate (m - 2) 1 from rfl, ← HQ.out]
        rw [e, ints_app, List.length_append, List.length_replicate]; exact h, HB11.out⟩

set_option maxRecDepth 100000 in
set_option maxHeartbeats 2000000 in
theorem roles_49 (ln : Int) (s : ByteArray) (k n : Int) (t : ByteArray) (vv : Value) (sa : Option Addr) (m sc : Nat) (w : World) (hm : m ≤ 4096) :
    Calls Tryz.prog 84 #[.agg #[.int .i64 49, .int .i64 ln, .string s, .int .i64 k, .int .i64 n, .string t, vv, .slice sa m sc]] w (RolesOut w 49 m) := by
  obtain ⟨wa, hwa⟩ : ∃ wa, wa = w.alloc (.cells #[.int .i64 49, .int .i64 ln, .string s, .int .i64 k, .int .i64 n, .string t, vv, .slice sa m sc] 31) := ⟨_, rfl⟩
  have hb : Below w.heap.size w wa := by rw [hwa]; exact (Below.refl _ _).alloc (Nat.le_refl _) _
  have hN : NdB wa w.heap.size (.int .i64 49) (.int .i64 ln) (.string s) (.int .i64 k) (.int .i64 n) (.string t) vv (.slice sa m sc) := by rw [hwa]; exact NdB.new _ _ _ _ _ _ _ _ _
  have v0 := hN.c0; have v7 := hN.c7
  rw [hwa] at v0 v7
  have HB := Lib.hid hb
  have HWA := Lib.hid hwa
  clear hb hN hwa
  obtain ⟨i0, hi0, hz0, hz1, hz2⟩ := info_partsN int_info
  obtain ⟨q, hq⟩ : ∃ q : Nat, q = m - 1 := ⟨_, rfl⟩
  have HQ := Lib.hid hq
  have hsz : wa.heap.size ≤ wa.heap.size := Nat.le_refl _
  by_cases hlt : m < 1
  · have h1 : (m : Int) - 1 < 0 := by omega
    have e1 : IntKind.i64.wrap ((m : Int) - 1) = (m : Int) - 1 := IntWalk.i64_in _ (by omega)
    have AC := Lib.hid (fun W => by have h := roll_c 8 q W (by decide) (by omega); rw [show (q : Int) = 0 by omega] at h; exact h)
    have hq4 : q ≤ 4096 := by omega
    have hmx : max ((m : Int) - 1) 0 = 0 := by omega
    clear hq
    go_enter Tryz.func84, Tryz.ntmps84
    go_wp2_with fail
    rw [← HWA.out]
    obtain ⟨w2, hw2⟩ : ∃ w2, w2 = wa.alloc (.cells #[.int .i64 6] 3) := ⟨_, rfl⟩
    have HO := Lib.hid (show w2.ownsRow wa.heap.size 3 1 (.slice (some ⟨w.heap.size + 1, 0, none⟩) 1 1) 1 (ints [6]) by
      rw [hw2]
      have h := own_lit (cs := #[.int .i64 6]) (n := 1) wa (Nat.le_refl _) (by decide) rfl
      have hz : wa.heap.size = w.heap.size + 1 := by rw [HWA.out]; simp
      rw [hz] at h ⊢
      exact h)
    have HB2 := Lib.hid (show Below w.heap.size w w2 by rw [hw2]; exact HB.out.alloc HB.out.size _)
    have hw2z : wa.heap.size ≤ w2.heap.size := by rw [hw2]; simp
    have HW2 := Lib.hid hw2
    rw [← HW2.out]
    clear hw2
    refine (AC.out w2).mono ?_
    rintro e w3 ⟨v2, rfl, ho2, hb3⟩
    have HB3 := Lib.hid (HB2.out.trans (below_le' hb3 HB2.out.size))
    have HO3 := Lib.hid (own_belowN HO.out hb3)
    have HA := Lib.hid ho2
    have hz3 : wa.heap.size ≤ w3.heap.size := by have := HB3.out.size; have := HO3.out; have := hb3.size; omega
    clear hb3
    rcases ho2.2 with ⟨rfl, hq0⟩ | ⟨g, cap, cur, rfl, hbg, hh, hqc, hcm, hcs, htk⟩
    · clear ho2
      go_wp2_with (at_builtin; refine wpList_append_own_none rfl (.tmp 161) (.tmp 166) 24 rfl wa.heap.size 3 i0 1 Tryz.underlying24 hi0 (.slice (some ⟨w.heap.size + 1, 0, none⟩) 1 1) 1 (ints [6]) rfl HO3.out rfl ?_)
      go_ret2
      exact ⟨_, ret_tup (c := .nilIface) (by rw [show (rolesP 49 m).2 = decide (2 ≤ m) from rfl, ← le_nat]; rfl), by
        have h := own_lower HO3.out HB.out.size
        have e : (rolesP 49 m).1 = [6] := by rw [show (rolesP 49 m).1 = [6] ++ List.replicate (m - 1) 8 from rfl, ← HQ.out, hq0]; rfl
        rw [e]; exact h, HB3.out⟩
    · clear ho2 hh htk
      go_wp2_with (at_builtin; refine wpList_append_own _ rfl (.tmp 161) (.tmp 166) 24 rfl wa.heap.size 3 i0 (.int .i64 0) 1 8 Tryz.underlying24 hi0 hz0 hz1 hz2 rfl (by decide) (.slice (some ⟨w.heap.size + 1, 0, none⟩) 1 1) 1 (ints [6]) rfl HO3.out ⟨g, 0, none⟩ q cap (ints (List.replicate q 8)) rfl (by rw [ints_len, List.length_replicate]; omega) (HA.out.cells (g := g) rfl) ?c2 ?c3 ?c4 ?c5 ?c6
                   case c2 => intro u hu; unfold ints at hu; rw [List.mem_map] at hu; obtain ⟨x, _, rfl⟩ := hu; rfl
                   case c3 => unfold maxLen; omega
                   case c4 => omega
                   case c5 => exact hz3
                   intro v' w11 hown' hgrow _
                   have HB11 := Lib.hid (grown_belowN HB3.out HB3.out.size hgrow (fun k hk => Nat.le_trans HB.out.size (own_geN HO3.out k hk)))
                   have HO11 := Lib.hid hown'
                   clear hown' hgrow)
      go_ret2
      exact ⟨_, ret_tup (c := .nilIface) (by rw [show (rolesP 49 m).2 = decide (2 ≤ m) from rfl, ← le_nat]; rfl), by
        have h := own_lower HO11.out HB.out.size
        have e : (rolesP 49 m).1 = [6] ++ List.replicate q 8 := by rw [show (rolesP 49 m).1 = [6] ++ List.replicate (m - 1) 8 from rfl, ← HQ.out]
        rw [e, ints_app, List.length_append, List.length_replicate]; exact h, HB11.out⟩
  · have h1 : (0 : Int) ≤ (m : Int) - 1 := by omega
    have e1 : IntKind.i64.wrap ((m : Int) - 1) = (m : Int) - 1 := IntWalk.i64_in _ (by omega)
    have AC := Lib.hid (fun W => by have h := roll_c 8 q W (by decide) (by omega); rw [show (q : Int) = (m : Int) - 1 by omega] at h; exact h)
    have hq4 : q ≤ 4096 := by omega
    have hmx : max ((m : Int) - 1) 0 = (m : Int) - 1 := by omega
    clear hq
    go_enter Tryz.func84, Tryz.ntmps84
    go_wp2_with fail
    rw [← HWA.out]
    obtain ⟨w2, hw2⟩ : ∃ w2, w2 = wa.alloc (.cells #[.int .i64 6] 3) := ⟨_, rfl⟩
    have HO := Lib.hid (show w2.ownsRow wa.heap.size 3 1 (.slice (some ⟨w.heap.size + 1, 0, none⟩) 1 1) 1 (ints [6]) by
      rw [hw2]
      have h := own_lit (cs := #[.int .i64 6]) (n := 1) wa (Nat.le_refl _) (by decide) rfl
      have hz : wa.heap.size = w.heap.size + 1 := by rw [HWA.out]; simp
      rw [hz] at h ⊢
      exact h)
    have HB2 := Lib.hid (show Below w.heap.size w w2 by rw [hw2]; exact HB.out.alloc HB.out.size _)
    have hw2z : wa.heap.size ≤ w2.heap.size := by rw [hw2]; simp
    have HW2 := Lib.hid hw2
    rw [← HW2.out]
    clear hw2
    refine (AC.out w2).mono ?_
    rintro e w3 ⟨v2, rfl, ho2, hb3⟩
    have HB3 := Lib.hid (HB2.out.trans (below_le' hb3 HB2.out.size))
    have HO3 := Lib.hid (own_belowN HO.out hb3)
    have HA := Lib.hid ho2
    have hz3 : wa.heap.size ≤ w3.heap.size := by have := HB3.out.size; have := HO3.out; have := hb3.size; omega
    clear hb3
    rcases ho2.2 with ⟨rfl, hq0⟩ | ⟨g, cap, cur, rfl, hbg, hh, hqc, hcm, hcs, htk⟩
    · clear ho2
      go_wp2_with (at_builtin; refine wpList_append_own_none rfl (.tmp 161) (.tmp 166) 24 rfl wa.heap.size 3 i0 1 Tryz.underlying24 hi0 (.slice (some ⟨w.heap.size + 1, 0, none⟩) 1 1) 1 (ints [6]) rfl HO3.out rfl ?_)
      go_ret2
      exact ⟨_, ret_tup (c := .nilIface) (by rw [show (rolesP 49 m).2 = decide (2 ≤ m) from rfl, ← le_nat]; rfl), by
        have h := own_lower HO3.out HB.out.size
        have e : (rolesP 49 m).1 = [6] := by rw [show (rolesP 49 m).1 = [6] ++ List.replicate (m - 1) 8 from rfl, ← HQ.out, hq0]; rfl
        rw [e]; exact h, HB3.out⟩
    · clear ho2 hh htk
      go_wp2_with (at_builtin; refine wpList_append_own _ rfl (.tmp 161) (.tmp 166) 24 rfl wa.heap.size 3 i0 (.int .i64 0) 1 8 Tryz.underlying24 hi0 hz0 hz1 hz2 rfl (by decide) (.slice (some ⟨w.heap.size + 1, 0, none⟩) 1 1) 1 (ints [6]) rfl HO3.out ⟨g, 0, none⟩ q cap (ints (List.replicate q 8)) rfl (by rw [ints_len, List.length_replicate]; omega) (HA.out.cells (g := g) rfl) ?d2 ?d3 ?d4 ?d5 ?d6
                   case d2 => intro u hu; unfold ints at hu; rw [List.mem_map] at hu; obtain ⟨x, _, rfl⟩ := hu; rfl
                   case d3 => unfold maxLen; omega
                   case d4 => omega
                   case d5 => exact hz3
                   intro v' w11 hown' hgrow _
                   have HB11 := Lib.hid (grown_belowN HB3.out HB3.out.size hgrow (fun k hk => Nat.le_trans HB.out.size (own_geN HO3.out k hk)))
                   have HO11 := Lib.hid hown'
                   clear hown' hgrow)
      go_ret2
      exact ⟨_, ret_tup (c := .nilIface) (by rw [show (rolesP 49 m).2 = decide (2 ≤ m) from rfl, ← le_nat]; rfl), by
        have h := own_lower HO11.out HB.out.size
        have e : (rolesP 49 m).1 = [6] ++ List.replicate q 8 := by rw [show (rolesP 49 m).1 = [6] ++ List.replicate (m - 1) 8 from rfl, ← HQ.out]
        rw [e, ints_app, List.length_append, List.length_replicate]; exact h, HB11.out⟩
end Go.Proofs.YtjibjgokloondaaGreatDoor
namespace Go.Proofs.YtjibjgokloondaaGreatDoor
open Go.RowKit Go.Lib
set_option linter.unusedVariables false

theorem own_cut {w : World} {base e n j cap : Nat} {A : Option Addr} {xs : List Value} (h : w.ownsRow base e 1 (.slice A n cap) n xs) (hj : j ≤ n) : w.ownsRow base e 1 (.slice A j cap) j (xs.take j) := by
  refine ⟨by rw [List.length_take, h.1]; omega, ?_⟩
  rcases h.2 with ⟨h0, h1⟩ | ⟨g, cap', cur, hv, hb1, hh, hn, hm, hc, ht⟩
  · injection h0 with e1 e2 e3
    subst e1; subst e3
    obtain rfl : j = 0 := by omega
    exact .inl ⟨rfl, rfl⟩
  · injection hv with e1 e2 e3
    subst e1; subst e3
    exact .inr ⟨g, cap, cur, rfl, hb1, hh, by omega, hm, hc, by rw [← ht, List.take_take, Nat.min_eq_left (by omega), Nat.mul_one]⟩

set_option maxRecDepth 100000 in
set_option maxHeartbeats 2000000 in
theorem roles_29 (ln : Int) (s : ByteArray) (k n : Int) (t : ByteArray) (vv : Value) (sa : Option Addr) (m sc : Nat) (w : World) (hm : m ≤ 4096) :
    Calls Tryz.prog 84 #[.agg #[.int .i64 29, .int .i64 ln, .string s, .int .i64 k, .int .i64 n, .string t, vv, .slice sa m sc]] w (RolesOut w 29 m) := by
  obtain ⟨wa, hwa⟩ : ∃ wa, wa = w.alloc (.cells #[.int .i64 29, .int .i64 ln, .string s, .int .i64 k, .int .i64 n, .string t, vv, .slice sa m sc] 31) := ⟨_, rfl⟩
  have hb : Below w.heap.size w wa := by rw [hwa]; exact (Below.refl _ _).alloc (Nat.le_refl _) _
  have hN : NdB wa w.heap.size (.int .i64 29) (.int .i64 ln) (.string s) (.int .i64 k) (.int .i64 n) (.string t) vv (.slice sa m sc) := by rw [hwa]; exact NdB.new _ _ _ _ _ _ _ _ _
  have v0 := hN.c0; have v7 := hN.c7
  rw [hwa] at v0 v7
  have HB := Lib.hid hb
  have HWA := Lib.hid hwa
  clear hb hN hwa
  have hz : wa.heap.size = w.heap.size + 1 := by rw [HWA.out]; simp
  have HZ := Lib.hid hz
  clear hz
  by_cases h0 : m = 0
  · subst h0
    go_enter Tryz.func84, Tryz.ntmps84
    go_wp2_with fail
    rw [← HWA.out]
    go_ret2
    refine ⟨_, ret_tup (c := .nilIface) (by rfl), ?_, HB.out.alloc HB.out.size _⟩
    have h := own_lit (cs := #[.int .i64 0, .int .i64 5, .int .i64 0]) (n := 3) wa HB.out.size (by decide) rfl
    rw [HZ.out] at h
    exact own_cut h (by decide : 0 ≤ 3)
  by_cases h1 : m = 1
  · subst h1
    go_enter Tryz.func84, Tryz.ntmps84
    go_wp2_with fail
    rw [← HWA.out]
    go_ret2
    refine ⟨_, ret_tup (c := .nilIface) (by rfl), ?_, HB.out.alloc HB.out.size _⟩
    have h := own_lit (cs := #[.int .i64 0, .int .i64 5, .int .i64 0]) (n := 3) wa HB.out.size (by decide) rfl
    rw [HZ.out] at h
    exact own_cut h (by decide : 1 ≤ 3)
  by_cases h2 : m = 2
  · subst h2
    go_enter Tryz.func84, Tryz.ntmps84
    go_wp2_with fail
    rw [← HWA.out]
    go_ret2
    refine ⟨_, ret_tup (c := .nilIface) (by rfl), ?_, HB.out.alloc HB.out.size _⟩
    have h := own_lit (cs := #[.int .i64 0, .int .i64 5, .int .i64 0]) (n := 3) wa HB.out.size (by decide) rfl
    rw [HZ.out] at h
    exact own_cut h (by decide : 2 ≤ 3)
  by_cases h3 : m = 3
  · subst h3
    go_enter Tryz.func84, Tryz.ntmps84
    go_wp2_with fail
    rw [← HWA.out]
    go_ret2
    refine ⟨_, ret_tup (c := .nilIface) (by rfl), ?_, HB.out.alloc HB.out.size _⟩
    have h := own_lit (cs := #[.int .i64 0, .int .i64 5, .int .i64 0]) (n := 3) wa HB.out.size (by decide) rfl
    rw [HZ.out] at h
    exact own_cut h (by decide : 3 ≤ 3)
  have q1 : (3 : Int) < (m : Int) := by omega
  have hmn : min (m : Int) 3 = 3 := by omega
  have q2 : ((m : Int) == 2) = false := by rw [beq_eq_false_iff_ne]; omega
  have q3 : ((m : Int) == 3) = false := by rw [beq_eq_false_iff_ne]; omega
  have HBO := Lib.hid (show (false : Bool) = (rolesP 29 m).2 by rw [show (rolesP 29 m).2 = (m == 2 || m == 3) from rfl]; simp [h2, h3])
  have HRO := Lib.hid (show (rolesP 29 m).1 = [0, 5, 0] by rw [show (rolesP 29 m).1 = [0, 5, 0].take (min m 3) from rfl, Nat.min_eq_right (by omega)]; rfl)
  clear h0 h1 h2 h3
  go_enter Tryz.func84, Tryz.ntmps84
  go_wp2_with fail
  rw [← HWA.out]
  go_ret2
  refine ⟨_, ret_tup (c := .nilIface) (by exact HBO.out), ?_, HB.out.alloc HB.out.size _⟩
  rw [HRO.out]
  have h := own_lit (cs := #[.int .i64 0, .int .i64 5, .int .i64 0]) (n := 3) wa HB.out.size (by decide) rfl
  rw [HZ.out] at h
  exact own_cut h (by decide : 3 ≤ 3)

set_option maxRecDepth 100000 in
set_option maxHeartbeats 2000000 in
theorem roles_none (ln : Int) (s : ByteArray) (k n : Int) (t : ByteArray) (vv : Value) (sa : Option Addr) (m sc : Nat) (w : World) (hm : m ≤ 4096) (op : Int) (hno : ¬((1 ≤ op ∧ op ≤ 29) ∨ (40 ≤ op ∧ op ≤ 52))) :
    Calls Tryz.prog 84 #[.agg #[.int .i64 op, .int .i64 ln, .string s, .int .i64 k, .int .i64 n, .string t, vv, .slice sa m sc]] w (RolesOut w op m) := by
  obtain ⟨wa, hwa⟩ : ∃ wa, wa = w.alloc (.cells #[.int .i64 op, .int .i64 ln, .string s, .int .i64 k, .int .i64 n, .string t, vv, .slice sa m sc] 31) := ⟨_, rfl⟩
  have hb : Below w.heap.size w wa := by rw [hwa]; exact (Below.refl _ _).alloc (Nat.le_refl _) _
  have hN : NdB wa w.heap.size (.int .i64 op) (.int .i64 ln) (.string s) (.int .i64 k) (.int .i64 n) (.string t) vv (.slice sa m sc) := by rw [hwa]; exact NdB.new _ _ _ _ _ _ _ _ _
  have v0 := hN.c0; have v7 := hN.c7
  rw [hwa] at v0 v7
  have HB := Lib.hid hb
  have HWA := Lib.hid hwa
  clear hb hN hwa
  have n1 : (op == 1) = false := by rw [beq_eq_false_iff_ne]; intro e; subst e; exact hno (by decide)
  have n2 : (op == 2) = false := by rw [beq_eq_false_iff_ne]; intro e; subst e; exact hno (by decide)
  have n3 : (op == 3) = false := by rw [beq_eq_false_iff_ne]; intro e; subst e; exact hno (by decide)
  have n4 : (op == 4) = false := by rw [beq_eq_false_iff_ne]; intro e; subst e; exact hno (by decide)
  have n5 : (op == 5) = false := by rw [beq_eq_false_iff_ne]; intro e; subst e; exact hno (by decide)
  have n6 : (op == 6) = false := by rw [beq_eq_false_iff_ne]; intro e; subst e; exact hno (by decide)
  have n7 : (op == 7) = false := by rw [beq_eq_false_iff_ne]; intro e; subst e; exact hno (by decide)
  have n8 : (op == 8) = false := by rw [beq_eq_false_iff_ne]; intro e; subst e; exact hno (by decide)
  have n9 : (op == 9) = false := by rw [beq_eq_false_iff_ne]; intro e; subst e; exact hno (by decide)
  have n10 : (op == 10) = false := by rw [beq_eq_false_iff_ne]; intro e; subst e; exact hno (by decide)
  have n11 : (op == 11) = false := by rw [beq_eq_false_iff_ne]; intro e; subst e; exact hno (by decide)
  have n12 : (op == 12) = false := by rw [beq_eq_false_iff_ne]; intro e; subst e; exact hno (by decide)
  have n13 : (op == 13) = false := by rw [beq_eq_false_iff_ne]; intro e; subst e; exact hno (by decide)
  have n14 : (op == 14) = false := by rw [beq_eq_false_iff_ne]; intro e; subst e; exact hno (by decide)
  have n15 : (op == 15) = false := by rw [beq_eq_false_iff_ne]; intro e; subst e; exact hno (by decide)
  have n16 : (op == 16) = false := by rw [beq_eq_false_iff_ne]; intro e; subst e; exact hno (by decide)
  have n17 : (op == 17) = false := by rw [beq_eq_false_iff_ne]; intro e; subst e; exact hno (by decide)
  have n18 : (op == 18) = false := by rw [beq_eq_false_iff_ne]; intro e; subst e; exact hno (by decide)
  have n19 : (op == 19) = false := by rw [beq_eq_false_iff_ne]; intro e; subst e; exact hno (by decide)
  have n20 : (op == 20) = false := by rw [beq_eq_false_iff_ne]; intro e; subst e; exact hno (by decide)
  have n21 : (op == 21) = false := by rw [beq_eq_false_iff_ne]; intro e; subst e; exact hno (by decide)
  have n22 : (op == 22) = false := by rw [beq_eq_false_iff_ne]; intro e; subst e; exact hno (by decide)
  have n23 : (op == 23) = false := by rw [beq_eq_false_iff_ne]; intro e; subst e; exact hno (by decide)
  have n24 : (op == 24) = false := by rw [beq_eq_false_iff_ne]; intro e; subst e; exact hno (by decide)
  have n25 : (op == 25) = false := by rw [beq_eq_false_iff_ne]; intro e; subst e; exact hno (by decide)
  have n26 : (op == 26) = false := by rw [beq_eq_false_iff_ne]; intro e; subst e; exact hno (by decide)
  have n27 : (op == 27) = false := by rw [beq_eq_false_iff_ne]; intro e; subst e; exact hno (by decide)
  have n28 : (op == 28) = false := by rw [beq_eq_false_iff_ne]; intro e; subst e; exact hno (by decide)
  have n29 : (op == 29) = false := by rw [beq_eq_false_iff_ne]; intro e; subst e; exact hno (by decide)
  have n40 : (op == 40) = false := by rw [beq_eq_false_iff_ne]; intro e; subst e; exact hno (by decide)
  have n41 : (op == 41) = false := by rw [beq_eq_false_iff_ne]; intro e; subst e; exact hno (by decide)
  have n42 : (op == 42) = false := by rw [beq_eq_false_iff_ne]; intro e; subst e; exact hno (by decide)
  have n43 : (op == 43) = false := by rw [beq_eq_false_iff_ne]; intro e; subst e; exact hno (by decide)
  have n44 : (op == 44) = false := by rw [beq_eq_false_iff_ne]; intro e; subst e; exact hno (by decide)
  have n45 : (op == 45) = false := by rw [beq_eq_false_iff_ne]; intro e; subst e; exact hno (by decide)
  have n46 : (op == 46) = false := by rw [beq_eq_false_iff_ne]; intro e; subst e; exact hno (by decide)
  have n47 : (op == 47) = false := by rw [beq_eq_false_iff_ne]; intro e; subst e; exact hno (by decide)
  have n48 : (op == 48) = false := by rw [beq_eq_false_iff_ne]; intro e; subst e; exact hno (by decide)
  have n49 : (op == 49) = false := by rw [beq_eq_false_iff_ne]; intro e; subst e; exact hno (by decide)
  have n50 : (op == 50) = false := by rw [beq_eq_false_iff_ne]; intro e; subst e; exact hno (by decide)
  have n51 : (op == 51) = false := by rw [beq_eq_false_iff_ne]; intro e; subst e; exact hno (by decide)
  have n52 : (op == 52) = false := by rw [beq_eq_false_iff_ne]; intro e; subst e; exact hno (by decide)
  have HR := Lib.hid (show rolesP op m = ([], false) by
    unfold rolesP
    have hx : ¬((1 ≤ op ∧ op ≤ 29) ∨ (40 ≤ op ∧ op ≤ 52)) := hno
    iterate 17 rw [if_neg (by omega)])
  clear hno
  go_enter Tryz.func84, Tryz.ntmps84
  go_wp2_with fail
  rw [← HWA.out]
  go_ret2
  exact ⟨_, ret_tup (c := .nilIface) (by rw [HR.out]), by rw [HR.out]; exact World.ownsRow_nil _ _ _ _, HB.out⟩
end Go.Proofs.YtjibjgokloondaaGreatDoor
