/- Contracts of the functions that the statement reaches, and the plain mathematics beneath: several texts joined. -/
import Derived.Test.YtggngahmafbihaaGreatDoorPwyN
import Derived.Test.YtggngahmafbihaaGreatDoorPwyD
import Derived.Test.YtggngahmafbihaaGreatDoorShelf
import Derived.Test.YtggngahmafbihaaGreatDoorPwyA
import Derived.Test.YtggngahmafbihaaGreatDoorPwyB
import Derived.Test.YtggngahmafbihaaGreatDoorPwyC
import Derived.Test.YtggngahmafbihaaGreatDoorPwyE
import Derived.Test.YtggngahmafbihaaGreatDoorPwyF
import Derived.Test.YtggngahmafbihaaGreatDoorPwyG
import Derived.Test.YtggngahmafbihaaGreatDoorPwyH
import Derived.Test.YtggngahmafbihaaGreatDoorPwyI
import Derived.Test.YtggngahmafbihaaGreatDoorPwyJ
import Derived.Test.YtggngahmafbihaaGreatDoorPwyK
import Derived.Test.YtggngahmafbihaaGreatDoorPwyL
import Derived.Test.YtggngahmafbihaaGreatDoorPwyM
namespace Go.Proofs.YtggngahmafbihaaGreatDoor
open Go.RowKit Go.Lib
set_option linter.unusedVariables false

/-- What a call of roles leaves. -/
def RolesOut (w : World) (op : Int) (n : Nat) (e : Ending) (w' : World) : Prop :=
  ∃ v, e = .returned (.tuple #[v, .bool (rolesP op n).2]) ∧ w'.ownsRow w.heap.size 3 1 v (rolesP op n).1.length (ints (rolesP op n).1) ∧ Below w.heap.size w w'
theorem ret_tup {a c : Value} {b b' : Bool} (h : b = b') : Ending.returned (.tuple #[a, .bool b]) = .returned (.tuple #[a, .bool b']) := by rw [h]
theorem eq_nat (n m : Nat) : ((n : Int) == (m : Int)) = (n == m) := by
  rw [Bool.eq_iff_iff, beq_iff_eq, beq_iff_eq]; omega
theorem le_nat (n m : Nat) : decide ((m : Int) ≤ (n : Int)) = decide (m ≤ n) := by
  rw [Bool.eq_iff_iff]; simp
theorem own_lit (w : World) {cs : Array Value} {n : Nat} {base : Nat} (hb : base ≤ w.heap.size) (hm : n ≤ maxLen) (hs : cs.size = n * 1) : (w.alloc (.cells cs 3)).ownsRow base 3 1 (.slice (some ⟨w.heap.size, 0, none⟩) n n) n cs.toList := World.ownsRow_lit w cs n hb hm hs

theorem own_lower {w : World} {base base' e size n : Nat} {v : Value} {xs : List Value} (h : w.ownsRow base e size v n xs) (hb : base' ≤ base) : w.ownsRow base' e size v n xs := by
  refine ⟨h.1, ?_⟩
  rcases h.2 with h0 | ⟨g, cap, cur, hv, hb1, r⟩
  · exact .inl h0
  · exact .inr ⟨g, cap, cur, hv, Nat.le_trans hb hb1, r⟩

set_option maxRecDepth 100000 in
set_option maxHeartbeats 2000000 in
theorem roles_1 (ln : Int) (s : ByteArray) (k n : Int) (t : ByteArray) (vv : Value) (sa : Option Addr) (m sc : Nat) (w : World) (hm : m ≤ 4096) :
    Calls Tryz.prog 150 #[.agg #[.int .i64 1, .int .i64 ln, .string s, .int .i64 k, .int .i64 n, .string t, vv, .slice sa m sc]] w (RolesOut w 1 m) := by
  obtain ⟨wa, hwa⟩ : ∃ wa, wa = w.alloc (.cells #[.int .i64 1, .int .i64 ln, .string s, .int .i64 k, .int .i64 n, .string t, vv, .slice sa m sc] 31) := ⟨_, rfl⟩
  have hb : Below w.heap.size w wa := by rw [hwa]; exact (Below.refl _ _).alloc (Nat.le_refl _) _
  have hN : NdB wa w.heap.size (.int .i64 1) (.int .i64 ln) (.string s) (.int .i64 k) (.int .i64 n) (.string t) vv (.slice sa m sc) := by rw [hwa]; exact NdB.new _ _ _ _ _ _ _ _ _
  have v0 := hN.c0; have v7 := hN.c7
  rw [hwa] at v0 v7
  have HB := Lib.hid hb
  have HWA := Lib.hid hwa
  clear hb hN hwa
  go_enter Tryz.func150, Tryz.ntmps150
  go_wp2_with fail
  rw [← HWA.out]
  go_ret2
  exact ⟨_, ret_tup (c := .nilIface) (by rw [show (0 : Int) = ((0 : Nat) : Int) from rfl, eq_nat]; rfl), World.ownsRow_nil _ _ _ _, HB.out⟩

set_option maxRecDepth 100000 in
set_option maxHeartbeats 2000000 in
theorem roles_2 (ln : Int) (s : ByteArray) (k n : Int) (t : ByteArray) (vv : Value) (sa : Option Addr) (m sc : Nat) (w : World) (hm : m ≤ 4096) :
    Calls Tryz.prog 150 #[.agg #[.int .i64 2, .int .i64 ln, .string s, .int .i64 k, .int .i64 n, .string t, vv, .slice sa m sc]] w (RolesOut w 2 m) := by
  obtain ⟨wa, hwa⟩ : ∃ wa, wa = w.alloc (.cells #[.int .i64 2, .int .i64 ln, .string s, .int .i64 k, .int .i64 n, .string t, vv, .slice sa m sc] 31) := ⟨_, rfl⟩
  have hb : Below w.heap.size w wa := by rw [hwa]; exact (Below.refl _ _).alloc (Nat.le_refl _) _
  have hN : NdB wa w.heap.size (.int .i64 2) (.int .i64 ln) (.string s) (.int .i64 k) (.int .i64 n) (.string t) vv (.slice sa m sc) := by rw [hwa]; exact NdB.new _ _ _ _ _ _ _ _ _
  have v0 := hN.c0; have v7 := hN.c7
  rw [hwa] at v0 v7
  have HB := Lib.hid hb
  have HWA := Lib.hid hwa
  clear hb hN hwa
  go_enter Tryz.func150, Tryz.ntmps150
  go_wp2_with fail
  rw [← HWA.out]
  go_ret2
  exact ⟨_, ret_tup (c := .nilIface) (by rw [show (0 : Int) = ((0 : Nat) : Int) from rfl, eq_nat]; rfl), World.ownsRow_nil _ _ _ _, HB.out⟩

set_option maxRecDepth 100000 in
set_option maxHeartbeats 2000000 in
theorem roles_45 (ln : Int) (s : ByteArray) (k n : Int) (t : ByteArray) (vv : Value) (sa : Option Addr) (m sc : Nat) (w : World) (hm : m ≤ 4096) :
    Calls Tryz.prog 150 #[.agg #[.int .i64 45, .int .i64 ln, .string s, .int .i64 k, .int .i64 n, .string t, vv, .slice sa m sc]] w (RolesOut w 45 m) := by
  obtain ⟨wa, hwa⟩ : ∃ wa, wa = w.alloc (.cells #[.int .i64 45, .int .i64 ln, .string s, .int .i64 k, .int .i64 n, .string t, vv, .slice sa m sc] 31) := ⟨_, rfl⟩
  have hb : Below w.heap.size w wa := by rw [hwa]; exact (Below.refl _ _).alloc (Nat.le_refl _) _
  have hN : NdB wa w.heap.size (.int .i64 45) (.int .i64 ln) (.string s) (.int .i64 k) (.int .i64 n) (.string t) vv (.slice sa m sc) := by rw [hwa]; exact NdB.new _ _ _ _ _ _ _ _ _
  have v0 := hN.c0; have v7 := hN.c7
  rw [hwa] at v0 v7
  have HB := Lib.hid hb
  have HWA := Lib.hid hwa
  clear hb hN hwa
  go_enter Tryz.func150, Tryz.ntmps150
  go_wp2_with fail
  rw [← HWA.out]
  go_ret2
  exact ⟨_, ret_tup (c := .nilIface) (by rw [show (0 : Int) = ((0 : Nat) : Int) from rfl, eq_nat]; rfl), World.ownsRow_nil _ _ _ _, HB.out⟩

set_option maxRecDepth 100000 in
set_option maxHeartbeats 2000000 in
theorem roles_46 (ln : Int) (s : ByteArray) (k n : Int) (t : ByteArray) (vv : Value) (sa : Option Addr) (m sc : Nat) (w : World) (hm : m ≤ 4096) :
    Calls Tryz.prog 150 #[.agg #[.int .i64 46, .int .i64 ln, .string s, .int .i64 k, .int .i64 n, .string t, vv, .slice sa m sc]] w (RolesOut w 46 m) := by
  obtain ⟨wa, hwa⟩ : ∃ wa, wa = w.alloc (.cells #[.int .i64 46, .int .i64 ln, .string s, .int .i64 k, .int .i64 n, .string t, vv, .slice sa m sc] 31) := ⟨_, rfl⟩
  have hb : Below w.heap.size w wa := by rw [hwa]; exact (Below.refl _ _).alloc (Nat.le_refl _) _
  have hN : NdB wa w.heap.size (.int .i64 46) (.int .i64 ln) (.string s) (.int .i64 k) (.int .i64 n) (.string t) vv (.slice sa m sc) := by rw [hwa]; exact NdB.new _ _ _ _ _ _ _ _ _
  have v0 := hN.c0; have v7 := hN.c7
  rw [hwa] at v0 v7
  have HB := Lib.hid hb
  have HWA := Lib.hid hwa
  clear hb hN hwa
  go_enter Tryz.func150, Tryz.ntmps150
  go_wp2_with fail
  rw [← HWA.out]
  go_ret2
  exact ⟨_, ret_tup (c := .nilIface) (by rw [show (0 : Int) = ((0 : Nat) : Int) from rfl, eq_nat]; rfl), World.ownsRow_nil _ _ _ _, HB.out⟩

set_option maxRecDepth 100000 in
set_option maxHeartbeats 2000000 in
theorem roles_3 (ln : Int) (s : ByteArray) (k n : Int) (t : ByteArray) (vv : Value) (sa : Option Addr) (m sc : Nat) (w : World) (hm : m ≤ 4096) :
    Calls Tryz.prog 150 #[.agg #[.int .i64 3, .int .i64 ln, .string s, .int .i64 k, .int .i64 n, .string t, vv, .slice sa m sc]] w (RolesOut w 3 m) := by
  obtain ⟨wa, hwa⟩ : ∃ wa, wa = w.alloc (.cells #[.int .i64 3, .int .i64 ln, .string s, .int .i64 k, .int .i64 n, .string t, vv, .slice sa m sc] 31) := ⟨_, rfl⟩
  have hb : Below w.heap.size w wa := by rw [hwa]; exact (Below.refl _ _).alloc (Nat.le_refl _) _
  have hN : NdB wa w.heap.size (.int .i64 3) (.int .i64 ln) (.string s) (.int .i64 k) (.int .i64 n) (.string t) vv (.slice sa m sc) := by rw [hwa]; exact NdB.new _ _ _ _ _ _ _ _ _
  have v0 := hN.c0; have v7 := hN.c7
  rw [hwa] at v0 v7
  have HB := Lib.hid hb
  have HWA := Lib.hid hwa
  clear hb hN hwa
  go_enter Tryz.func150, Tryz.ntmps150
  go_wp2_with fail
  rw [← HWA.out]
  refine (roll_c 0 1 wa (by decide) (by omega)).mono ?_
  rintro e w2 ⟨v, rfl, ho, hb2⟩
  have HO := Lib.hid ho
  have HB2 := Lib.hid (HB.out.trans (below_le' hb2 HB.out.size))
  clear ho hb2
  go_wp2_with fail
  go_ret2
  exact ⟨v, ret_tup (c := .nilIface) (by rw [show (1 : Int) = ((1 : Nat) : Int) from rfl, eq_nat]; rfl), by
    have h := own_lower HO.out HB.out.size
    have e : (rolesP 3 m).1 = List.replicate 1 0 := rfl
    rw [e, List.length_replicate]; exact h, HB2.out⟩

set_option maxRecDepth 100000 in
set_option maxHeartbeats 2000000 in
theorem roles_4 (ln : Int) (s : ByteArray) (k n : Int) (t : ByteArray) (vv : Value) (sa : Option Addr) (m sc : Nat) (w : World) (hm : m ≤ 4096) :
    Calls Tryz.prog 150 #[.agg #[.int .i64 4, .int .i64 ln, .string s, .int .i64 k, .int .i64 n, .string t, vv, .slice sa m sc]] w (RolesOut w 4 m) := by
  obtain ⟨wa, hwa⟩ : ∃ wa, wa = w.alloc (.cells #[.int .i64 4, .int .i64 ln, .string s, .int .i64 k, .int .i64 n, .string t, vv, .slice sa m sc] 31) := ⟨_, rfl⟩
  have hb : Below w.heap.size w wa := by rw [hwa]; exact (Below.refl _ _).alloc (Nat.le_refl _) _
  have hN : NdB wa w.heap.size (.int .i64 4) (.int .i64 ln) (.string s) (.int .i64 k) (.int .i64 n) (.string t) vv (.slice sa m sc) := by rw [hwa]; exact NdB.new _ _ _ _ _ _ _ _ _
  have v0 := hN.c0; have v7 := hN.c7
  rw [hwa] at v0 v7
  have HB := Lib.hid hb
  have HWA := Lib.hid hwa
  clear hb hN hwa
  go_enter Tryz.func150, Tryz.ntmps150
  go_wp2_with fail
  rw [← HWA.out]
  refine (roll_c 0 1 wa (by decide) (by omega)).mono ?_
  rintro e w2 ⟨v, rfl, ho, hb2⟩
  have HO := Lib.hid ho
  have HB2 := Lib.hid (HB.out.trans (below_le' hb2 HB.out.size))
  clear ho hb2
  go_wp2_with fail
  go_ret2
  exact ⟨v, ret_tup (c := .nilIface) (by rw [show (1 : Int) = ((1 : Nat) : Int) from rfl, eq_nat]; rfl), by
    have h := own_lower HO.out HB.out.size
    have e : (rolesP 4 m).1 = List.replicate 1 0 := rfl
    rw [e, List.length_replicate]; exact h, HB2.out⟩

set_option maxRecDepth 100000 in
set_option maxHeartbeats 2000000 in
theorem roles_26 (ln : Int) (s : ByteArray) (k n : Int) (t : ByteArray) (vv : Value) (sa : Option Addr) (m sc : Nat) (w : World) (hm : m ≤ 4096) :
    Calls Tryz.prog 150 #[.agg #[.int .i64 26, .int .i64 ln, .string s, .int .i64 k, .int .i64 n, .string t, vv, .slice sa m sc]] w (RolesOut w 26 m) := by
  obtain ⟨wa, hwa⟩ : ∃ wa, wa = w.alloc (.cells #[.int .i64 26, .int .i64 ln, .string s, .int .i64 k, .int .i64 n, .string t, vv, .slice sa m sc] 31) := ⟨_, rfl⟩
  have hb : Below w.heap.size w wa := by rw [hwa]; exact (Below.refl _ _).alloc (Nat.le_refl _) _
  have hN : NdB wa w.heap.size (.int .i64 26) (.int .i64 ln) (.string s) (.int .i64 k) (.int .i64 n) (.string t) vv (.slice sa m sc) := by rw [hwa]; exact NdB.new _ _ _ _ _ _ _ _ _
  have v0 := hN.c0; have v7 := hN.c7
  rw [hwa] at v0 v7
  have HB := Lib.hid hb
  have HWA := Lib.hid hwa
  clear hb hN hwa
  go_enter Tryz.func150, Tryz.ntmps150
  go_wp2_with fail
  rw [← HWA.out]
  refine (roll_c 0 1 wa (by decide) (by omega)).mono ?_
  rintro e w2 ⟨v, rfl, ho, hb2⟩
  have HO := Lib.hid ho
  have HB2 := Lib.hid (HB.out.trans (below_le' hb2 HB.out.size))
  clear ho hb2
  go_wp2_with fail
  go_ret2
  exact ⟨v, ret_tup (c := .nilIface) (by rw [show (1 : Int) = ((1 : Nat) : Int) from rfl, eq_nat]; rfl), by
    have h := own_lower HO.out HB.out.size
    have e : (rolesP 26 m).1 = List.replicate 1 0 := rfl
    rw [e, List.length_replicate]; exact h, HB2.out⟩

set_option maxRecDepth 100000 in
set_option maxHeartbeats 2000000 in
theorem roles_40 (ln : Int) (s : ByteArray) (k n : Int) (t : ByteArray) (vv : Value) (sa : Option Addr) (m sc : Nat) (w : World) (hm : m ≤ 4096) :
    Calls Tryz.prog 150 #[.agg #[.int .i64 40, .int .i64 ln, .string s, .int .i64 k, .int .i64 n, .string t, vv, .slice sa m sc]] w (RolesOut w 40 m) := by
  obtain ⟨wa, hwa⟩ : ∃ wa, wa = w.alloc (.cells #[.int .i64 40, .int .i64 ln, .string s, .int .i64 k, .int .i64 n, .string t, vv, .slice sa m sc] 31) := ⟨_, rfl⟩
  have hb : Below w.heap.size w wa := by rw [hwa]; exact (Below.refl _ _).alloc (Nat.le_refl _) _
  have hN : NdB wa w.heap.size (.int .i64 40) (.int .i64 ln) (.string s) (.int .i64 k) (.int .i64 n) (.string t) vv (.slice sa m sc) := by rw [hwa]; exact NdB.new _ _ _ _ _ _ _ _ _
  have v0 := hN.c0; have v7 := hN.c7
  rw [hwa] at v0 v7
  have HB := Lib.hid hb
  have HWA := Lib.hid hwa
  clear hb hN hwa
  go_enter Tryz.func150, Tryz.ntmps150
  go_wp2_with fail
  rw [← HWA.out]
  refine (roll_c 0 1 wa (by decide) (by omega)).mono ?_
  rintro e w2 ⟨v, rfl, ho, hb2⟩
  have HO := Lib.hid ho
  have HB2 := Lib.hid (HB.out.trans (below_le' hb2 HB.out.size))
  clear ho hb2
  go_wp2_with fail
  go_ret2
  exact ⟨v, ret_tup (c := .nilIface) (by rw [show (1 : Int) = ((1 : Nat) : Int) from rfl, eq_nat]; rfl), by
    have h := own_lower HO.out HB.out.size
    have e : (rolesP 40 m).1 = List.replicate 1 0 := rfl
    rw [e, List.length_replicate]; exact h, HB2.out⟩

set_option maxRecDepth 100000 in
set_option maxHeartbeats 2000000 in
theorem roles_19 (ln : Int) (s : ByteArray) (k n : Int) (t : ByteArray) (vv : Value) (sa : Option Addr) (m sc : Nat) (w : World) (hm : m ≤ 4096) :
    Calls Tryz.prog 150 #[.agg #[.int .i64 19, .int .i64 ln, .string s, .int .i64 k, .int .i64 n, .string t, vv, .slice sa m sc]] w (RolesOut w 19 m) := by
  obtain ⟨wa, hwa⟩ : ∃ wa, wa = w.alloc (.cells #[.int .i64 19, .int .i64 ln, .string s, .int .i64 k, .int .i64 n, .string t, vv, .slice sa m sc] 31) := ⟨_, rfl⟩
  have hb : Below w.heap.size w wa := by rw [hwa]; exact (Below.refl _ _).alloc (Nat.le_refl _) _
  have hN : NdB wa w.heap.size (.int .i64 19) (.int .i64 ln) (.string s) (.int .i64 k) (.int .i64 n) (.string t) vv (.slice sa m sc) := by rw [hwa]; exact NdB.new _ _ _ _ _ _ _ _ _
  have v0 := hN.c0; have v7 := hN.c7
  rw [hwa] at v0 v7
  have HB := Lib.hid hb
  have HWA := Lib.hid hwa
  clear hb hN hwa
  go_enter Tryz.func150, Tryz.ntmps150
  go_wp2_with fail
  rw [← HWA.out]
  refine (roll_c 0 3 wa (by decide) (by omega)).mono ?_
  rintro e w2 ⟨v, rfl, ho, hb2⟩
  have HO := Lib.hid ho
  have HB2 := Lib.hid (HB.out.trans (below_le' hb2 HB.out.size))
  clear ho hb2
  go_wp2_with fail
  go_ret2
  exact ⟨v, ret_tup (c := .nilIface) (by rw [show (3 : Int) = ((3 : Nat) : Int) from rfl, eq_nat]; rfl), by
    have h := own_lower HO.out HB.out.size
    have e : (rolesP 19 m).1 = List.replicate 3 0 := rfl
    rw [e, List.length_replicate]; exact h, HB2.out⟩

set_option maxRecDepth 100000 in
set_option maxHeartbeats 2000000 in
theorem roles_21 (ln : Int) (s : ByteArray) (k n : Int) (t : ByteArray) (vv : Value) (sa : Option Addr) (m sc : Nat) (w : World) (hm : m ≤ 4096) :
    Calls Tryz.prog 150 #[.agg #[.int .i64 21, .int .i64 ln, .string s, .int .i64 k, .int .i64 n, .string t, vv, .slice sa m sc]] w (RolesOut w 21 m) := by
  obtain ⟨wa, hwa⟩ : ∃ wa, wa = w.alloc (.cells #[.int .i64 21, .int .i64 ln, .string s, .int .i64 k, .int .i64 n, .string t, vv, .slice sa m sc] 31) := ⟨_, rfl⟩
  have hb : Below w.heap.size w wa := by rw [hwa]; exact (Below.refl _ _).alloc (Nat.le_refl _) _
  have hN : NdB wa w.heap.size (.int .i64 21) (.int .i64 ln) (.string s) (.int .i64 k) (.int .i64 n) (.string t) vv (.slice sa m sc) := by rw [hwa]; exact NdB.new _ _ _ _ _ _ _ _ _
  have v0 := hN.c0; have v7 := hN.c7
  rw [hwa] at v0 v7
  have HB := Lib.hid hb
  have HWA := Lib.hid hwa
  clear hb hN hwa
  go_enter Tryz.func150, Tryz.ntmps150
  go_wp2_with fail
  rw [← HWA.out]
  refine (roll_c 0 3 wa (by decide) (by omega)).mono ?_
  rintro e w2 ⟨v, rfl, ho, hb2⟩
  have HO := Lib.hid ho
  have HB2 := Lib.hid (HB.out.trans (below_le' hb2 HB.out.size))
  clear ho hb2
  go_wp2_with fail
  go_ret2
  exact ⟨v, ret_tup (c := .nilIface) (by rw [show (3 : Int) = ((3 : Nat) : Int) from rfl, eq_nat]; rfl), by
    have h := own_lower HO.out HB.out.size
    have e : (rolesP 21 m).1 = List.replicate 3 0 := rfl
    rw [e, List.length_replicate]; exact h, HB2.out⟩

set_option maxRecDepth 100000 in
set_option maxHeartbeats 2000000 in
theorem roles_24 (ln : Int) (s : ByteArray) (k n : Int) (t : ByteArray) (vv : Value) (sa : Option Addr) (m sc : Nat) (w : World) (hm : m ≤ 4096) :
    Calls Tryz.prog 150 #[.agg #[.int .i64 24, .int .i64 ln, .string s, .int .i64 k, .int .i64 n, .string t, vv, .slice sa m sc]] w (RolesOut w 24 m) := by
  obtain ⟨wa, hwa⟩ : ∃ wa, wa = w.alloc (.cells #[.int .i64 24, .int .i64 ln, .string s, .int .i64 k, .int .i64 n, .string t, vv, .slice sa m sc] 31) := ⟨_, rfl⟩
  have hb : Below w.heap.size w wa := by rw [hwa]; exact (Below.refl _ _).alloc (Nat.le_refl _) _
  have hN : NdB wa w.heap.size (.int .i64 24) (.int .i64 ln) (.string s) (.int .i64 k) (.int .i64 n) (.string t) vv (.slice sa m sc) := by rw [hwa]; exact NdB.new _ _ _ _ _ _ _ _ _
  have v0 := hN.c0; have v7 := hN.c7
  rw [hwa] at v0 v7
  have HB := Lib.hid hb
  have HWA := Lib.hid hwa
  clear hb hN hwa
  go_enter Tryz.func150, Tryz.ntmps150
  go_wp2_with fail
  rw [← HWA.out]
  refine (roll_c 1 m wa (by decide) (by omega)).mono ?_
  rintro e w2 ⟨v, rfl, ho, hb2⟩
  have HO := Lib.hid ho
  have HB2 := Lib.hid (HB.out.trans (below_le' hb2 HB.out.size))
  clear ho hb2
  go_wp2_with fail
  go_ret2
  exact ⟨v, ret_tup (c := .nilIface) (by rfl), by
    have h := own_lower HO.out HB.out.size
    have e : (rolesP 24 m).1 = List.replicate m 1 := rfl
    rw [e, List.length_replicate]; exact h, HB2.out⟩

set_option maxRecDepth 100000 in
set_option maxHeartbeats 2000000 in
theorem roles_25 (ln : Int) (s : ByteArray) (k n : Int) (t : ByteArray) (vv : Value) (sa : Option Addr) (m sc : Nat) (w : World) (hm : m ≤ 4096) :
    Calls Tryz.prog 150 #[.agg #[.int .i64 25, .int .i64 ln, .string s, .int .i64 k, .int .i64 n, .string t, vv, .slice sa m sc]] w (RolesOut w 25 m) := by
  obtain ⟨wa, hwa⟩ : ∃ wa, wa = w.alloc (.cells #[.int .i64 25, .int .i64 ln, .string s, .int .i64 k, .int .i64 n, .string t, vv, .slice sa m sc] 31) := ⟨_, rfl⟩
  have hb : Below w.heap.size w wa := by rw [hwa]; exact (Below.refl _ _).alloc (Nat.le_refl _) _
  have hN : NdB wa w.heap.size (.int .i64 25) (.int .i64 ln) (.string s) (.int .i64 k) (.int .i64 n) (.string t) vv (.slice sa m sc) := by rw [hwa]; exact NdB.new _ _ _ _ _ _ _ _ _
  have v0 := hN.c0; have v7 := hN.c7
  rw [hwa] at v0 v7
  have HB := Lib.hid hb
  have HWA := Lib.hid hwa
  clear hb hN hwa
  go_enter Tryz.func150, Tryz.ntmps150
  go_wp2_with fail
  rw [← HWA.out]
  refine (roll_c 1 m wa (by decide) (by omega)).mono ?_
  rintro e w2 ⟨v, rfl, ho, hb2⟩
  have HO := Lib.hid ho
  have HB2 := Lib.hid (HB.out.trans (below_le' hb2 HB.out.size))
  clear ho hb2
  go_wp2_with fail
  go_ret2
  exact ⟨v, ret_tup (c := .nilIface) (by rfl), by
    have h := own_lower HO.out HB.out.size
    have e : (rolesP 25 m).1 = List.replicate m 1 := rfl
    rw [e, List.length_replicate]; exact h, HB2.out⟩

set_option maxRecDepth 100000 in
set_option maxHeartbeats 2000000 in
theorem roles_47 (ln : Int) (s : ByteArray) (k n : Int) (t : ByteArray) (vv : Value) (sa : Option Addr) (m sc : Nat) (w : World) (hm : m ≤ 4096) :
    Calls Tryz.prog 150 #[.agg #[.int .i64 47, .int .i64 ln, .string s, .int .i64 k, .int .i64 n, .string t, vv, .slice sa m sc]] w (RolesOut w 47 m) := by
  obtain ⟨wa, hwa⟩ : ∃ wa, wa = w.alloc (.cells #[.int .i64 47, .int .i64 ln, .string s, .int .i64 k, .int .i64 n, .string t, vv, .slice sa m sc] 31) := ⟨_, rfl⟩
  have hb : Below w.heap.size w wa := by rw [hwa]; exact (Below.refl _ _).alloc (Nat.le_refl _) _
  have hN : NdB wa w.heap.size (.int .i64 47) (.int .i64 ln) (.string s) (.int .i64 k) (.int .i64 n) (.string t) vv (.slice sa m sc) := by rw [hwa]; exact NdB.new _ _ _ _ _ _ _ _ _
  have v0 := hN.c0; have v7 := hN.c7
  rw [hwa] at v0 v7
  have HB := Lib.hid hb
  have HWA := Lib.hid hwa
  clear hb hN hwa
  go_enter Tryz.func150, Tryz.ntmps150
  go_wp2_with fail
  rw [← HWA.out]
  refine (roll_c 0 m wa (by decide) (by omega)).mono ?_
  rintro e w2 ⟨v, rfl, ho, hb2⟩
  have HO := Lib.hid ho
  have HB2 := Lib.hid (HB.out.trans (below_le' hb2 HB.out.size))
  clear ho hb2
  go_wp2_with fail
  go_ret2
  exact ⟨v, ret_tup (c := .nilIface) (by rw [show (1 : Int) = ((1 : Nat) : Int) from rfl, le_nat]; rfl), by
    have h := own_lower HO.out HB.out.size
    have e : (rolesP 47 m).1 = List.replicate m 0 := rfl
    rw [e, List.length_replicate]; exact h, HB2.out⟩

set_option maxRecDepth 100000 in
set_option maxHeartbeats 2000000 in
theorem roles_52 (ln : Int) (s : ByteArray) (k n : Int) (t : ByteArray) (vv : Value) (sa : Option Addr) (m sc : Nat) (w : World) (hm : m ≤ 4096) :
    Calls Tryz.prog 150 #[.agg #[.int .i64 52, .int .i64 ln, .string s, .int .i64 k, .int .i64 n, .string t, vv, .slice sa m sc]] w (RolesOut w 52 m) := by
  obtain ⟨wa, hwa⟩ : ∃ wa, wa = w.alloc (.cells #[.int .i64 52, .int .i64 ln, .string s, .int .i64 k, .int .i64 n, .string t, vv, .slice sa m sc] 31) := ⟨_, rfl⟩
  have hb : Below w.heap.size w wa := by rw [hwa]; exact (Below.refl _ _).alloc (Nat.le_refl _) _
  have hN : NdB wa w.heap.size (.int .i64 52) (.int .i64 ln) (.string s) (.int .i64 k) (.int .i64 n) (.string t) vv (.slice sa m sc) := by rw [hwa]; exact NdB.new _ _ _ _ _ _ _ _ _
  have v0 := hN.c0; have v7 := hN.c7
  rw [hwa] at v0 v7
  have HB := Lib.hid hb
  have HWA := Lib.hid hwa
  clear hb hN hwa
  go_enter Tryz.func150, Tryz.ntmps150
  go_wp2_with fail
  rw [← HWA.out]
  refine (roll_c 7 m wa (by decide) (by omega)).mono ?_
  rintro e w2 ⟨v, rfl, ho, hb2⟩
  have HO := Lib.hid ho
  have HB2 := Lib.hid (HB.out.trans (below_le' hb2 HB.out.size))
  clear ho hb2
  go_wp2_with fail
  go_ret2
  exact ⟨v, ret_tup (c := .nilIface) (by rfl), by
    have h := own_lower HO.out HB.out.size
    have e : (rolesP 52 m).1 = List.replicate m 7 := rfl
    rw [e, List.length_replicate]; exact h, HB2.out⟩
end Go.Proofs.YtggngahmafbihaaGreatDoor
namespace Go.Proofs.YtggngahmafbihaaGreatDoor
open Go.RowKit Go.Lib
set_option linter.unusedVariables false
theorem beq_no {a b : Int} (h : a ≠ b) : (a == b) = false := beq_eq_false_iff_ne.2 h
theorem bne_yes {a b : Int} (h : a ≠ b) : (a != b) = true := bne_iff_ne.2 h

set_option maxHeartbeats 1000000 in
theorem named_c (op : Int) (w : World) : Calls Tryz.prog 176 #[.int .i64 op] w fun e w' => e = .returned (.tuple #[.bool (namedP op).1, .bool (namedP op).2]) ∧ w = w' := by
  by_cases h : op = 2 ∨ op = 24 ∨ op = 42 ∨ op = 43 ∨ op = 50
  · rcases h with rfl | rfl | rfl | rfl | rfl
    all_goals
      go_enter Tryz.func176, Tryz.ntmps176
      go_wp2_with fail
      go_ret2
      exact ⟨rfl, rfl⟩
  · have n1 := beq_no (show op ≠ 2 by omega)
    have n2 := beq_no (show op ≠ 24 by omega)
    have n3 := beq_no (show op ≠ 42 by omega)
    have n4 := beq_no (show op ≠ 43 by omega)
    have n5 := beq_no (show op ≠ 50 by omega)
    have HN := Lib.hid (show namedP op = (false, false) by unfold namedP; rw [if_neg (by omega), if_neg (by omega)])
    clear h
    go_enter Tryz.func176, Tryz.ntmps176
    go_wp2_with fail
    go_ret2
    exact ⟨by rw [HN.out]; rfl, rfl⟩

set_option maxHeartbeats 1000000 in
theorem loops_c (op : Int) (w : World) : Calls Tryz.prog 151 #[.int .i64 op] w fun e w' => e = .returned (.bool (loopsP op)) ∧ w = w' := by
  by_cases h : op = 42 ∨ op = 43 ∨ op = 44
  · rcases h with rfl | rfl | rfl
    all_goals
      go_enter Tryz.func151, Tryz.ntmps151
      go_wp2_with fail
      go_ret
      exact ⟨rfl, rfl⟩
  · have n1 := beq_no (show op ≠ 42 by omega)
    have n2 := beq_no (show op ≠ 43 by omega)
    have n3 := beq_no (show op ≠ 44 by omega)
    have HN := Lib.hid (show loopsP op = false by unfold loopsP; rw [n1, n2, n3]; rfl)
    clear h
    go_enter Tryz.func151, Tryz.ntmps151
    go_wp2_with fail
    go_ret
    exact ⟨ret_val (by rw [HN.out]; rfl), rfl⟩
end Go.Proofs.YtggngahmafbihaaGreatDoor
namespace Go.Proofs.YtggngahmafbihaaGreatDoor
open Go.RowKit Go.Lib
set_option linter.unusedVariables false

set_option maxRecDepth 100000 in
set_option maxHeartbeats 2000000 in
theorem stands_0 (op ln : Int) (s : ByteArray) (k n : Int) (t : ByteArray) (vv vs : Value) (w : World) :
    Calls Tryz.prog 175 #[.agg #[.int .i64 op, .int .i64 ln, .string s, .int .i64 k, .int .i64 n, .string t, vv, vs], .int .i64 0] w fun e w' => e = .returned (.bool (standsP op 0)) ∧ Below w.heap.size w w' := by
  obtain ⟨wa, hwa⟩ : ∃ wa, wa = w.alloc (.cells #[.int .i64 op, .int .i64 ln, .string s, .int .i64 k, .int .i64 n, .string t, vv, vs] 31) := ⟨_, rfl⟩
  have hb : Below w.heap.size w wa := by rw [hwa]; exact (Below.refl _ _).alloc (Nat.le_refl _) _
  have hN : NdB wa w.heap.size (.int .i64 op) (.int .i64 ln) (.string s) (.int .i64 k) (.int .i64 n) (.string t) vv vs := by rw [hwa]; exact NdB.new _ _ _ _ _ _ _ _ _
  have v0 := hN.c0
  rw [hwa] at v0
  have HB := Lib.hid hb
  have HWA := Lib.hid hwa
  clear hb hN hwa
  by_cases hn : op = 2 ∨ op = 20 ∨ op = 22 ∨ op = 25 ∨ op = 26 ∨ op = 50 ∨ op = 52
  · rcases hn with rfl | rfl | rfl | rfl | rfl | rfl | rfl
    all_goals
      go_enter Tryz.func175, Tryz.ntmps175
      go_wp2_with fail
      rw [← HWA.out]
      go_ret
      exact ⟨rfl, HB.out⟩
  have n2 := beq_no (show op ≠ 2 by omega)
  have n20 := beq_no (show op ≠ 20 by omega)
  have n22 := beq_no (show op ≠ 22 by omega)
  have n25 := beq_no (show op ≠ 25 by omega)
  have n26 := beq_no (show op ≠ 26 by omega)
  have n50 := beq_no (show op ≠ 50 by omega)
  have n52 := beq_no (show op ≠ 52 by omega)
  have b26 := bne_yes (show op ≠ 26 by omega)
  have b50 := bne_yes (show op ≠ 50 by omega)
  have hk : op < 1 ∨ (1 ≤ op ∧ op ≤ 29) ∨ (30 ≤ op ∧ op ≤ 39) ∨ (40 ≤ op ∧ op ≤ 51) ∨ 53 ≤ op := by omega
  have HNX := Lib.hid hn
  clear hn
  rcases hk with h1 | ⟨h1, h2⟩ | ⟨h1, h2⟩ | ⟨h1, h2⟩ | h1
  · have g1 : ¬ (1 ≤ op) := by omega
    have g2 : op ≤ 29 := by omega
    have g3 : ¬ (40 ≤ op) := by omega
    have g4 : op ≤ 51 := by omega
    have HS := Lib.hid (show standsP op 0 = false by have hx := HNX.out; simp [standsP, isExpr]; try omega)
    go_enter Tryz.func175, Tryz.ntmps175
    go_wp2_with fail
    rw [← HWA.out]
    go_ret
    exact ⟨ret_val (by rw [HS.out]; rfl), HB.out⟩
  · have g1 : 1 ≤ op := by omega
    have g2 : op ≤ 29 := by omega
    have g3 : ¬ (40 ≤ op) := by omega
    have g4 : op ≤ 51 := by omega
    have HS := Lib.hid (show standsP op 0 = true by have hx := HNX.out; simp [standsP, isExpr]; try omega)
    go_enter Tryz.func175, Tryz.ntmps175
    go_wp2_with fail
    rw [← HWA.out]
    go_ret
    exact ⟨ret_val (by rw [HS.out]; rfl), HB.out⟩
  · have g1 : 1 ≤ op := by omega
    have g2 : ¬ (op ≤ 29) := by omega
    have g3 : ¬ (40 ≤ op) := by omega
    have g4 : op ≤ 51 := by omega
    have HS := Lib.hid (show standsP op 0 = false by have hx := HNX.out; simp [standsP, isExpr]; try omega)
    go_enter Tryz.func175, Tryz.ntmps175
    go_wp2_with fail
    rw [← HWA.out]
    go_ret
    exact ⟨ret_val (by rw [HS.out]; rfl), HB.out⟩
  · have g1 : 1 ≤ op := by omega
    have g2 : ¬ (op ≤ 29) := by omega
    have g3 : 40 ≤ op := by omega
    have g4 : op ≤ 51 := by omega
    have HS := Lib.hid (show standsP op 0 = false by have hx := HNX.out; simp [standsP, isExpr]; try omega)
    go_enter Tryz.func175, Tryz.ntmps175
    go_wp2_with fail
    rw [← HWA.out]
    go_ret
    exact ⟨ret_val (by rw [HS.out]; rfl), HB.out⟩
  · have g1 : 1 ≤ op := by omega
    have g2 : ¬ (op ≤ 29) := by omega
    have g3 : 40 ≤ op := by omega
    have g4 : ¬ (op ≤ 51) := by omega
    have HS := Lib.hid (show standsP op 0 = false by have hx := HNX.out; simp [standsP, isExpr]; try omega)
    go_enter Tryz.func175, Tryz.ntmps175
    go_wp2_with fail
    rw [← HWA.out]
    go_ret
    exact ⟨ret_val (by rw [HS.out]; rfl), HB.out⟩

set_option maxRecDepth 100000 in
set_option maxHeartbeats 2000000 in
theorem stands_1 (op ln : Int) (s : ByteArray) (k n : Int) (t : ByteArray) (vv vs : Value) (w : World) :
    Calls Tryz.prog 175 #[.agg #[.int .i64 op, .int .i64 ln, .string s, .int .i64 k, .int .i64 n, .string t, vv, vs], .int .i64 1] w fun e w' => e = .returned (.bool (standsP op 1)) ∧ Below w.heap.size w w' := by
  obtain ⟨wa, hwa⟩ : ∃ wa, wa = w.alloc (.cells #[.int .i64 op, .int .i64 ln, .string s, .int .i64 k, .int .i64 n, .string t, vv, vs] 31) := ⟨_, rfl⟩
  have hb : Below w.heap.size w wa := by rw [hwa]; exact (Below.refl _ _).alloc (Nat.le_refl _) _
  have hN : NdB wa w.heap.size (.int .i64 op) (.int .i64 ln) (.string s) (.int .i64 k) (.int .i64 n) (.string t) vv vs := by rw [hwa]; exact NdB.new _ _ _ _ _ _ _ _ _
  have v0 := hN.c0
  rw [hwa] at v0
  have HB := Lib.hid hb
  have HWA := Lib.hid hwa
  clear hb hN hwa
  by_cases hn : op = 2 ∨ op = 20 ∨ op = 22 ∨ op = 25 ∨ op = 26 ∨ op = 50 ∨ op = 52
  · rcases hn with rfl | rfl | rfl | rfl | rfl | rfl | rfl
    all_goals
      go_enter Tryz.func175, Tryz.ntmps175
      go_wp2_with fail
      rw [← HWA.out]
      go_ret
      exact ⟨rfl, HB.out⟩
  have n2 := beq_no (show op ≠ 2 by omega)
  have n20 := beq_no (show op ≠ 20 by omega)
  have n22 := beq_no (show op ≠ 22 by omega)
  have n25 := beq_no (show op ≠ 25 by omega)
  have n26 := beq_no (show op ≠ 26 by omega)
  have n50 := beq_no (show op ≠ 50 by omega)
  have n52 := beq_no (show op ≠ 52 by omega)
  have b26 := bne_yes (show op ≠ 26 by omega)
  have b50 := bne_yes (show op ≠ 50 by omega)
  have hk : op < 1 ∨ (1 ≤ op ∧ op ≤ 29) ∨ (30 ≤ op ∧ op ≤ 39) ∨ (40 ≤ op ∧ op ≤ 51) ∨ 53 ≤ op := by omega
  have HNX := Lib.hid hn
  clear hn
  rcases hk with h1 | ⟨h1, h2⟩ | ⟨h1, h2⟩ | ⟨h1, h2⟩ | h1
  · have g1 : ¬ (1 ≤ op) := by omega
    have g2 : op ≤ 29 := by omega
    have g3 : ¬ (40 ≤ op) := by omega
    have g4 : op ≤ 51 := by omega
    have HS := Lib.hid (show standsP op 1 = false by have hx := HNX.out; simp [standsP, isExpr]; try omega)
    go_enter Tryz.func175, Tryz.ntmps175
    go_wp2_with fail
    rw [← HWA.out]
    go_ret
    exact ⟨ret_val (by rw [HS.out]; rfl), HB.out⟩
  · have g1 : 1 ≤ op := by omega
    have g2 : op ≤ 29 := by omega
    have g3 : ¬ (40 ≤ op) := by omega
    have g4 : op ≤ 51 := by omega
    have HS := Lib.hid (show standsP op 1 = true by have hx := HNX.out; simp [standsP, isExpr]; try omega)
    go_enter Tryz.func175, Tryz.ntmps175
    go_wp2_with fail
    rw [← HWA.out]
    go_ret
    exact ⟨ret_val (by rw [HS.out]; rfl), HB.out⟩
  · have g1 : 1 ≤ op := by omega
    have g2 : ¬ (op ≤ 29) := by omega
    have g3 : ¬ (40 ≤ op) := by omega
    have g4 : op ≤ 51 := by omega
    have HS := Lib.hid (show standsP op 1 = false by have hx := HNX.out; simp [standsP, isExpr]; try omega)
    go_enter Tryz.func175, Tryz.ntmps175
    go_wp2_with fail
    rw [← HWA.out]
    go_ret
    exact ⟨ret_val (by rw [HS.out]; rfl), HB.out⟩
  · have g1 : 1 ≤ op := by omega
    have g2 : ¬ (op ≤ 29) := by omega
    have g3 : 40 ≤ op := by omega
    have g4 : op ≤ 51 := by omega
    have HS := Lib.hid (show standsP op 1 = false by have hx := HNX.out; simp [standsP, isExpr]; try omega)
    go_enter Tryz.func175, Tryz.ntmps175
    go_wp2_with fail
    rw [← HWA.out]
    go_ret
    exact ⟨ret_val (by rw [HS.out]; rfl), HB.out⟩
  · have g1 : 1 ≤ op := by omega
    have g2 : ¬ (op ≤ 29) := by omega
    have g3 : 40 ≤ op := by omega
    have g4 : ¬ (op ≤ 51) := by omega
    have HS := Lib.hid (show standsP op 1 = false by have hx := HNX.out; simp [standsP, isExpr]; try omega)
    go_enter Tryz.func175, Tryz.ntmps175
    go_wp2_with fail
    rw [← HWA.out]
    go_ret
    exact ⟨ret_val (by rw [HS.out]; rfl), HB.out⟩

set_option maxRecDepth 100000 in
set_option maxHeartbeats 2000000 in
theorem stands_2 (op ln : Int) (s : ByteArray) (k n : Int) (t : ByteArray) (vv vs : Value) (w : World) :
    Calls Tryz.prog 175 #[.agg #[.int .i64 op, .int .i64 ln, .string s, .int .i64 k, .int .i64 n, .string t, vv, vs], .int .i64 2] w fun e w' => e = .returned (.bool (standsP op 2)) ∧ Below w.heap.size w w' := by
  obtain ⟨wa, hwa⟩ : ∃ wa, wa = w.alloc (.cells #[.int .i64 op, .int .i64 ln, .string s, .int .i64 k, .int .i64 n, .string t, vv, vs] 31) := ⟨_, rfl⟩
  have hb : Below w.heap.size w wa := by rw [hwa]; exact (Below.refl _ _).alloc (Nat.le_refl _) _
  have hN : NdB wa w.heap.size (.int .i64 op) (.int .i64 ln) (.string s) (.int .i64 k) (.int .i64 n) (.string t) vv vs := by rw [hwa]; exact NdB.new _ _ _ _ _ _ _ _ _
  have v0 := hN.c0
  rw [hwa] at v0
  have HB := Lib.hid hb
  have HWA := Lib.hid hwa
  clear hb hN hwa
  by_cases hn : op = 2 ∨ op = 20 ∨ op = 22 ∨ op = 25 ∨ op = 26 ∨ op = 50 ∨ op = 52
  · rcases hn with rfl | rfl | rfl | rfl | rfl | rfl | rfl
    all_goals
      go_enter Tryz.func175, Tryz.ntmps175
      go_wp2_with fail
      rw [← HWA.out]
      go_ret
      exact ⟨rfl, HB.out⟩
  have n2 := beq_no (show op ≠ 2 by omega)
  have n20 := beq_no (show op ≠ 20 by omega)
  have n22 := beq_no (show op ≠ 22 by omega)
  have n25 := beq_no (show op ≠ 25 by omega)
  have n26 := beq_no (show op ≠ 26 by omega)
  have n50 := beq_no (show op ≠ 50 by omega)
  have n52 := beq_no (show op ≠ 52 by omega)
  have b26 := bne_yes (show op ≠ 26 by omega)
  have b50 := bne_yes (show op ≠ 50 by omega)
  have hk : op < 1 ∨ (1 ≤ op ∧ op ≤ 29) ∨ (30 ≤ op ∧ op ≤ 39) ∨ (40 ≤ op ∧ op ≤ 51) ∨ 53 ≤ op := by omega
  have HNX := Lib.hid hn
  clear hn
  rcases hk with h1 | ⟨h1, h2⟩ | ⟨h1, h2⟩ | ⟨h1, h2⟩ | h1
  · have g1 : ¬ (1 ≤ op) := by omega
    have g2 : op ≤ 29 := by omega
    have g3 : ¬ (40 ≤ op) := by omega
    have g4 : op ≤ 51 := by omega
    have HS := Lib.hid (show standsP op 2 = false by have hx := HNX.out; simp [standsP]; try omega)
    go_enter Tryz.func175, Tryz.ntmps175
    go_wp2_with fail
    rw [← HWA.out]
    go_ret
    exact ⟨ret_val (by rw [HS.out]; rfl), HB.out⟩
  · have g1 : 1 ≤ op := by omega
    have g2 : op ≤ 29 := by omega
    have g3 : ¬ (40 ≤ op) := by omega
    have g4 : op ≤ 51 := by omega
    have HS := Lib.hid (show standsP op 2 = false by have hx := HNX.out; simp [standsP]; try omega)
    go_enter Tryz.func175, Tryz.ntmps175
    go_wp2_with fail
    rw [← HWA.out]
    go_ret
    exact ⟨ret_val (by rw [HS.out]; rfl), HB.out⟩
  · have g1 : 1 ≤ op := by omega
    have g2 : ¬ (op ≤ 29) := by omega
    have g3 : ¬ (40 ≤ op) := by omega
    have g4 : op ≤ 51 := by omega
    have HS := Lib.hid (show standsP op 2 = false by have hx := HNX.out; simp [standsP]; try omega)
    go_enter Tryz.func175, Tryz.ntmps175
    go_wp2_with fail
    rw [← HWA.out]
    go_ret
    exact ⟨ret_val (by rw [HS.out]; rfl), HB.out⟩
  · have g1 : 1 ≤ op := by omega
    have g2 : ¬ (op ≤ 29) := by omega
    have g3 : 40 ≤ op := by omega
    have g4 : op ≤ 51 := by omega
    have HS := Lib.hid (show standsP op 2 = false by have hx := HNX.out; simp [standsP]; try omega)
    go_enter Tryz.func175, Tryz.ntmps175
    go_wp2_with fail
    rw [← HWA.out]
    go_ret
    exact ⟨ret_val (by rw [HS.out]; rfl), HB.out⟩
  · have g1 : 1 ≤ op := by omega
    have g2 : ¬ (op ≤ 29) := by omega
    have g3 : 40 ≤ op := by omega
    have g4 : ¬ (op ≤ 51) := by omega
    have HS := Lib.hid (show standsP op 2 = false by have hx := HNX.out; simp [standsP]; try omega)
    go_enter Tryz.func175, Tryz.ntmps175
    go_wp2_with fail
    rw [← HWA.out]
    go_ret
    exact ⟨ret_val (by rw [HS.out]; rfl), HB.out⟩

set_option maxRecDepth 100000 in
set_option maxHeartbeats 2000000 in
theorem stands_3 (op ln : Int) (s : ByteArray) (k n : Int) (t : ByteArray) (vv vs : Value) (w : World) :
    Calls Tryz.prog 175 #[.agg #[.int .i64 op, .int .i64 ln, .string s, .int .i64 k, .int .i64 n, .string t, vv, vs], .int .i64 3] w fun e w' => e = .returned (.bool (standsP op 3)) ∧ Below w.heap.size w w' := by
  obtain ⟨wa, hwa⟩ : ∃ wa, wa = w.alloc (.cells #[.int .i64 op, .int .i64 ln, .string s, .int .i64 k, .int .i64 n, .string t, vv, vs] 31) := ⟨_, rfl⟩
  have hb : Below w.heap.size w wa := by rw [hwa]; exact (Below.refl _ _).alloc (Nat.le_refl _) _
  have hN : NdB wa w.heap.size (.int .i64 op) (.int .i64 ln) (.string s) (.int .i64 k) (.int .i64 n) (.string t) vv vs := by rw [hwa]; exact NdB.new _ _ _ _ _ _ _ _ _
  have v0 := hN.c0
  rw [hwa] at v0
  have HB := Lib.hid hb
  have HWA := Lib.hid hwa
  clear hb hN hwa
  by_cases hn : op = 2 ∨ op = 20 ∨ op = 22 ∨ op = 25 ∨ op = 26 ∨ op = 50 ∨ op = 52
  · rcases hn with rfl | rfl | rfl | rfl | rfl | rfl | rfl
    all_goals
      go_enter Tryz.func175, Tryz.ntmps175
      go_wp2_with fail
      rw [← HWA.out]
      go_ret
      exact ⟨rfl, HB.out⟩
  have n2 := beq_no (show op ≠ 2 by omega)
  have n20 := beq_no (show op ≠ 20 by omega)
  have n22 := beq_no (show op ≠ 22 by omega)
  have n25 := beq_no (show op ≠ 25 by omega)
  have n26 := beq_no (show op ≠ 26 by omega)
  have n50 := beq_no (show op ≠ 50 by omega)
  have n52 := beq_no (show op ≠ 52 by omega)
  have b26 := bne_yes (show op ≠ 26 by omega)
  have b50 := bne_yes (show op ≠ 50 by omega)
  have hk : op < 1 ∨ (1 ≤ op ∧ op ≤ 29) ∨ (30 ≤ op ∧ op ≤ 39) ∨ (40 ≤ op ∧ op ≤ 51) ∨ 53 ≤ op := by omega
  have HNX := Lib.hid hn
  clear hn
  rcases hk with h1 | ⟨h1, h2⟩ | ⟨h1, h2⟩ | ⟨h1, h2⟩ | h1
  · have g1 : ¬ (1 ≤ op) := by omega
    have g2 : op ≤ 29 := by omega
    have g3 : ¬ (40 ≤ op) := by omega
    have g4 : op ≤ 51 := by omega
    have HS := Lib.hid (show standsP op 3 = false by have hx := HNX.out; simp [standsP]; try omega)
    go_enter Tryz.func175, Tryz.ntmps175
    go_wp2_with fail
    rw [← HWA.out]
    go_ret
    exact ⟨ret_val (by rw [HS.out]; rfl), HB.out⟩
  · have g1 : 1 ≤ op := by omega
    have g2 : op ≤ 29 := by omega
    have g3 : ¬ (40 ≤ op) := by omega
    have g4 : op ≤ 51 := by omega
    have HS := Lib.hid (show standsP op 3 = false by have hx := HNX.out; simp [standsP]; try omega)
    go_enter Tryz.func175, Tryz.ntmps175
    go_wp2_with fail
    rw [← HWA.out]
    go_ret
    exact ⟨ret_val (by rw [HS.out]; rfl), HB.out⟩
  · have g1 : 1 ≤ op := by omega
    have g2 : ¬ (op ≤ 29) := by omega
    have g3 : ¬ (40 ≤ op) := by omega
    have g4 : op ≤ 51 := by omega
    have HS := Lib.hid (show standsP op 3 = false by have hx := HNX.out; simp [standsP]; try omega)
    go_enter Tryz.func175, Tryz.ntmps175
    go_wp2_with fail
    rw [← HWA.out]
    go_ret
    exact ⟨ret_val (by rw [HS.out]; rfl), HB.out⟩
  · have g1 : 1 ≤ op := by omega
    have g2 : ¬ (op ≤ 29) := by omega
    have g3 : 40 ≤ op := by omega
    have g4 : op ≤ 51 := by omega
    have HS := Lib.hid (show standsP op 3 = false by have hx := HNX.out; simp [standsP]; try omega)
    go_enter Tryz.func175, Tryz.ntmps175
    go_wp2_with fail
    rw [← HWA.out]
    go_ret
    exact ⟨ret_val (by rw [HS.out]; rfl), HB.out⟩
  · have g1 : 1 ≤ op := by omega
    have g2 : ¬ (op ≤ 29) := by omega
    have g3 : 40 ≤ op := by omega
    have g4 : ¬ (op ≤ 51) := by omega
    have HS := Lib.hid (show standsP op 3 = false by have hx := HNX.out; simp [standsP]; try omega)
    go_enter Tryz.func175, Tryz.ntmps175
    go_wp2_with fail
    rw [← HWA.out]
    go_ret
    exact ⟨ret_val (by rw [HS.out]; rfl), HB.out⟩

set_option maxRecDepth 100000 in
set_option maxHeartbeats 2000000 in
theorem stands_4 (op ln : Int) (s : ByteArray) (k n : Int) (t : ByteArray) (vv vs : Value) (w : World) :
    Calls Tryz.prog 175 #[.agg #[.int .i64 op, .int .i64 ln, .string s, .int .i64 k, .int .i64 n, .string t, vv, vs], .int .i64 4] w fun e w' => e = .returned (.bool (standsP op 4)) ∧ Below w.heap.size w w' := by
  obtain ⟨wa, hwa⟩ : ∃ wa, wa = w.alloc (.cells #[.int .i64 op, .int .i64 ln, .string s, .int .i64 k, .int .i64 n, .string t, vv, vs] 31) := ⟨_, rfl⟩
  have hb : Below w.heap.size w wa := by rw [hwa]; exact (Below.refl _ _).alloc (Nat.le_refl _) _
  have hN : NdB wa w.heap.size (.int .i64 op) (.int .i64 ln) (.string s) (.int .i64 k) (.int .i64 n) (.string t) vv vs := by rw [hwa]; exact NdB.new _ _ _ _ _ _ _ _ _
  have v0 := hN.c0
  rw [hwa] at v0
  have HB := Lib.hid hb
  have HWA := Lib.hid hwa
  clear hb hN hwa
  by_cases hn : op = 2 ∨ op = 20 ∨ op = 22 ∨ op = 25 ∨ op = 26 ∨ op = 50 ∨ op = 52
  · rcases hn with rfl | rfl | rfl | rfl | rfl | rfl | rfl
    all_goals
      go_enter Tryz.func175, Tryz.ntmps175
      go_wp2_with fail
      rw [← HWA.out]
      go_ret
      exact ⟨rfl, HB.out⟩
  have n2 := beq_no (show op ≠ 2 by omega)
  have n20 := beq_no (show op ≠ 20 by omega)
  have n22 := beq_no (show op ≠ 22 by omega)
  have n25 := beq_no (show op ≠ 25 by omega)
  have n26 := beq_no (show op ≠ 26 by omega)
  have n50 := beq_no (show op ≠ 50 by omega)
  have n52 := beq_no (show op ≠ 52 by omega)
  have b26 := bne_yes (show op ≠ 26 by omega)
  have b50 := bne_yes (show op ≠ 50 by omega)
  have hk : op < 1 ∨ (1 ≤ op ∧ op ≤ 29) ∨ (30 ≤ op ∧ op ≤ 39) ∨ (40 ≤ op ∧ op ≤ 51) ∨ 53 ≤ op := by omega
  have HNX := Lib.hid hn
  clear hn
  rcases hk with h1 | ⟨h1, h2⟩ | ⟨h1, h2⟩ | ⟨h1, h2⟩ | h1
  · have g1 : ¬ (1 ≤ op) := by omega
    have g2 : op ≤ 29 := by omega
    have g3 : ¬ (40 ≤ op) := by omega
    have g4 : op ≤ 51 := by omega
    have HS := Lib.hid (show standsP op 4 = false by have hx := HNX.out; simp [standsP]; try omega)
    go_enter Tryz.func175, Tryz.ntmps175
    go_wp2_with fail
    rw [← HWA.out]
    go_ret
    exact ⟨ret_val (by rw [HS.out]; rfl), HB.out⟩
  · have g1 : 1 ≤ op := by omega
    have g2 : op ≤ 29 := by omega
    have g3 : ¬ (40 ≤ op) := by omega
    have g4 : op ≤ 51 := by omega
    have HS := Lib.hid (show standsP op 4 = false by have hx := HNX.out; simp [standsP]; try omega)
    go_enter Tryz.func175, Tryz.ntmps175
    go_wp2_with fail
    rw [← HWA.out]
    go_ret
    exact ⟨ret_val (by rw [HS.out]; rfl), HB.out⟩
  · have g1 : 1 ≤ op := by omega
    have g2 : ¬ (op ≤ 29) := by omega
    have g3 : ¬ (40 ≤ op) := by omega
    have g4 : op ≤ 51 := by omega
    have HS := Lib.hid (show standsP op 4 = false by have hx := HNX.out; simp [standsP]; try omega)
    go_enter Tryz.func175, Tryz.ntmps175
    go_wp2_with fail
    rw [← HWA.out]
    go_ret
    exact ⟨ret_val (by rw [HS.out]; rfl), HB.out⟩
  · have g1 : 1 ≤ op := by omega
    have g2 : ¬ (op ≤ 29) := by omega
    have g3 : 40 ≤ op := by omega
    have g4 : op ≤ 51 := by omega
    have HS := Lib.hid (show standsP op 4 = false by have hx := HNX.out; simp [standsP]; try omega)
    go_enter Tryz.func175, Tryz.ntmps175
    go_wp2_with fail
    rw [← HWA.out]
    go_ret
    exact ⟨ret_val (by rw [HS.out]; rfl), HB.out⟩
  · have g1 : 1 ≤ op := by omega
    have g2 : ¬ (op ≤ 29) := by omega
    have g3 : 40 ≤ op := by omega
    have g4 : ¬ (op ≤ 51) := by omega
    have HS := Lib.hid (show standsP op 4 = false by have hx := HNX.out; simp [standsP]; try omega)
    go_enter Tryz.func175, Tryz.ntmps175
    go_wp2_with fail
    rw [← HWA.out]
    go_ret
    exact ⟨ret_val (by rw [HS.out]; rfl), HB.out⟩

set_option maxRecDepth 100000 in
set_option maxHeartbeats 2000000 in
theorem stands_5 (op ln : Int) (s : ByteArray) (k n : Int) (t : ByteArray) (vv vs : Value) (w : World) :
    Calls Tryz.prog 175 #[.agg #[.int .i64 op, .int .i64 ln, .string s, .int .i64 k, .int .i64 n, .string t, vv, vs], .int .i64 5] w fun e w' => e = .returned (.bool (standsP op 5)) ∧ Below w.heap.size w w' := by
  obtain ⟨wa, hwa⟩ : ∃ wa, wa = w.alloc (.cells #[.int .i64 op, .int .i64 ln, .string s, .int .i64 k, .int .i64 n, .string t, vv, vs] 31) := ⟨_, rfl⟩
  have hb : Below w.heap.size w wa := by rw [hwa]; exact (Below.refl _ _).alloc (Nat.le_refl _) _
  have hN : NdB wa w.heap.size (.int .i64 op) (.int .i64 ln) (.string s) (.int .i64 k) (.int .i64 n) (.string t) vv vs := by rw [hwa]; exact NdB.new _ _ _ _ _ _ _ _ _
  have v0 := hN.c0
  rw [hwa] at v0
  have HB := Lib.hid hb
  have HWA := Lib.hid hwa
  clear hb hN hwa
  by_cases hn : op = 2 ∨ op = 20 ∨ op = 22 ∨ op = 25 ∨ op = 26 ∨ op = 50 ∨ op = 52
  · rcases hn with rfl | rfl | rfl | rfl | rfl | rfl | rfl
    all_goals
      go_enter Tryz.func175, Tryz.ntmps175
      go_wp2_with fail
      rw [← HWA.out]
      go_ret
      exact ⟨rfl, HB.out⟩
  have n2 := beq_no (show op ≠ 2 by omega)
  have n20 := beq_no (show op ≠ 20 by omega)
  have n22 := beq_no (show op ≠ 22 by omega)
  have n25 := beq_no (show op ≠ 25 by omega)
  have n26 := beq_no (show op ≠ 26 by omega)
  have n50 := beq_no (show op ≠ 50 by omega)
  have n52 := beq_no (show op ≠ 52 by omega)
  have b26 := bne_yes (show op ≠ 26 by omega)
  have b50 := bne_yes (show op ≠ 50 by omega)
  have hk : op < 1 ∨ (1 ≤ op ∧ op ≤ 29) ∨ (30 ≤ op ∧ op ≤ 39) ∨ (40 ≤ op ∧ op ≤ 51) ∨ 53 ≤ op := by omega
  have HNX := Lib.hid hn
  clear hn
  rcases hk with h1 | ⟨h1, h2⟩ | ⟨h1, h2⟩ | ⟨h1, h2⟩ | h1
  · have g1 : ¬ (1 ≤ op) := by omega
    have g2 : op ≤ 29 := by omega
    have g3 : ¬ (40 ≤ op) := by omega
    have g4 : op ≤ 51 := by omega
    have HS := Lib.hid (show standsP op 5 = false by have hx := HNX.out; simp [standsP]; try omega)
    go_enter Tryz.func175, Tryz.ntmps175
    go_wp2_with fail
    rw [← HWA.out]
    go_ret
    exact ⟨ret_val (by rw [HS.out]; rfl), HB.out⟩
  · have g1 : 1 ≤ op := by omega
    have g2 : op ≤ 29 := by omega
    have g3 : ¬ (40 ≤ op) := by omega
    have g4 : op ≤ 51 := by omega
    have HS := Lib.hid (show standsP op 5 = false by have hx := HNX.out; simp [standsP]; try omega)
    go_enter Tryz.func175, Tryz.ntmps175
    go_wp2_with fail
    rw [← HWA.out]
    go_ret
    exact ⟨ret_val (by rw [HS.out]; rfl), HB.out⟩
  · have g1 : 1 ≤ op := by omega
    have g2 : ¬ (op ≤ 29) := by omega
    have g3 : ¬ (40 ≤ op) := by omega
    have g4 : op ≤ 51 := by omega
    have HS := Lib.hid (show standsP op 5 = false by have hx := HNX.out; simp [standsP]; try omega)
    go_enter Tryz.func175, Tryz.ntmps175
    go_wp2_with fail
    rw [← HWA.out]
    go_ret
    exact ⟨ret_val (by rw [HS.out]; rfl), HB.out⟩
  · have g1 : 1 ≤ op := by omega
    have g2 : ¬ (op ≤ 29) := by omega
    have g3 : 40 ≤ op := by omega
    have g4 : op ≤ 51 := by omega
    have HS := Lib.hid (show standsP op 5 = false by have hx := HNX.out; simp [standsP]; try omega)
    go_enter Tryz.func175, Tryz.ntmps175
    go_wp2_with fail
    rw [← HWA.out]
    go_ret
    exact ⟨ret_val (by rw [HS.out]; rfl), HB.out⟩
  · have g1 : 1 ≤ op := by omega
    have g2 : ¬ (op ≤ 29) := by omega
    have g3 : 40 ≤ op := by omega
    have g4 : ¬ (op ≤ 51) := by omega
    have HS := Lib.hid (show standsP op 5 = false by have hx := HNX.out; simp [standsP]; try omega)
    go_enter Tryz.func175, Tryz.ntmps175
    go_wp2_with fail
    rw [← HWA.out]
    go_ret
    exact ⟨ret_val (by rw [HS.out]; rfl), HB.out⟩

set_option maxRecDepth 100000 in
set_option maxHeartbeats 2000000 in
theorem stands_6 (op ln : Int) (s : ByteArray) (k n : Int) (t : ByteArray) (vv vs : Value) (w : World) :
    Calls Tryz.prog 175 #[.agg #[.int .i64 op, .int .i64 ln, .string s, .int .i64 k, .int .i64 n, .string t, vv, vs], .int .i64 6] w fun e w' => e = .returned (.bool (standsP op 6)) ∧ Below w.heap.size w w' := by
  obtain ⟨wa, hwa⟩ : ∃ wa, wa = w.alloc (.cells #[.int .i64 op, .int .i64 ln, .string s, .int .i64 k, .int .i64 n, .string t, vv, vs] 31) := ⟨_, rfl⟩
  have hb : Below w.heap.size w wa := by rw [hwa]; exact (Below.refl _ _).alloc (Nat.le_refl _) _
  have hN : NdB wa w.heap.size (.int .i64 op) (.int .i64 ln) (.string s) (.int .i64 k) (.int .i64 n) (.string t) vv vs := by rw [hwa]; exact NdB.new _ _ _ _ _ _ _ _ _
  have v0 := hN.c0
  rw [hwa] at v0
  have HB := Lib.hid hb
  have HWA := Lib.hid hwa
  clear hb hN hwa
  by_cases hn : op = 2 ∨ op = 20 ∨ op = 22 ∨ op = 25 ∨ op = 26 ∨ op = 50 ∨ op = 52
  · rcases hn with rfl | rfl | rfl | rfl | rfl | rfl | rfl
    all_goals
      go_enter Tryz.func175, Tryz.ntmps175
      go_wp2_with fail
      rw [← HWA.out]
      go_ret
      exact ⟨rfl, HB.out⟩
  have n2 := beq_no (show op ≠ 2 by omega)
  have n20 := beq_no (show op ≠ 20 by omega)
  have n22 := beq_no (show op ≠ 22 by omega)
  have n25 := beq_no (show op ≠ 25 by omega)
  have n26 := beq_no (show op ≠ 26 by omega)
  have n50 := beq_no (show op ≠ 50 by omega)
  have n52 := beq_no (show op ≠ 52 by omega)
  have b26 := bne_yes (show op ≠ 26 by omega)
  have b50 := bne_yes (show op ≠ 50 by omega)
  have hk : op < 1 ∨ (1 ≤ op ∧ op ≤ 29) ∨ (30 ≤ op ∧ op ≤ 39) ∨ (40 ≤ op ∧ op ≤ 51) ∨ 53 ≤ op := by omega
  have HNX := Lib.hid hn
  clear hn
  rcases hk with h1 | ⟨h1, h2⟩ | ⟨h1, h2⟩ | ⟨h1, h2⟩ | h1
  · have g1 : ¬ (1 ≤ op) := by omega
    have g2 : op ≤ 29 := by omega
    have g3 : ¬ (40 ≤ op) := by omega
    have g4 : op ≤ 51 := by omega
    have HS := Lib.hid (show standsP op 6 = false by have hx := HNX.out; simp [standsP]; try omega)
    go_enter Tryz.func175, Tryz.ntmps175
    go_wp2_with fail
    rw [← HWA.out]
    go_ret
    exact ⟨ret_val (by rw [HS.out]; rfl), HB.out⟩
  · have g1 : 1 ≤ op := by omega
    have g2 : op ≤ 29 := by omega
    have g3 : ¬ (40 ≤ op) := by omega
    have g4 : op ≤ 51 := by omega
    have HS := Lib.hid (show standsP op 6 = false by have hx := HNX.out; simp [standsP]; try omega)
    go_enter Tryz.func175, Tryz.ntmps175
    go_wp2_with fail
    rw [← HWA.out]
    go_ret
    exact ⟨ret_val (by rw [HS.out]; rfl), HB.out⟩
  · have g1 : 1 ≤ op := by omega
    have g2 : ¬ (op ≤ 29) := by omega
    have g3 : ¬ (40 ≤ op) := by omega
    have g4 : op ≤ 51 := by omega
    have HS := Lib.hid (show standsP op 6 = false by have hx := HNX.out; simp [standsP]; try omega)
    go_enter Tryz.func175, Tryz.ntmps175
    go_wp2_with fail
    rw [← HWA.out]
    go_ret
    exact ⟨ret_val (by rw [HS.out]; rfl), HB.out⟩
  · have g1 : 1 ≤ op := by omega
    have g2 : ¬ (op ≤ 29) := by omega
    have g3 : 40 ≤ op := by omega
    have g4 : op ≤ 51 := by omega
    have HS := Lib.hid (show standsP op 6 = false by have hx := HNX.out; simp [standsP]; try omega)
    go_enter Tryz.func175, Tryz.ntmps175
    go_wp2_with fail
    rw [← HWA.out]
    go_ret
    exact ⟨ret_val (by rw [HS.out]; rfl), HB.out⟩
  · have g1 : 1 ≤ op := by omega
    have g2 : ¬ (op ≤ 29) := by omega
    have g3 : 40 ≤ op := by omega
    have g4 : ¬ (op ≤ 51) := by omega
    have HS := Lib.hid (show standsP op 6 = false by have hx := HNX.out; simp [standsP]; try omega)
    go_enter Tryz.func175, Tryz.ntmps175
    go_wp2_with fail
    rw [← HWA.out]
    go_ret
    exact ⟨ret_val (by rw [HS.out]; rfl), HB.out⟩

set_option maxRecDepth 100000 in
set_option maxHeartbeats 2000000 in
theorem stands_7 (op ln : Int) (s : ByteArray) (k n : Int) (t : ByteArray) (vv vs : Value) (w : World) :
    Calls Tryz.prog 175 #[.agg #[.int .i64 op, .int .i64 ln, .string s, .int .i64 k, .int .i64 n, .string t, vv, vs], .int .i64 7] w fun e w' => e = .returned (.bool (standsP op 7)) ∧ Below w.heap.size w w' := by
  obtain ⟨wa, hwa⟩ : ∃ wa, wa = w.alloc (.cells #[.int .i64 op, .int .i64 ln, .string s, .int .i64 k, .int .i64 n, .string t, vv, vs] 31) := ⟨_, rfl⟩
  have hb : Below w.heap.size w wa := by rw [hwa]; exact (Below.refl _ _).alloc (Nat.le_refl _) _
  have hN : NdB wa w.heap.size (.int .i64 op) (.int .i64 ln) (.string s) (.int .i64 k) (.int .i64 n) (.string t) vv vs := by rw [hwa]; exact NdB.new _ _ _ _ _ _ _ _ _
  have v0 := hN.c0
  rw [hwa] at v0
  have HB := Lib.hid hb
  have HWA := Lib.hid hwa
  clear hb hN hwa
  by_cases hn : op = 2 ∨ op = 20 ∨ op = 22 ∨ op = 25 ∨ op = 26 ∨ op = 50 ∨ op = 52
  · rcases hn with rfl | rfl | rfl | rfl | rfl | rfl | rfl
    all_goals
      go_enter Tryz.func175, Tryz.ntmps175
      go_wp2_with fail
      rw [← HWA.out]
      go_ret
      exact ⟨rfl, HB.out⟩
  have n2 := beq_no (show op ≠ 2 by omega)
  have n20 := beq_no (show op ≠ 20 by omega)
  have n22 := beq_no (show op ≠ 22 by omega)
  have n25 := beq_no (show op ≠ 25 by omega)
  have n26 := beq_no (show op ≠ 26 by omega)
  have n50 := beq_no (show op ≠ 50 by omega)
  have n52 := beq_no (show op ≠ 52 by omega)
  have b26 := bne_yes (show op ≠ 26 by omega)
  have b50 := bne_yes (show op ≠ 50 by omega)
  have hk : op < 1 ∨ (1 ≤ op ∧ op ≤ 29) ∨ (30 ≤ op ∧ op ≤ 39) ∨ (40 ≤ op ∧ op ≤ 51) ∨ 53 ≤ op := by omega
  have HNX := Lib.hid hn
  clear hn
  rcases hk with h1 | ⟨h1, h2⟩ | ⟨h1, h2⟩ | ⟨h1, h2⟩ | h1
  · have g1 : ¬ (1 ≤ op) := by omega
    have g2 : op ≤ 29 := by omega
    have g3 : ¬ (40 ≤ op) := by omega
    have g4 : op ≤ 51 := by omega
    have HS := Lib.hid (show standsP op 7 = false by have hx := HNX.out; simp [standsP]; try omega)
    go_enter Tryz.func175, Tryz.ntmps175
    go_wp2_with fail
    rw [← HWA.out]
    go_ret
    exact ⟨ret_val (by rw [HS.out]; rfl), HB.out⟩
  · have g1 : 1 ≤ op := by omega
    have g2 : op ≤ 29 := by omega
    have g3 : ¬ (40 ≤ op) := by omega
    have g4 : op ≤ 51 := by omega
    have HS := Lib.hid (show standsP op 7 = false by have hx := HNX.out; simp [standsP]; try omega)
    go_enter Tryz.func175, Tryz.ntmps175
    go_wp2_with fail
    rw [← HWA.out]
    go_ret
    exact ⟨ret_val (by rw [HS.out]; rfl), HB.out⟩
  · have g1 : 1 ≤ op := by omega
    have g2 : ¬ (op ≤ 29) := by omega
    have g3 : ¬ (40 ≤ op) := by omega
    have g4 : op ≤ 51 := by omega
    have HS := Lib.hid (show standsP op 7 = false by have hx := HNX.out; simp [standsP]; try omega)
    go_enter Tryz.func175, Tryz.ntmps175
    go_wp2_with fail
    rw [← HWA.out]
    go_ret
    exact ⟨ret_val (by rw [HS.out]; rfl), HB.out⟩
  · have g1 : 1 ≤ op := by omega
    have g2 : ¬ (op ≤ 29) := by omega
    have g3 : 40 ≤ op := by omega
    have g4 : op ≤ 51 := by omega
    have HS := Lib.hid (show standsP op 7 = true by have hx := HNX.out; simp [standsP]; try omega)
    go_enter Tryz.func175, Tryz.ntmps175
    go_wp2_with fail
    rw [← HWA.out]
    go_ret
    exact ⟨ret_val (by rw [HS.out]; rfl), HB.out⟩
  · have g1 : 1 ≤ op := by omega
    have g2 : ¬ (op ≤ 29) := by omega
    have g3 : 40 ≤ op := by omega
    have g4 : ¬ (op ≤ 51) := by omega
    have HS := Lib.hid (show standsP op 7 = false by have hx := HNX.out; simp [standsP]; try omega)
    go_enter Tryz.func175, Tryz.ntmps175
    go_wp2_with fail
    rw [← HWA.out]
    go_ret
    exact ⟨ret_val (by rw [HS.out]; rfl), HB.out⟩

set_option maxRecDepth 100000 in
set_option maxHeartbeats 2000000 in
theorem stands_8 (op ln : Int) (s : ByteArray) (k n : Int) (t : ByteArray) (vv vs : Value) (w : World) :
    Calls Tryz.prog 175 #[.agg #[.int .i64 op, .int .i64 ln, .string s, .int .i64 k, .int .i64 n, .string t, vv, vs], .int .i64 8] w fun e w' => e = .returned (.bool (standsP op 8)) ∧ Below w.heap.size w w' := by
  obtain ⟨wa, hwa⟩ : ∃ wa, wa = w.alloc (.cells #[.int .i64 op, .int .i64 ln, .string s, .int .i64 k, .int .i64 n, .string t, vv, vs] 31) := ⟨_, rfl⟩
  have hb : Below w.heap.size w wa := by rw [hwa]; exact (Below.refl _ _).alloc (Nat.le_refl _) _
  have hN : NdB wa w.heap.size (.int .i64 op) (.int .i64 ln) (.string s) (.int .i64 k) (.int .i64 n) (.string t) vv vs := by rw [hwa]; exact NdB.new _ _ _ _ _ _ _ _ _
  have v0 := hN.c0
  rw [hwa] at v0
  have HB := Lib.hid hb
  have HWA := Lib.hid hwa
  clear hb hN hwa
  by_cases hn : op = 2 ∨ op = 20 ∨ op = 22 ∨ op = 25 ∨ op = 26 ∨ op = 50 ∨ op = 52
  · rcases hn with rfl | rfl | rfl | rfl | rfl | rfl | rfl
    all_goals
      go_enter Tryz.func175, Tryz.ntmps175
      go_wp2_with fail
      rw [← HWA.out]
      go_ret
      exact ⟨rfl, HB.out⟩
  have n2 := beq_no (show op ≠ 2 by omega)
  have n20 := beq_no (show op ≠ 20 by omega)
  have n22 := beq_no (show op ≠ 22 by omega)
  have n25 := beq_no (show op ≠ 25 by omega)
  have n26 := beq_no (show op ≠ 26 by omega)
  have n50 := beq_no (show op ≠ 50 by omega)
  have n52 := beq_no (show op ≠ 52 by omega)
  have b26 := bne_yes (show op ≠ 26 by omega)
  have b50 := bne_yes (show op ≠ 50 by omega)
  have hk : op < 1 ∨ (1 ≤ op ∧ op ≤ 29) ∨ (30 ≤ op ∧ op ≤ 39) ∨ (40 ≤ op ∧ op ≤ 51) ∨ 53 ≤ op := by omega
  have HNX := Lib.hid hn
  clear hn
  rcases hk with h1 | ⟨h1, h2⟩ | ⟨h1, h2⟩ | ⟨h1, h2⟩ | h1
  · have g1 : ¬ (1 ≤ op) := by omega
    have g2 : op ≤ 29 := by omega
    have g3 : ¬ (40 ≤ op) := by omega
    have g4 : op ≤ 51 := by omega
    have HS := Lib.hid (show standsP op 8 = false by have hx := HNX.out; simp [standsP]; try omega)
    go_enter Tryz.func175, Tryz.ntmps175
    go_wp2_with fail
    rw [← HWA.out]
    go_ret
    exact ⟨ret_val (by rw [HS.out]; rfl), HB.out⟩
  · have g1 : 1 ≤ op := by omega
    have g2 : op ≤ 29 := by omega
    have g3 : ¬ (40 ≤ op) := by omega
    have g4 : op ≤ 51 := by omega
    have HS := Lib.hid (show standsP op 8 = false by have hx := HNX.out; simp [standsP]; try omega)
    go_enter Tryz.func175, Tryz.ntmps175
    go_wp2_with fail
    rw [← HWA.out]
    go_ret
    exact ⟨ret_val (by rw [HS.out]; rfl), HB.out⟩
  · have g1 : 1 ≤ op := by omega
    have g2 : ¬ (op ≤ 29) := by omega
    have g3 : ¬ (40 ≤ op) := by omega
    have g4 : op ≤ 51 := by omega
    have HS := Lib.hid (show standsP op 8 = false by have hx := HNX.out; simp [standsP]; try omega)
    go_enter Tryz.func175, Tryz.ntmps175
    go_wp2_with fail
    rw [← HWA.out]
    go_ret
    exact ⟨ret_val (by rw [HS.out]; rfl), HB.out⟩
  · have g1 : 1 ≤ op := by omega
    have g2 : ¬ (op ≤ 29) := by omega
    have g3 : 40 ≤ op := by omega
    have g4 : op ≤ 51 := by omega
    have HS := Lib.hid (show standsP op 8 = false by have hx := HNX.out; simp [standsP]; try omega)
    go_enter Tryz.func175, Tryz.ntmps175
    go_wp2_with fail
    rw [← HWA.out]
    go_ret
    exact ⟨ret_val (by rw [HS.out]; rfl), HB.out⟩
  · have g1 : 1 ≤ op := by omega
    have g2 : ¬ (op ≤ 29) := by omega
    have g3 : 40 ≤ op := by omega
    have g4 : ¬ (op ≤ 51) := by omega
    have HS := Lib.hid (show standsP op 8 = false by have hx := HNX.out; simp [standsP]; try omega)
    go_enter Tryz.func175, Tryz.ntmps175
    go_wp2_with fail
    rw [← HWA.out]
    go_ret
    exact ⟨ret_val (by rw [HS.out]; rfl), HB.out⟩

theorem stands_c (op ln : Int) (s : ByteArray) (k n : Int) (t : ByteArray) (vv vs : Value) (r : Nat) (w : World) (hr : r ≤ 8) :
    Calls Tryz.prog 175 #[.agg #[.int .i64 op, .int .i64 ln, .string s, .int .i64 k, .int .i64 n, .string t, vv, vs], .int .i64 (r : Int)] w fun e w' => e = .returned (.bool (standsP op r)) ∧ Below w.heap.size w w' := by
  have hk : r = 0 ∨ r = 1 ∨ r = 2 ∨ r = 3 ∨ r = 4 ∨ r = 5 ∨ r = 6 ∨ r = 7 ∨ r = 8 := by omega
  rcases hk with rfl | rfl | rfl | rfl | rfl | rfl | rfl | rfl | rfl
  · exact stands_0 op ln s k n t vv vs w
  · exact stands_1 op ln s k n t vv vs w
  · exact stands_2 op ln s k n t vv vs w
  · exact stands_3 op ln s k n t vv vs w
  · exact stands_4 op ln s k n t vv vs w
  · exact stands_5 op ln s k n t vv vs w
  · exact stands_6 op ln s k n t vv vs w
  · exact stands_7 op ln s k n t vv vs w
  · exact stands_8 op ln s k n t vv vs w
end Go.Proofs.YtggngahmafbihaaGreatDoor
namespace Go.Proofs.YtggngahmafbihaaGreatDoor
open Go.RowKit Go.Lib
set_option linter.unusedVariables false

/-- The keys in tree's order. -/
def tkeysL : List ByteArray := [⟨#[105, 102]⟩, ⟨#[101, 108, 115, 101, 105, 102]⟩, ⟨#[101, 108, 115, 101]⟩, ⟨#[101, 110, 100, 105, 102]⟩, ⟨#[102, 111, 114]⟩, ⟨#[105, 110]⟩, ⟨#[101, 110, 100, 102, 111, 114]⟩, ⟨#[119, 104, 105, 108, 101]⟩, ⟨#[101, 110, 100, 119, 104, 105, 108, 101]⟩, ⟨#[98, 114, 101, 97, 107]⟩, ⟨#[99, 111, 110, 116, 105, 110, 117, 101]⟩, ⟨#[114, 101, 116, 117, 114, 110]⟩, ⟨#[102, 111, 114, 107]⟩, ⟨#[101, 110, 100, 102, 111, 114, 107]⟩, ⟨#[116, 114, 121]⟩, ⟨#[101, 120, 99, 101, 112, 116]⟩, ⟨#[102, 105, 110, 97, 108, 108, 121]⟩, ⟨#[101, 110, 100, 116, 114, 121]⟩, ⟨#[97, 110, 121]⟩]
theorem tkeys_contains (x : ByteArray) : containsS (tkeysL.take 19) x = keysL.contains x := by
  have hlaw : ∀ a b : ByteArray, (a == b) = true ↔ a = b := fun a b => by
    show (a.data == b.data) = true ↔ a = b
    rw [beq_iff_eq]
    exact ⟨fun e => by cases a; cases b; simp only at e; rw [e], fun e => by rw [e]⟩
  have hp : (tkeysL.map (·.data)).Perm (keysL.map (·.data)) := List.isPerm_iff.1 (by decide +kernel)
  have hmem : ∀ y, y ∈ tkeysL ↔ y ∈ keysL := by
    intro y
    have h1 := hp.mem_iff (a := y.data)
    have key : ∀ l : List ByteArray, y.data ∈ l.map (·.data) ↔ y ∈ l := by
      intro l
      rw [List.mem_map]
      constructor
      · rintro ⟨z, h, e⟩; cases z; cases y; simp only at e; rw [← e]; exact h
      · intro h; exact ⟨y, h, rfl⟩
    rw [key, key] at h1
    exact h1
  rw [show tkeysL.take 19 = tkeysL from rfl, Bool.eq_iff_iff, containsS_iff, List.contains_iff_exists_mem_beq, hmem]
  constructor
  · intro h; exact ⟨x, h, (hlaw x x).2 rfl⟩
  · rintro ⟨y, h1, h2⟩; rw [(hlaw x y).1 h2]; exact h1

set_option maxRecDepth 100000 in
theorem tkeys_c (w : World) : Calls Tryz.prog 206 #[] w fun e w' => e = .returned (.slice (some ⟨w.heap.size, 0, none⟩) 19 19) ∧ Below w.heap.size w w' ∧ ∀ j, j < tkeysL.length → w'.cell? ⟨w.heap.size, 0 + j, none⟩ = some (.string (tkeysL.getD j ByteArray.empty)) := by
  go_enter Tryz.func206, Tryz.ntmps206
  go_wp2_with fail
  go_ret
  refine ⟨rfl, (Below.refl _ _).alloc (Nat.le_refl _) _, fun j hj => ?_⟩
  have hb := heap_alloc_new w (.cells #[.string ⟨#[105, 102]⟩, .string ⟨#[101, 108, 115, 101, 105, 102]⟩, .string ⟨#[101, 108, 115, 101]⟩, .string ⟨#[101, 110, 100, 105, 102]⟩, .string ⟨#[102, 111, 114]⟩, .string ⟨#[105, 110]⟩, .string ⟨#[101, 110, 100, 102, 111, 114]⟩, .string ⟨#[119, 104, 105, 108, 101]⟩, .string ⟨#[101, 110, 100, 119, 104, 105, 108, 101]⟩, .string ⟨#[98, 114, 101, 97, 107]⟩, .string ⟨#[99, 111, 110, 116, 105, 110, 117, 101]⟩, .string ⟨#[114, 101, 116, 117, 114, 110]⟩, .string ⟨#[102, 111, 114, 107]⟩, .string ⟨#[101, 110, 100, 102, 111, 114, 107]⟩, .string ⟨#[116, 114, 121]⟩, .string ⟨#[101, 120, 99, 101, 112, 116]⟩, .string ⟨#[102, 105, 110, 97, 108, 108, 121]⟩, .string ⟨#[101, 110, 100, 116, 114, 121]⟩, .string ⟨#[97, 110, 121]⟩] 9)
  rw [Nat.zero_add, cell_of_row _ _ j _ _ _ hb]
  have hj' : j < 19 := hj
  have : ∀ j : Fin 19, (#[.string ⟨#[105, 102]⟩, .string ⟨#[101, 108, 115, 101, 105, 102]⟩, .string ⟨#[101, 108, 115, 101]⟩, .string ⟨#[101, 110, 100, 105, 102]⟩, .string ⟨#[102, 111, 114]⟩, .string ⟨#[105, 110]⟩, .string ⟨#[101, 110, 100, 102, 111, 114]⟩, .string ⟨#[119, 104, 105, 108, 101]⟩, .string ⟨#[101, 110, 100, 119, 104, 105, 108, 101]⟩, .string ⟨#[98, 114, 101, 97, 107]⟩, .string ⟨#[99, 111, 110, 116, 105, 110, 117, 101]⟩, .string ⟨#[114, 101, 116, 117, 114, 110]⟩, .string ⟨#[102, 111, 114, 107]⟩, .string ⟨#[101, 110, 100, 102, 111, 114, 107]⟩, .string ⟨#[116, 114, 121]⟩, .string ⟨#[101, 120, 99, 101, 112, 116]⟩, .string ⟨#[102, 105, 110, 97, 108, 108, 121]⟩, .string ⟨#[101, 110, 100, 116, 114, 121]⟩, .string ⟨#[97, 110, 121]⟩] : Array Value)[j.val]? = some (.string (tkeysL.getD j.val ByteArray.empty)) := by
    intro j
    match j with
    | ⟨0, _⟩ => rfl
    | ⟨1, _⟩ => rfl
    | ⟨2, _⟩ => rfl
    | ⟨3, _⟩ => rfl
    | ⟨4, _⟩ => rfl
    | ⟨5, _⟩ => rfl
    | ⟨6, _⟩ => rfl
    | ⟨7, _⟩ => rfl
    | ⟨8, _⟩ => rfl
    | ⟨9, _⟩ => rfl
    | ⟨10, _⟩ => rfl
    | ⟨11, _⟩ => rfl
    | ⟨12, _⟩ => rfl
    | ⟨13, _⟩ => rfl
    | ⟨14, _⟩ => rfl
    | ⟨15, _⟩ => rfl
    | ⟨16, _⟩ => rfl
    | ⟨17, _⟩ => rfl
    | ⟨18, _⟩ => rfl
    | ⟨_ + 19, h⟩ => exact absurd h (by omega)
  exact this ⟨j, hj'⟩

theorem nmCh_eq (c : UInt8) : nmCh c = decide ((97 ≤ c.toNat ∧ c.toNat ≤ 122) ∨ (48 ≤ c.toNat ∧ c.toNat ≤ 57) ∨ c.toNat = 95) := by
  unfold nmCh
  rw [Bool.eq_iff_iff]
  simp only [Bool.or_eq_true, Bool.and_eq_true, decide_eq_true_eq, beq_iff_eq, UInt8.le_iff_toNat_le, ← UInt8.toNat_inj]
  constructor
  · rintro ((h | h) | h)
    · exact .inl h
    · exact .inr (.inl h)
    · exact .inr (.inr h)
  · rintro (h | h | h)
    · exact .inl (.inl h)
    · exact .inl (.inr h)
    · exact .inr h
theorem head_get (s : ByteArray) (h : 0 < s.size) : s.data.toList.getD 0 0 = s[0] := by
  rw [List.getD_eq_getElem?_getD, List.getElem?_eq_getElem (by simpa using h)]; rfl
theorem dg_eq (c : UInt8) : (decide (48 ≤ c) && decide (c ≤ 57)) = decide (48 ≤ c.toNat ∧ c.toNat ≤ 57) := by
  rw [Bool.eq_iff_iff]
  simp only [Bool.and_eq_true, decide_eq_true_eq, UInt8.le_iff_toNat_le]
  exact Iff.rfl
theorem nm_bad (s : ByteArray) (k : Nat) (hk : k < s.size) (h : nmCh s[k] = false) : nameB s = false := by
  have : s.data.toList.all nmCh = false := by
    rw [Bool.eq_false_iff]
    intro hn
    rw [List.all_eq_true] at hn
    have := hn s[k] (by show s.data[k] ∈ s.data.toList; simp)
    rw [h] at this; cases this
  unfold nameB
  rw [this]; simp
theorem nm_all (s : ByteArray) (h0 : 1 ≤ s.size) (h1 : s.size ≤ 32) (hd : ¬ (48 ≤ s[0].toNat ∧ s[0].toNat ≤ 57)) (ha : s.data.toList.all nmCh = true) : nameB s = !keysL.contains s := by
  unfold nameB
  rw [head_get s (by omega), dg_eq, ha, decide_eq_true h0, decide_eq_true h1, decide_eq_false hd]
  simp

set_option maxRecDepth 100000 in
set_option maxHeartbeats 2000000 in
theorem name_tc (s : ByteArray) (w : World) (hs : s.size ≤ 140737488351232) :
    Calls Tryz.prog 177 #[.string s] w fun e w' => e = .returned (.bool (nameB s)) ∧ Below w.heap.size w w' := by
  by_cases h0 : s.size < 1
  · have HS := Lib.hid (show nameB s = false by unfold nameB; rw [decide_eq_false (show ¬ 1 ≤ s.size by omega)]; simp)
    have q : (s.size : Int) < 1 := by omega
    clear h0
    go_enter Tryz.func177, Tryz.ntmps177
    go_wp2_with fail
    go_ret
    exact ⟨ret_bool (by rw [HS.out]), Below.refl _ _⟩
  by_cases h1 : 32 < s.size
  · have HS := Lib.hid (show nameB s = false by unfold nameB; rw [decide_eq_false (show ¬ s.size ≤ 32 by omega)]; simp)
    have q : (32 : Int) < s.size := by omega
    have q1 : ¬ ((s.size : Int) < 1) := by omega
    clear h0 h1
    go_enter Tryz.func177, Tryz.ntmps177
    go_wp2_with fail
    go_ret
    exact ⟨ret_bool (by rw [HS.out]), Below.refl _ _⟩
  have q1 : ¬ ((s.size : Int) < 1) := by omega
  have q2 : ¬ ((32 : Int) < s.size) := by omega
  have q3 : 0 < s.size := by omega
  by_cases hd : 48 ≤ s[0].toNat ∧ s[0].toNat ≤ 57
  · have HS := Lib.hid (show nameB s = false by unfold nameB; rw [head_get s q3, dg_eq, decide_eq_true hd]; simp)
    have q4 : (48 : Int) ≤ (s[0].toNat : Int) := by omega
    have q5 : (s[0].toNat : Int) ≤ 57 := by omega
    clear h0 h1 hd
    go_enter Tryz.func177, Tryz.ntmps177
    go_wp2_with fail
    go_ret
    exact ⟨ret_bool (by rw [HS.out]), Below.refl _ _⟩
  have HA := Lib.hid (nm_all s (by omega) (by omega) hd)
  have q45 : ¬ ((48 : Int) ≤ (s[0].toNat : Int)) ∨ ((48 : Int) ≤ (s[0].toNat : Int) ∧ ¬ ((s[0].toNat : Int) ≤ 57)) := by omega
  clear h0 h1 hd
  rcases q45 with q4 | ⟨q4, q5⟩
  · go_enter Tryz.func177, Tryz.ntmps177
    go_wp2_with fail
    go_loop [25] (fun i => ∃ k : Nat, k ≤ s.size ∧ i = .int .i64 k ∧ Hid ((s.data.toList.take k).all nmCh = true)) (fun i => s.size - (RowKit.intOf i).toNat)
    case atStart => exact ⟨0, Nat.zero_le _, rfl, rfl⟩
    case round =>
      obtain ⟨k, hk, rfl, hall⟩ := hrel
      by_cases hlt : k < s.size
      · have hts := Lib.hid (take_snoc s k hlt)
        have hne := Lib.hid (nmCh_eq s[k])
        have hcase : ((s[k].toNat : Int) < 97 ∧ (s[k].toNat : Int) < 48) ∨ ((s[k].toNat : Int) < 97 ∧ 48 ≤ (s[k].toNat : Int) ∧ (s[k].toNat : Int) ≤ 57) ∨ (((s[k].toNat : Int) < 97 ∧ 57 < (s[k].toNat : Int)) ∧ (s[k].toNat : Int) = 95) ∨ (((s[k].toNat : Int) < 97 ∧ 57 < (s[k].toNat : Int)) ∧ (s[k].toNat : Int) ≠ 95) ∨ (122 < (s[k].toNat : Int)) ∨ (97 ≤ (s[k].toNat : Int) ∧ (s[k].toNat : Int) ≤ 122) := by omega
        rcases hcase with ⟨g1, g2⟩ | ⟨g1, g2, g3⟩ | ⟨⟨g1, g2⟩, g3⟩ | ⟨⟨g1, g2⟩, g3⟩ | g1 | ⟨g1, g2⟩
        · have g4 := bne_yes (show (s[k].toNat : Int) ≠ 95 by omega)
          go_wp2_with fail
          go_ret
          exact ⟨ret_bool (nm_bad s k hlt (by rw [hne.out]; exact decide_eq_false (by omega))).symm, Below.refl _ _⟩
        · have g4 : ¬ ((s[k].toNat : Int) < 48) := by omega
          have g5 : ¬ (57 < (s[k].toNat : Int)) := by omega
          go_wp2_with fail
          refine ⟨⟨k + 1, by omega, by go_num, ?_⟩, by simp [RowKit.intOf]; omega⟩
          show List.all _ nmCh = true
          rw [hts.out, List.all_append, hall.out, List.all_cons, hne.out, decide_eq_true (by omega)]
          rfl
        · have g5 : ¬ ((s[k].toNat : Int) < 48) := by omega
          have g4 : ((s[k].toNat : Int) != 95) = false := by rw [g3]; rfl
          go_wp2_with fail
          refine ⟨⟨k + 1, by omega, by go_num, ?_⟩, by simp [RowKit.intOf]; omega⟩
          show List.all _ nmCh = true
          rw [hts.out, List.all_append, hall.out, List.all_cons, hne.out, decide_eq_true (by omega)]
          rfl
        · have g5 : ¬ ((s[k].toNat : Int) < 48) := by omega
          have g4 := bne_yes g3
          go_wp2_with fail
          go_ret
          exact ⟨ret_bool (nm_bad s k hlt (by rw [hne.out]; exact decide_eq_false (by omega))).symm, Below.refl _ _⟩
        · have g5 : ¬ ((s[k].toNat : Int) < 97) := by omega
          have g6 : ¬ ((s[k].toNat : Int) < 48) := by omega
          have g7 : 57 < (s[k].toNat : Int) := by omega
          have g4 := bne_yes (show (s[k].toNat : Int) ≠ 95 by omega)
          go_wp2_with fail
          go_ret
          exact ⟨ret_bool (nm_bad s k hlt (by rw [hne.out]; exact decide_eq_false (by omega))).symm, Below.refl _ _⟩
        · have g5 : ¬ ((s[k].toNat : Int) < 97) := by omega
          have g6 : ¬ (122 < (s[k].toNat : Int)) := by omega
          go_wp2_with fail
          refine ⟨⟨k + 1, by omega, by go_num, ?_⟩, by simp [RowKit.intOf]; omega⟩
          show List.all _ nmCh = true
          rw [hts.out, List.all_append, hall.out, List.all_cons, hne.out, decide_eq_true (by omega)]
          rfl
      · obtain rfl : k = s.size := by omega
        have HN := Lib.hid (show nameB s = !keysL.contains s from HA.out (by have := hall.out; rw [List.take_of_length_le (by simp)] at this; exact this))
        clear HA hall
        go_wp2_with fail
        refine (tkeys_c w).mono ?_
        rintro e w2 ⟨rfl, hb2, hk2⟩
        have HB2 := Lib.hid hb2
        have HC := Lib.hid (Tryz.slices_Contains_string w.heap.size 0 19 19 tkeysL s w2 (by decide) (by decide) hk2)
        rw [tkeys_contains] at HC
        clear hb2 hk2
        go_wp2_with fail
        refine HC.out.mono ?_
        rintro e w3 ⟨rfl, rfl⟩
        go_wp2_with fail
        go_ret
        exact ⟨ret_bool HN.out.symm, HB2.out⟩
  · go_enter Tryz.func177, Tryz.ntmps177
    go_wp2_with fail
    go_loop [25] (fun i => ∃ k : Nat, k ≤ s.size ∧ i = .int .i64 k ∧ Hid ((s.data.toList.take k).all nmCh = true)) (fun i => s.size - (RowKit.intOf i).toNat)
    case atStart => exact ⟨0, Nat.zero_le _, rfl, rfl⟩
    case round =>
      obtain ⟨k, hk, rfl, hall⟩ := hrel
      by_cases hlt : k < s.size
      · have hts := Lib.hid (take_snoc s k hlt)
        have hne := Lib.hid (nmCh_eq s[k])
        have hcase : ((s[k].toNat : Int) < 97 ∧ (s[k].toNat : Int) < 48) ∨ ((s[k].toNat : Int) < 97 ∧ 48 ≤ (s[k].toNat : Int) ∧ (s[k].toNat : Int) ≤ 57) ∨ (((s[k].toNat : Int) < 97 ∧ 57 < (s[k].toNat : Int)) ∧ (s[k].toNat : Int) = 95) ∨ (((s[k].toNat : Int) < 97 ∧ 57 < (s[k].toNat : Int)) ∧ (s[k].toNat : Int) ≠ 95) ∨ (122 < (s[k].toNat : Int)) ∨ (97 ≤ (s[k].toNat : Int) ∧ (s[k].toNat : Int) ≤ 122) := by omega
        rcases hcase with ⟨g1, g2⟩ | ⟨g1, g2, g3⟩ | ⟨⟨g1, g2⟩, g3⟩ | ⟨⟨g1, g2⟩, g3⟩ | g1 | ⟨g1, g2⟩
        · have g4 := bne_yes (show (s[k].toNat : Int) ≠ 95 by omega)
          go_wp2_with fail
          go_ret
          exact ⟨ret_bool (nm_bad s k hlt (by rw [hne.out]; exact decide_eq_false (by omega))).symm, Below.refl _ _⟩
        · have g4 : ¬ ((s[k].toNat : Int) < 48) := by omega
          have g5 : ¬ (57 < (s[k].toNat : Int)) := by omega
          go_wp2_with fail
          refine ⟨⟨k + 1, by omega, by go_num, ?_⟩, by simp [RowKit.intOf]; omega⟩
          show List.all _ nmCh = true
          rw [hts.out, List.all_append, hall.out, List.all_cons, hne.out, decide_eq_true (by omega)]
          rfl
        · have g5 : ¬ ((s[k].toNat : Int) < 48) := by omega
          have g4 : ((s[k].toNat : Int) != 95) = false := by rw [g3]; rfl
          go_wp2_with fail
          refine ⟨⟨k + 1, by omega, by go_num, ?_⟩, by simp [RowKit.intOf]; omega⟩
          show List.all _ nmCh = true
          rw [hts.out, List.all_append, hall.out, List.all_cons, hne.out, decide_eq_true (by omega)]
          rfl
        · have g5 : ¬ ((s[k].toNat : Int) < 48) := by omega
          have g4 := bne_yes g3
          go_wp2_with fail
          go_ret
          exact ⟨ret_bool (nm_bad s k hlt (by rw [hne.out]; exact decide_eq_false (by omega))).symm, Below.refl _ _⟩
        · have g5 : ¬ ((s[k].toNat : Int) < 97) := by omega
          have g6 : ¬ ((s[k].toNat : Int) < 48) := by omega
          have g7 : 57 < (s[k].toNat : Int) := by omega
          have g4 := bne_yes (show (s[k].toNat : Int) ≠ 95 by omega)
          go_wp2_with fail
          go_ret
          exact ⟨ret_bool (nm_bad s k hlt (by rw [hne.out]; exact decide_eq_false (by omega))).symm, Below.refl _ _⟩
        · have g5 : ¬ ((s[k].toNat : Int) < 97) := by omega
          have g6 : ¬ (122 < (s[k].toNat : Int)) := by omega
          go_wp2_with fail
          refine ⟨⟨k + 1, by omega, by go_num, ?_⟩, by simp [RowKit.intOf]; omega⟩
          show List.all _ nmCh = true
          rw [hts.out, List.all_append, hall.out, List.all_cons, hne.out, decide_eq_true (by omega)]
          rfl
      · obtain rfl : k = s.size := by omega
        have HN := Lib.hid (show nameB s = !keysL.contains s from HA.out (by have := hall.out; rw [List.take_of_length_le (by simp)] at this; exact this))
        clear HA hall
        go_wp2_with fail
        refine (tkeys_c w).mono ?_
        rintro e w2 ⟨rfl, hb2, hk2⟩
        have HB2 := Lib.hid hb2
        have HC := Lib.hid (Tryz.slices_Contains_string w.heap.size 0 19 19 tkeysL s w2 (by decide) (by decide) hk2)
        rw [tkeys_contains] at HC
        clear hb2 hk2
        go_wp2_with fail
        refine HC.out.mono ?_
        rintro e w3 ⟨rfl, rfl⟩
        go_wp2_with fail
        go_ret
        exact ⟨ret_bool HN.out.symm, HB2.out⟩
end Go.Proofs.YtggngahmafbihaaGreatDoor
namespace Go.Proofs.YtggngahmafbihaaGreatDoor
open Go.RowKit Go.Lib
set_option linter.unusedVariables false

set_option maxRecDepth 100000 in
set_option maxHeartbeats 2000000 in
theorem roles_5 (ln : Int) (s : ByteArray) (k n : Int) (t : ByteArray) (vv : Value) (sa : Option Addr) (m sc : Nat) (w : World) (hm : m ≤ 4096) :
    Calls Tryz.prog 150 #[.agg #[.int .i64 5, .int .i64 ln, .string s, .int .i64 k, .int .i64 n, .string t, vv, .slice sa m sc]] w (RolesOut w 5 m) := by
  obtain ⟨wa, hwa⟩ : ∃ wa, wa = w.alloc (.cells #[.int .i64 5, .int .i64 ln, .string s, .int .i64 k, .int .i64 n, .string t, vv, .slice sa m sc] 31) := ⟨_, rfl⟩
  have hb : Below w.heap.size w wa := by rw [hwa]; exact (Below.refl _ _).alloc (Nat.le_refl _) _
  have hN : NdB wa w.heap.size (.int .i64 5) (.int .i64 ln) (.string s) (.int .i64 k) (.int .i64 n) (.string t) vv (.slice sa m sc) := by rw [hwa]; exact NdB.new _ _ _ _ _ _ _ _ _
  have v0 := hN.c0; have v7 := hN.c7
  rw [hwa] at v0 v7
  have HB := Lib.hid hb
  have HWA := Lib.hid hwa
  clear hb hN hwa
  go_enter Tryz.func150, Tryz.ntmps150
  go_wp2_with fail
  rw [← HWA.out]
  refine (roll_c 0 2 wa (by decide) (by omega)).mono ?_
  rintro e w2 ⟨v, rfl, ho, hb2⟩
  have HO := Lib.hid ho
  have HB2 := Lib.hid (HB.out.trans (below_le' hb2 HB.out.size))
  clear ho hb2
  go_wp2_with fail
  go_ret2
  exact ⟨v, ret_tup (c := .nilIface) (by rw [show (2 : Int) = ((2 : Nat) : Int) from rfl, eq_nat]; rfl), by
    have h := own_lower HO.out HB.out.size
    have e : (rolesP 5 m).1 = List.replicate 2 0 := rfl
    rw [e, List.length_replicate]; exact h, HB2.out⟩

set_option maxRecDepth 100000 in
set_option maxHeartbeats 2000000 in
theorem roles_6 (ln : Int) (s : ByteArray) (k n : Int) (t : ByteArray) (vv : Value) (sa : Option Addr) (m sc : Nat) (w : World) (hm : m ≤ 4096) :
    Calls Tryz.prog 150 #[.agg #[.int .i64 6, .int .i64 ln, .string s, .int .i64 k, .int .i64 n, .string t, vv, .slice sa m sc]] w (RolesOut w 6 m) := by
  obtain ⟨wa, hwa⟩ : ∃ wa, wa = w.alloc (.cells #[.int .i64 6, .int .i64 ln, .string s, .int .i64 k, .int .i64 n, .string t, vv, .slice sa m sc] 31) := ⟨_, rfl⟩
  have hb : Below w.heap.size w wa := by rw [hwa]; exact (Below.refl _ _).alloc (Nat.le_refl _) _
  have hN : NdB wa w.heap.size (.int .i64 6) (.int .i64 ln) (.string s) (.int .i64 k) (.int .i64 n) (.string t) vv (.slice sa m sc) := by rw [hwa]; exact NdB.new _ _ _ _ _ _ _ _ _
  have v0 := hN.c0; have v7 := hN.c7
  rw [hwa] at v0 v7
  have HB := Lib.hid hb
  have HWA := Lib.hid hwa
  clear hb hN hwa
  go_enter Tryz.func150, Tryz.ntmps150
  go_wp2_with fail
  rw [← HWA.out]
  refine (roll_c 0 2 wa (by decide) (by omega)).mono ?_
  rintro e w2 ⟨v, rfl, ho, hb2⟩
  have HO := Lib.hid ho
  have HB2 := Lib.hid (HB.out.trans (below_le' hb2 HB.out.size))
  clear ho hb2
  go_wp2_with fail
  go_ret2
  exact ⟨v, ret_tup (c := .nilIface) (by rw [show (2 : Int) = ((2 : Nat) : Int) from rfl, eq_nat]; rfl), by
    have h := own_lower HO.out HB.out.size
    have e : (rolesP 6 m).1 = List.replicate 2 0 := rfl
    rw [e, List.length_replicate]; exact h, HB2.out⟩

set_option maxRecDepth 100000 in
set_option maxHeartbeats 2000000 in
theorem roles_7 (ln : Int) (s : ByteArray) (k n : Int) (t : ByteArray) (vv : Value) (sa : Option Addr) (m sc : Nat) (w : World) (hm : m ≤ 4096) :
    Calls Tryz.prog 150 #[.agg #[.int .i64 7, .int .i64 ln, .string s, .int .i64 k, .int .i64 n, .string t, vv, .slice sa m sc]] w (RolesOut w 7 m) := by
  obtain ⟨wa, hwa⟩ : ∃ wa, wa = w.alloc (.cells #[.int .i64 7, .int .i64 ln, .string s, .int .i64 k, .int .i64 n, .string t, vv, .slice sa m sc] 31) := ⟨_, rfl⟩
  have hb : Below w.heap.size w wa := by rw [hwa]; exact (Below.refl _ _).alloc (Nat.le_refl _) _
  have hN : NdB wa w.heap.size (.int .i64 7) (.int .i64 ln) (.string s) (.int .i64 k) (.int .i64 n) (.string t) vv (.slice sa m sc) := by rw [hwa]; exact NdB.new _ _ _ _ _ _ _ _ _
  have v0 := hN.c0; have v7 := hN.c7
  rw [hwa] at v0 v7
  have HB := Lib.hid hb
  have HWA := Lib.hid hwa
  clear hb hN hwa
  go_enter Tryz.func150, Tryz.ntmps150
  go_wp2_with fail
  rw [← HWA.out]
  refine (roll_c 0 2 wa (by decide) (by omega)).mono ?_
  rintro e w2 ⟨v, rfl, ho, hb2⟩
  have HO := Lib.hid ho
  have HB2 := Lib.hid (HB.out.trans (below_le' hb2 HB.out.size))
  clear ho hb2
  go_wp2_with fail
  go_ret2
  exact ⟨v, ret_tup (c := .nilIface) (by rw [show (2 : Int) = ((2 : Nat) : Int) from rfl, eq_nat]; rfl), by
    have h := own_lower HO.out HB.out.size
    have e : (rolesP 7 m).1 = List.replicate 2 0 := rfl
    rw [e, List.length_replicate]; exact h, HB2.out⟩

set_option maxRecDepth 100000 in
set_option maxHeartbeats 2000000 in
theorem roles_8 (ln : Int) (s : ByteArray) (k n : Int) (t : ByteArray) (vv : Value) (sa : Option Addr) (m sc : Nat) (w : World) (hm : m ≤ 4096) :
    Calls Tryz.prog 150 #[.agg #[.int .i64 8, .int .i64 ln, .string s, .int .i64 k, .int .i64 n, .string t, vv, .slice sa m sc]] w (RolesOut w 8 m) := by
  obtain ⟨wa, hwa⟩ : ∃ wa, wa = w.alloc (.cells #[.int .i64 8, .int .i64 ln, .string s, .int .i64 k, .int .i64 n, .string t, vv, .slice sa m sc] 31) := ⟨_, rfl⟩
  have hb : Below w.heap.size w wa := by rw [hwa]; exact (Below.refl _ _).alloc (Nat.le_refl _) _
  have hN : NdB wa w.heap.size (.int .i64 8) (.int .i64 ln) (.string s) (.int .i64 k) (.int .i64 n) (.string t) vv (.slice sa m sc) := by rw [hwa]; exact NdB.new _ _ _ _ _ _ _ _ _
  have v0 := hN.c0; have v7 := hN.c7
  rw [hwa] at v0 v7
  have HB := Lib.hid hb
  have HWA := Lib.hid hwa
  clear hb hN hwa
  go_enter Tryz.func150, Tryz.ntmps150
  go_wp2_with fail
  rw [← HWA.out]
  refine (roll_c 0 2 wa (by decide) (by omega)).mono ?_
  rintro e w2 ⟨v, rfl, ho, hb2⟩
  have HO := Lib.hid ho
  have HB2 := Lib.hid (HB.out.trans (below_le' hb2 HB.out.size))
  clear ho hb2
  go_wp2_with fail
  go_ret2
  exact ⟨v, ret_tup (c := .nilIface) (by rw [show (2 : Int) = ((2 : Nat) : Int) from rfl, eq_nat]; rfl), by
    have h := own_lower HO.out HB.out.size
    have e : (rolesP 8 m).1 = List.replicate 2 0 := rfl
    rw [e, List.length_replicate]; exact h, HB2.out⟩

set_option maxRecDepth 100000 in
set_option maxHeartbeats 2000000 in
theorem roles_9 (ln : Int) (s : ByteArray) (k n : Int) (t : ByteArray) (vv : Value) (sa : Option Addr) (m sc : Nat) (w : World) (hm : m ≤ 4096) :
    Calls Tryz.prog 150 #[.agg #[.int .i64 9, .int .i64 ln, .string s, .int .i64 k, .int .i64 n, .string t, vv, .slice sa m sc]] w (RolesOut w 9 m) := by
  obtain ⟨wa, hwa⟩ : ∃ wa, wa = w.alloc (.cells #[.int .i64 9, .int .i64 ln, .string s, .int .i64 k, .int .i64 n, .string t, vv, .slice sa m sc] 31) := ⟨_, rfl⟩
  have hb : Below w.heap.size w wa := by rw [hwa]; exact (Below.refl _ _).alloc (Nat.le_refl _) _
  have hN : NdB wa w.heap.size (.int .i64 9) (.int .i64 ln) (.string s) (.int .i64 k) (.int .i64 n) (.string t) vv (.slice sa m sc) := by rw [hwa]; exact NdB.new _ _ _ _ _ _ _ _ _
  have v0 := hN.c0; have v7 := hN.c7
  rw [hwa] at v0 v7
  have HB := Lib.hid hb
  have HWA := Lib.hid hwa
  clear hb hN hwa
  go_enter Tryz.func150, Tryz.ntmps150
  go_wp2_with fail
  rw [← HWA.out]
  refine (roll_c 0 2 wa (by decide) (by omega)).mono ?_
  rintro e w2 ⟨v, rfl, ho, hb2⟩
  have HO := Lib.hid ho
  have HB2 := Lib.hid (HB.out.trans (below_le' hb2 HB.out.size))
  clear ho hb2
  go_wp2_with fail
  go_ret2
  exact ⟨v, ret_tup (c := .nilIface) (by rw [show (2 : Int) = ((2 : Nat) : Int) from rfl, eq_nat]; rfl), by
    have h := own_lower HO.out HB.out.size
    have e : (rolesP 9 m).1 = List.replicate 2 0 := rfl
    rw [e, List.length_replicate]; exact h, HB2.out⟩

set_option maxRecDepth 100000 in
set_option maxHeartbeats 2000000 in
theorem roles_10 (ln : Int) (s : ByteArray) (k n : Int) (t : ByteArray) (vv : Value) (sa : Option Addr) (m sc : Nat) (w : World) (hm : m ≤ 4096) :
    Calls Tryz.prog 150 #[.agg #[.int .i64 10, .int .i64 ln, .string s, .int .i64 k, .int .i64 n, .string t, vv, .slice sa m sc]] w (RolesOut w 10 m) := by
  obtain ⟨wa, hwa⟩ : ∃ wa, wa = w.alloc (.cells #[.int .i64 10, .int .i64 ln, .string s, .int .i64 k, .int .i64 n, .string t, vv, .slice sa m sc] 31) := ⟨_, rfl⟩
  have hb : Below w.heap.size w wa := by rw [hwa]; exact (Below.refl _ _).alloc (Nat.le_refl _) _
  have hN : NdB wa w.heap.size (.int .i64 10) (.int .i64 ln) (.string s) (.int .i64 k) (.int .i64 n) (.string t) vv (.slice sa m sc) := by rw [hwa]; exact NdB.new _ _ _ _ _ _ _ _ _
  have v0 := hN.c0; have v7 := hN.c7
  rw [hwa] at v0 v7
  have HB := Lib.hid hb
  have HWA := Lib.hid hwa
  clear hb hN hwa
  go_enter Tryz.func150, Tryz.ntmps150
  go_wp2_with fail
  rw [← HWA.out]
  refine (roll_c 0 2 wa (by decide) (by omega)).mono ?_
  rintro e w2 ⟨v, rfl, ho, hb2⟩
  have HO := Lib.hid ho
  have HB2 := Lib.hid (HB.out.trans (below_le' hb2 HB.out.size))
  clear ho hb2
  go_wp2_with fail
  go_ret2
  exact ⟨v, ret_tup (c := .nilIface) (by rw [show (2 : Int) = ((2 : Nat) : Int) from rfl, eq_nat]; rfl), by
    have h := own_lower HO.out HB.out.size
    have e : (rolesP 10 m).1 = List.replicate 2 0 := rfl
    rw [e, List.length_replicate]; exact h, HB2.out⟩

set_option maxRecDepth 100000 in
set_option maxHeartbeats 2000000 in
theorem roles_11 (ln : Int) (s : ByteArray) (k n : Int) (t : ByteArray) (vv : Value) (sa : Option Addr) (m sc : Nat) (w : World) (hm : m ≤ 4096) :
    Calls Tryz.prog 150 #[.agg #[.int .i64 11, .int .i64 ln, .string s, .int .i64 k, .int .i64 n, .string t, vv, .slice sa m sc]] w (RolesOut w 11 m) := by
  obtain ⟨wa, hwa⟩ : ∃ wa, wa = w.alloc (.cells #[.int .i64 11, .int .i64 ln, .string s, .int .i64 k, .int .i64 n, .string t, vv, .slice sa m sc] 31) := ⟨_, rfl⟩
  have hb : Below w.heap.size w wa := by rw [hwa]; exact (Below.refl _ _).alloc (Nat.le_refl _) _
  have hN : NdB wa w.heap.size (.int .i64 11) (.int .i64 ln) (.string s) (.int .i64 k) (.int .i64 n) (.string t) vv (.slice sa m sc) := by rw [hwa]; exact NdB.new _ _ _ _ _ _ _ _ _
  have v0 := hN.c0; have v7 := hN.c7
  rw [hwa] at v0 v7
  have HB := Lib.hid hb
  have HWA := Lib.hid hwa
  clear hb hN hwa
  go_enter Tryz.func150, Tryz.ntmps150
  go_wp2_with fail
  rw [← HWA.out]
  refine (roll_c 0 2 wa (by decide) (by omega)).mono ?_
  rintro e w2 ⟨v, rfl, ho, hb2⟩
  have HO := Lib.hid ho
  have HB2 := Lib.hid (HB.out.trans (below_le' hb2 HB.out.size))
  clear ho hb2
  go_wp2_with fail
  go_ret2
  exact ⟨v, ret_tup (c := .nilIface) (by rw [show (2 : Int) = ((2 : Nat) : Int) from rfl, eq_nat]; rfl), by
    have h := own_lower HO.out HB.out.size
    have e : (rolesP 11 m).1 = List.replicate 2 0 := rfl
    rw [e, List.length_replicate]; exact h, HB2.out⟩

set_option maxRecDepth 100000 in
set_option maxHeartbeats 2000000 in
theorem roles_12 (ln : Int) (s : ByteArray) (k n : Int) (t : ByteArray) (vv : Value) (sa : Option Addr) (m sc : Nat) (w : World) (hm : m ≤ 4096) :
    Calls Tryz.prog 150 #[.agg #[.int .i64 12, .int .i64 ln, .string s, .int .i64 k, .int .i64 n, .string t, vv, .slice sa m sc]] w (RolesOut w 12 m) := by
  obtain ⟨wa, hwa⟩ : ∃ wa, wa = w.alloc (.cells #[.int .i64 12, .int .i64 ln, .string s, .int .i64 k, .int .i64 n, .string t, vv, .slice sa m sc] 31) := ⟨_, rfl⟩
  have hb : Below w.heap.size w wa := by rw [hwa]; exact (Below.refl _ _).alloc (Nat.le_refl _) _
  have hN : NdB wa w.heap.size (.int .i64 12) (.int .i64 ln) (.string s) (.int .i64 k) (.int .i64 n) (.string t) vv (.slice sa m sc) := by rw [hwa]; exact NdB.new _ _ _ _ _ _ _ _ _
  have v0 := hN.c0; have v7 := hN.c7
  rw [hwa] at v0 v7
  have HB := Lib.hid hb
  have HWA := Lib.hid hwa
  clear hb hN hwa
  go_enter Tryz.func150, Tryz.ntmps150
  go_wp2_with fail
  rw [← HWA.out]
  refine (roll_c 0 2 wa (by decide) (by omega)).mono ?_
  rintro e w2 ⟨v, rfl, ho, hb2⟩
  have HO := Lib.hid ho
  have HB2 := Lib.hid (HB.out.trans (below_le' hb2 HB.out.size))
  clear ho hb2
  go_wp2_with fail
  go_ret2
  exact ⟨v, ret_tup (c := .nilIface) (by rw [show (2 : Int) = ((2 : Nat) : Int) from rfl, eq_nat]; rfl), by
    have h := own_lower HO.out HB.out.size
    have e : (rolesP 12 m).1 = List.replicate 2 0 := rfl
    rw [e, List.length_replicate]; exact h, HB2.out⟩

set_option maxRecDepth 100000 in
set_option maxHeartbeats 2000000 in
theorem roles_13 (ln : Int) (s : ByteArray) (k n : Int) (t : ByteArray) (vv : Value) (sa : Option Addr) (m sc : Nat) (w : World) (hm : m ≤ 4096) :
    Calls Tryz.prog 150 #[.agg #[.int .i64 13, .int .i64 ln, .string s, .int .i64 k, .int .i64 n, .string t, vv, .slice sa m sc]] w (RolesOut w 13 m) := by
  obtain ⟨wa, hwa⟩ : ∃ wa, wa = w.alloc (.cells #[.int .i64 13, .int .i64 ln, .string s, .int .i64 k, .int .i64 n, .string t, vv, .slice sa m sc] 31) := ⟨_, rfl⟩
  have hb : Below w.heap.size w wa := by rw [hwa]; exact (Below.refl _ _).alloc (Nat.le_refl _) _
  have hN : NdB wa w.heap.size (.int .i64 13) (.int .i64 ln) (.string s) (.int .i64 k) (.int .i64 n) (.string t) vv (.slice sa m sc) := by rw [hwa]; exact NdB.new _ _ _ _ _ _ _ _ _
  have v0 := hN.c0; have v7 := hN.c7
  rw [hwa] at v0 v7
  have HB := Lib.hid hb
  have HWA := Lib.hid hwa
  clear hb hN hwa
  go_enter Tryz.func150, Tryz.ntmps150
  go_wp2_with fail
  rw [← HWA.out]
  refine (roll_c 0 2 wa (by decide) (by omega)).mono ?_
  rintro e w2 ⟨v, rfl, ho, hb2⟩
  have HO := Lib.hid ho
  have HB2 := Lib.hid (HB.out.trans (below_le' hb2 HB.out.size))
  clear ho hb2
  go_wp2_with fail
  go_ret2
  exact ⟨v, ret_tup (c := .nilIface) (by rw [show (2 : Int) = ((2 : Nat) : Int) from rfl, eq_nat]; rfl), by
    have h := own_lower HO.out HB.out.size
    have e : (rolesP 13 m).1 = List.replicate 2 0 := rfl
    rw [e, List.length_replicate]; exact h, HB2.out⟩

set_option maxRecDepth 100000 in
set_option maxHeartbeats 2000000 in
theorem roles_14 (ln : Int) (s : ByteArray) (k n : Int) (t : ByteArray) (vv : Value) (sa : Option Addr) (m sc : Nat) (w : World) (hm : m ≤ 4096) :
    Calls Tryz.prog 150 #[.agg #[.int .i64 14, .int .i64 ln, .string s, .int .i64 k, .int .i64 n, .string t, vv, .slice sa m sc]] w (RolesOut w 14 m) := by
  obtain ⟨wa, hwa⟩ : ∃ wa, wa = w.alloc (.cells #[.int .i64 14, .int .i64 ln, .string s, .int .i64 k, .int .i64 n, .string t, vv, .slice sa m sc] 31) := ⟨_, rfl⟩
  have hb : Below w.heap.size w wa := by rw [hwa]; exact (Below.refl _ _).alloc (Nat.le_refl _) _
  have hN : NdB wa w.heap.size (.int .i64 14) (.int .i64 ln) (.string s) (.int .i64 k) (.int .i64 n) (.string t) vv (.slice sa m sc) := by rw [hwa]; exact NdB.new _ _ _ _ _ _ _ _ _
  have v0 := hN.c0; have v7 := hN.c7
  rw [hwa] at v0 v7
  have HB := Lib.hid hb
  have HWA := Lib.hid hwa
  clear hb hN hwa
  go_enter Tryz.func150, Tryz.ntmps150
  go_wp2_with fail
  rw [← HWA.out]
  refine (roll_c 0 2 wa (by decide) (by omega)).mono ?_
  rintro e w2 ⟨v, rfl, ho, hb2⟩
  have HO := Lib.hid ho
  have HB2 := Lib.hid (HB.out.trans (below_le' hb2 HB.out.size))
  clear ho hb2
  go_wp2_with fail
  go_ret2
  exact ⟨v, ret_tup (c := .nilIface) (by rw [show (2 : Int) = ((2 : Nat) : Int) from rfl, eq_nat]; rfl), by
    have h := own_lower HO.out HB.out.size
    have e : (rolesP 14 m).1 = List.replicate 2 0 := rfl
    rw [e, List.length_replicate]; exact h, HB2.out⟩

set_option maxRecDepth 100000 in
set_option maxHeartbeats 2000000 in
theorem roles_15 (ln : Int) (s : ByteArray) (k n : Int) (t : ByteArray) (vv : Value) (sa : Option Addr) (m sc : Nat) (w : World) (hm : m ≤ 4096) :
    Calls Tryz.prog 150 #[.agg #[.int .i64 15, .int .i64 ln, .string s, .int .i64 k, .int .i64 n, .string t, vv, .slice sa m sc]] w (RolesOut w 15 m) := by
  obtain ⟨wa, hwa⟩ : ∃ wa, wa = w.alloc (.cells #[.int .i64 15, .int .i64 ln, .string s, .int .i64 k, .int .i64 n, .string t, vv, .slice sa m sc] 31) := ⟨_, rfl⟩
  have hb : Below w.heap.size w wa := by rw [hwa]; exact (Below.refl _ _).alloc (Nat.le_refl _) _
  have hN : NdB wa w.heap.size (.int .i64 15) (.int .i64 ln) (.string s) (.int .i64 k) (.int .i64 n) (.string t) vv (.slice sa m sc) := by rw [hwa]; exact NdB.new _ _ _ _ _ _ _ _ _
  have v0 := hN.c0; have v7 := hN.c7
  rw [hwa] at v0 v7
  have HB := Lib.hid hb
  have HWA := Lib.hid hwa
  clear hb hN hwa
  go_enter Tryz.func150, Tryz.ntmps150
  go_wp2_with fail
  rw [← HWA.out]
  refine (roll_c 0 2 wa (by decide) (by omega)).mono ?_
  rintro e w2 ⟨v, rfl, ho, hb2⟩
  have HO := Lib.hid ho
  have HB2 := Lib.hid (HB.out.trans (below_le' hb2 HB.out.size))
  clear ho hb2
  go_wp2_with fail
  go_ret2
  exact ⟨v, ret_tup (c := .nilIface) (by rw [show (2 : Int) = ((2 : Nat) : Int) from rfl, eq_nat]; rfl), by
    have h := own_lower HO.out HB.out.size
    have e : (rolesP 15 m).1 = List.replicate 2 0 := rfl
    rw [e, List.length_replicate]; exact h, HB2.out⟩

set_option maxRecDepth 100000 in
set_option maxHeartbeats 2000000 in
theorem roles_16 (ln : Int) (s : ByteArray) (k n : Int) (t : ByteArray) (vv : Value) (sa : Option Addr) (m sc : Nat) (w : World) (hm : m ≤ 4096) :
    Calls Tryz.prog 150 #[.agg #[.int .i64 16, .int .i64 ln, .string s, .int .i64 k, .int .i64 n, .string t, vv, .slice sa m sc]] w (RolesOut w 16 m) := by
  obtain ⟨wa, hwa⟩ : ∃ wa, wa = w.alloc (.cells #[.int .i64 16, .int .i64 ln, .string s, .int .i64 k, .int .i64 n, .string t, vv, .slice sa m sc] 31) := ⟨_, rfl⟩
  have hb : Below w.heap.size w wa := by rw [hwa]; exact (Below.refl _ _).alloc (Nat.le_refl _) _
  have hN : NdB wa w.heap.size (.int .i64 16) (.int .i64 ln) (.string s) (.int .i64 k) (.int .i64 n) (.string t) vv (.slice sa m sc) := by rw [hwa]; exact NdB.new _ _ _ _ _ _ _ _ _
  have v0 := hN.c0; have v7 := hN.c7
  rw [hwa] at v0 v7
  have HB := Lib.hid hb
  have HWA := Lib.hid hwa
  clear hb hN hwa
  go_enter Tryz.func150, Tryz.ntmps150
  go_wp2_with fail
  rw [← HWA.out]
  refine (roll_c 0 2 wa (by decide) (by omega)).mono ?_
  rintro e w2 ⟨v, rfl, ho, hb2⟩
  have HO := Lib.hid ho
  have HB2 := Lib.hid (HB.out.trans (below_le' hb2 HB.out.size))
  clear ho hb2
  go_wp2_with fail
  go_ret2
  exact ⟨v, ret_tup (c := .nilIface) (by rw [show (2 : Int) = ((2 : Nat) : Int) from rfl, eq_nat]; rfl), by
    have h := own_lower HO.out HB.out.size
    have e : (rolesP 16 m).1 = List.replicate 2 0 := rfl
    rw [e, List.length_replicate]; exact h, HB2.out⟩

set_option maxRecDepth 100000 in
set_option maxHeartbeats 2000000 in
theorem roles_17 (ln : Int) (s : ByteArray) (k n : Int) (t : ByteArray) (vv : Value) (sa : Option Addr) (m sc : Nat) (w : World) (hm : m ≤ 4096) :
    Calls Tryz.prog 150 #[.agg #[.int .i64 17, .int .i64 ln, .string s, .int .i64 k, .int .i64 n, .string t, vv, .slice sa m sc]] w (RolesOut w 17 m) := by
  obtain ⟨wa, hwa⟩ : ∃ wa, wa = w.alloc (.cells #[.int .i64 17, .int .i64 ln, .string s, .int .i64 k, .int .i64 n, .string t, vv, .slice sa m sc] 31) := ⟨_, rfl⟩
  have hb : Below w.heap.size w wa := by rw [hwa]; exact (Below.refl _ _).alloc (Nat.le_refl _) _
  have hN : NdB wa w.heap.size (.int .i64 17) (.int .i64 ln) (.string s) (.int .i64 k) (.int .i64 n) (.string t) vv (.slice sa m sc) := by rw [hwa]; exact NdB.new _ _ _ _ _ _ _ _ _
  have v0 := hN.c0; have v7 := hN.c7
  rw [hwa] at v0 v7
  have HB := Lib.hid hb
  have HWA := Lib.hid hwa
  clear hb hN hwa
  go_enter Tryz.func150, Tryz.ntmps150
  go_wp2_with fail
  rw [← HWA.out]
  refine (roll_c 0 2 wa (by decide) (by omega)).mono ?_
  rintro e w2 ⟨v, rfl, ho, hb2⟩
  have HO := Lib.hid ho
  have HB2 := Lib.hid (HB.out.trans (below_le' hb2 HB.out.size))
  clear ho hb2
  go_wp2_with fail
  go_ret2
  exact ⟨v, ret_tup (c := .nilIface) (by rw [show (2 : Int) = ((2 : Nat) : Int) from rfl, eq_nat]; rfl), by
    have h := own_lower HO.out HB.out.size
    have e : (rolesP 17 m).1 = List.replicate 2 0 := rfl
    rw [e, List.length_replicate]; exact h, HB2.out⟩

set_option maxRecDepth 100000 in
set_option maxHeartbeats 2000000 in
theorem roles_18 (ln : Int) (s : ByteArray) (k n : Int) (t : ByteArray) (vv : Value) (sa : Option Addr) (m sc : Nat) (w : World) (hm : m ≤ 4096) :
    Calls Tryz.prog 150 #[.agg #[.int .i64 18, .int .i64 ln, .string s, .int .i64 k, .int .i64 n, .string t, vv, .slice sa m sc]] w (RolesOut w 18 m) := by
  obtain ⟨wa, hwa⟩ : ∃ wa, wa = w.alloc (.cells #[.int .i64 18, .int .i64 ln, .string s, .int .i64 k, .int .i64 n, .string t, vv, .slice sa m sc] 31) := ⟨_, rfl⟩
  have hb : Below w.heap.size w wa := by rw [hwa]; exact (Below.refl _ _).alloc (Nat.le_refl _) _
  have hN : NdB wa w.heap.size (.int .i64 18) (.int .i64 ln) (.string s) (.int .i64 k) (.int .i64 n) (.string t) vv (.slice sa m sc) := by rw [hwa]; exact NdB.new _ _ _ _ _ _ _ _ _
  have v0 := hN.c0; have v7 := hN.c7
  rw [hwa] at v0 v7
  have HB := Lib.hid hb
  have HWA := Lib.hid hwa
  clear hb hN hwa
  go_enter Tryz.func150, Tryz.ntmps150
  go_wp2_with fail
  rw [← HWA.out]
  refine (roll_c 0 2 wa (by decide) (by omega)).mono ?_
  rintro e w2 ⟨v, rfl, ho, hb2⟩
  have HO := Lib.hid ho
  have HB2 := Lib.hid (HB.out.trans (below_le' hb2 HB.out.size))
  clear ho hb2
  go_wp2_with fail
  go_ret2
  exact ⟨v, ret_tup (c := .nilIface) (by rw [show (2 : Int) = ((2 : Nat) : Int) from rfl, eq_nat]; rfl), by
    have h := own_lower HO.out HB.out.size
    have e : (rolesP 18 m).1 = List.replicate 2 0 := rfl
    rw [e, List.length_replicate]; exact h, HB2.out⟩

set_option maxRecDepth 100000 in
set_option maxHeartbeats 2000000 in
theorem roles_20 (ln : Int) (s : ByteArray) (k n : Int) (t : ByteArray) (vv : Value) (sa : Option Addr) (m sc : Nat) (w : World) (hm : m ≤ 4096) :
    Calls Tryz.prog 150 #[.agg #[.int .i64 20, .int .i64 ln, .string s, .int .i64 k, .int .i64 n, .string t, vv, .slice sa m sc]] w (RolesOut w 20 m) := by
  obtain ⟨wa, hwa⟩ : ∃ wa, wa = w.alloc (.cells #[.int .i64 20, .int .i64 ln, .string s, .int .i64 k, .int .i64 n, .string t, vv, .slice sa m sc] 31) := ⟨_, rfl⟩
  have hb : Below w.heap.size w wa := by rw [hwa]; exact (Below.refl _ _).alloc (Nat.le_refl _) _
  have hN : NdB wa w.heap.size (.int .i64 20) (.int .i64 ln) (.string s) (.int .i64 k) (.int .i64 n) (.string t) vv (.slice sa m sc) := by rw [hwa]; exact NdB.new _ _ _ _ _ _ _ _ _
  have v0 := hN.c0; have v7 := hN.c7
  rw [hwa] at v0 v7
  have HB := Lib.hid hb
  have HWA := Lib.hid hwa
  clear hb hN hwa
  go_enter Tryz.func150, Tryz.ntmps150
  go_wp2_with fail
  rw [← HWA.out]
  refine (roll_c 0 2 wa (by decide) (by omega)).mono ?_
  rintro e w2 ⟨v, rfl, ho, hb2⟩
  have HO := Lib.hid ho
  have HB2 := Lib.hid (HB.out.trans (below_le' hb2 HB.out.size))
  clear ho hb2
  go_wp2_with fail
  go_ret2
  exact ⟨v, ret_tup (c := .nilIface) (by rw [show (2 : Int) = ((2 : Nat) : Int) from rfl, eq_nat]; rfl), by
    have h := own_lower HO.out HB.out.size
    have e : (rolesP 20 m).1 = List.replicate 2 0 := rfl
    rw [e, List.length_replicate]; exact h, HB2.out⟩

set_option maxRecDepth 100000 in
set_option maxHeartbeats 2000000 in
theorem roles_22 (ln : Int) (s : ByteArray) (k n : Int) (t : ByteArray) (vv : Value) (sa : Option Addr) (m sc : Nat) (w : World) (hm : m ≤ 4096) :
    Calls Tryz.prog 150 #[.agg #[.int .i64 22, .int .i64 ln, .string s, .int .i64 k, .int .i64 n, .string t, vv, .slice sa m sc]] w (RolesOut w 22 m) := by
  obtain ⟨wa, hwa⟩ : ∃ wa, wa = w.alloc (.cells #[.int .i64 22, .int .i64 ln, .string s, .int .i64 k, .int .i64 n, .string t, vv, .slice sa m sc] 31) := ⟨_, rfl⟩
  have hb : Below w.heap.size w wa := by rw [hwa]; exact (Below.refl _ _).alloc (Nat.le_refl _) _
  have hN : NdB wa w.heap.size (.int .i64 22) (.int .i64 ln) (.string s) (.int .i64 k) (.int .i64 n) (.string t) vv (.slice sa m sc) := by rw [hwa]; exact NdB.new _ _ _ _ _ _ _ _ _
  have v0 := hN.c0; have v7 := hN.c7
  rw [hwa] at v0 v7
  have HB := Lib.hid hb
  have HWA := Lib.hid hwa
  clear hb hN hwa
  go_enter Tryz.func150, Tryz.ntmps150
  go_wp2_with fail
  rw [← HWA.out]
  refine (roll_c 0 2 wa (by decide) (by omega)).mono ?_
  rintro e w2 ⟨v, rfl, ho, hb2⟩
  have HO := Lib.hid ho
  have HB2 := Lib.hid (HB.out.trans (below_le' hb2 HB.out.size))
  clear ho hb2
  go_wp2_with fail
  go_ret2
  exact ⟨v, ret_tup (c := .nilIface) (by rw [show (2 : Int) = ((2 : Nat) : Int) from rfl, eq_nat]; rfl), by
    have h := own_lower HO.out HB.out.size
    have e : (rolesP 22 m).1 = List.replicate 2 0 := rfl
    rw [e, List.length_replicate]; exact h, HB2.out⟩
end Go.Proofs.YtggngahmafbihaaGreatDoor
