/-
  val's own: what is amiss with what a value itself has.
-/
import Derived.Test.YtoemnccklakkeaaDoorRdK
namespace Go.Proofs.YtoemnccklakkeaaDoor
open Go.RowKit Go.Lib
set_option linter.unusedVariables false

/-- An error of package api by its number (0: none), the errors' places given. -/
def errV (ea : Nat → Addr) (c : Nat) : Value := if c = 0 then .nilIface else .iface 142 (.pointer (some (ea c)))
/-- The errors lie where they are told to. -/
structure ErrsAt (w : World) (ea : Nat → Addr) : Prop where
  syn : w.cell? ⟨0, 0, none⟩ = some (.iface 142 (.pointer (some (ea 111))))
  deep : w.cell? ⟨1, 0, none⟩ = some (.iface 142 (.pointer (some (ea 112))))
  many : w.cell? ⟨2, 0, none⟩ = some (.iface 142 (.pointer (some (ea 104))))
  range : w.cell? ⟨6, 0, none⟩ = some (.iface 142 (.pointer (some (ea 105))))
  shape : w.cell? ⟨7, 0, none⟩ = some (.iface 142 (.pointer (some (ea 103))))
  room : 24 < w.heap.size

theorem ErrsAt.keep {w w' : World} {ea : Nat → Addr} (h : ErrsAt w ea) (hb : ∀ b, b < 24 → w'.heap[b]? = w.heap[b]?) (hz : w.heap.size ≤ w'.heap.size) : ErrsAt w' ea :=
  have hk : ∀ p : Addr, p.block < 24 → w'.cell? p = w.cell? p := fun p hp => World.cell?_of_block (w := w) (hb p.block hp)
  ⟨(hk _ (by decide)).trans h.syn, (hk _ (by decide)).trans h.deep, (hk _ (by decide)).trans h.many, (hk _ (by decide)).trans h.range, (hk _ (by decide)).trans h.shape, by have := h.room; omega⟩
theorem ErrsAt.below {w w' : World} {ea : Nat → Addr} {B : Nat} (h : ErrsAt w ea) (hb : Below B w w') (hB : 24 ≤ B) : ErrsAt w' ea := h.keep (fun b hlt => hb.block b (by omega)) hb.size

/-- What is amiss with what a value itself has. -/
def ownE (k n : Int) (s : ByteArray) (len : Nat) : Nat :=
  if k < 0 ∨ 4 < k then 105
  else if k = 1 ∧ (n < -2147483648 ∨ 2147483647 < n) then 105
  else if k = 3 ∧ (n < 0 ∨ 14 < n) then 105
  else if (k ≠ 2 ∧ s.data.toList ≠ []) ∨ (k ≠ 4 ∧ 0 < len) ∨ ((k = 2 ∨ k = 4) ∧ n ≠ 0) then 103
  else if prB s.data.toList = false then 103
  else 0

set_option maxHeartbeats 2000000 in
theorem own_lo (n : Int) (s : ByteArray) (sa : Option Addr) (len sc : Nat) (ea : Nat → Addr) (w : World) (he : ErrsAt w ea) (k : Int) (hk : k < 0) :
    Calls Tryd.prog 88 #[.agg #[.int .i64 k, .int .i64 n, .string s, .slice sa len sc]] w fun e w' => e = .returned (errV ea 105) ∧ Below w.heap.size w w' := by
  have hb : Below w.heap.size w (w.alloc (.cells #[.int .i64 k, .int .i64 n, .string s, .slice sa len sc] 31)) := (Below.refl _ _).alloc (Nat.le_refl _) _
  have he2 := he.below hb (Nat.le_of_lt he.room)
  have r := he2.range
  have sh := he2.shape
  have HB := Lib.hid hb
  clear hb he2 he
  go_enter Tryd.func88, Tryd.ntmps88
  go_wp2_with fail
  go_ret
  exact ⟨rfl, HB.out⟩

set_option maxHeartbeats 2000000 in
theorem own_hi (n : Int) (s : ByteArray) (sa : Option Addr) (len sc : Nat) (ea : Nat → Addr) (w : World) (he : ErrsAt w ea) (k : Int) (hk : 4 < k) :
    Calls Tryd.prog 88 #[.agg #[.int .i64 k, .int .i64 n, .string s, .slice sa len sc]] w fun e w' => e = .returned (errV ea 105) ∧ Below w.heap.size w w' := by
  have hb : Below w.heap.size w (w.alloc (.cells #[.int .i64 k, .int .i64 n, .string s, .slice sa len sc] 31)) := (Below.refl _ _).alloc (Nat.le_refl _) _
  have he2 := he.below hb (Nat.le_of_lt he.room)
  have r := he2.range
  have sh := he2.shape
  have HB := Lib.hid hb
  clear hb he2 he
  have hk0 : 0 ≤ k := by omega
  go_enter Tryd.func88, Tryd.ntmps88
  go_wp2_with fail
  go_ret
  exact ⟨rfl, HB.out⟩

set_option maxHeartbeats 2000000 in
theorem own_1lo (n : Int) (s : ByteArray) (sa : Option Addr) (len sc : Nat) (ea : Nat → Addr) (w : World) (he : ErrsAt w ea) (hn : n < -2147483648) :
    Calls Tryd.prog 88 #[.agg #[.int .i64 1, .int .i64 n, .string s, .slice sa len sc]] w fun e w' => e = .returned (errV ea 105) ∧ Below w.heap.size w w' := by
  have hb : Below w.heap.size w (w.alloc (.cells #[.int .i64 1, .int .i64 n, .string s, .slice sa len sc] 31)) := (Below.refl _ _).alloc (Nat.le_refl _) _
  have he2 := he.below hb (Nat.le_of_lt he.room)
  have r := he2.range
  have sh := he2.shape
  have HB := Lib.hid hb
  clear hb he2 he
  go_enter Tryd.func88, Tryd.ntmps88
  go_wp2_with fail
  go_ret
  exact ⟨rfl, HB.out⟩

set_option maxHeartbeats 2000000 in
theorem own_1hi (n : Int) (s : ByteArray) (sa : Option Addr) (len sc : Nat) (ea : Nat → Addr) (w : World) (he : ErrsAt w ea) (hn : 2147483647 < n) :
    Calls Tryd.prog 88 #[.agg #[.int .i64 1, .int .i64 n, .string s, .slice sa len sc]] w fun e w' => e = .returned (errV ea 105) ∧ Below w.heap.size w w' := by
  have hb : Below w.heap.size w (w.alloc (.cells #[.int .i64 1, .int .i64 n, .string s, .slice sa len sc] 31)) := (Below.refl _ _).alloc (Nat.le_refl _) _
  have he2 := he.below hb (Nat.le_of_lt he.room)
  have r := he2.range
  have sh := he2.shape
  have HB := Lib.hid hb
  clear hb he2 he
  have hn0 : -2147483648 ≤ n := by omega
  go_enter Tryd.func88, Tryd.ntmps88
  go_wp2_with fail
  go_ret
  exact ⟨rfl, HB.out⟩

set_option maxHeartbeats 2000000 in
theorem own_3lo (n : Int) (s : ByteArray) (sa : Option Addr) (len sc : Nat) (ea : Nat → Addr) (w : World) (he : ErrsAt w ea) (hn : n < 0) :
    Calls Tryd.prog 88 #[.agg #[.int .i64 3, .int .i64 n, .string s, .slice sa len sc]] w fun e w' => e = .returned (errV ea 105) ∧ Below w.heap.size w w' := by
  have hb : Below w.heap.size w (w.alloc (.cells #[.int .i64 3, .int .i64 n, .string s, .slice sa len sc] 31)) := (Below.refl _ _).alloc (Nat.le_refl _) _
  have he2 := he.below hb (Nat.le_of_lt he.room)
  have r := he2.range
  have sh := he2.shape
  have HB := Lib.hid hb
  clear hb he2 he
  go_enter Tryd.func88, Tryd.ntmps88
  go_wp2_with fail
  go_ret
  exact ⟨rfl, HB.out⟩

set_option maxHeartbeats 2000000 in
theorem own_3hi (n : Int) (s : ByteArray) (sa : Option Addr) (len sc : Nat) (ea : Nat → Addr) (w : World) (he : ErrsAt w ea) (hn : 14 < n) :
    Calls Tryd.prog 88 #[.agg #[.int .i64 3, .int .i64 n, .string s, .slice sa len sc]] w fun e w' => e = .returned (errV ea 105) ∧ Below w.heap.size w w' := by
  have hb : Below w.heap.size w (w.alloc (.cells #[.int .i64 3, .int .i64 n, .string s, .slice sa len sc] 31)) := (Below.refl _ _).alloc (Nat.le_refl _) _
  have he2 := he.below hb (Nat.le_of_lt he.room)
  have r := he2.range
  have sh := he2.shape
  have HB := Lib.hid hb
  clear hb he2 he
  have hn0 : 0 ≤ n := by omega
  go_enter Tryd.func88, Tryd.ntmps88
  go_wp2_with fail
  go_ret
  exact ⟨rfl, HB.out⟩

set_option maxHeartbeats 2000000 in
theorem own_0s (n : Int) (s : ByteArray) (sa : Option Addr) (len sc : Nat) (ea : Nat → Addr) (w : World) (he : ErrsAt w ea) (hs0 : s.toList.isEmpty = false) (hs1 : ¬s.toList = []) :
    Calls Tryd.prog 88 #[.agg #[.int .i64 0, .int .i64 n, .string s, .slice sa len sc]] w fun e w' => e = .returned (errV ea 103) ∧ Below w.heap.size w w' := by
  have hb : Below w.heap.size w (w.alloc (.cells #[.int .i64 0, .int .i64 n, .string s, .slice sa len sc] 31)) := (Below.refl _ _).alloc (Nat.le_refl _) _
  have he2 := he.below hb (Nat.le_of_lt he.room)
  have r := he2.range
  have sh := he2.shape
  have HB := Lib.hid hb
  clear hb he2 he
  go_enter Tryd.func88, Tryd.ntmps88
  go_wp2_with fail
  go_ret
  exact ⟨rfl, HB.out⟩

set_option maxHeartbeats 2000000 in
theorem own_0l (n : Int) (s : ByteArray) (sa : Option Addr) (len sc : Nat) (ea : Nat → Addr) (w : World) (he : ErrsAt w ea) (hs0 : s.toList.isEmpty = true) (hs1 : s.toList = []) (hl : 0 < len) :
    Calls Tryd.prog 88 #[.agg #[.int .i64 0, .int .i64 n, .string s, .slice sa len sc]] w fun e w' => e = .returned (errV ea 103) ∧ Below w.heap.size w w' := by
  have hb : Below w.heap.size w (w.alloc (.cells #[.int .i64 0, .int .i64 n, .string s, .slice sa len sc] 31)) := (Below.refl _ _).alloc (Nat.le_refl _) _
  have he2 := he.below hb (Nat.le_of_lt he.room)
  have r := he2.range
  have sh := he2.shape
  have HB := Lib.hid hb
  clear hb he2 he
  have hl' : (0 : Int) < (len : Int) := by omega
  go_enter Tryd.func88, Tryd.ntmps88
  go_wp2_with fail
  go_ret
  exact ⟨rfl, HB.out⟩

set_option maxHeartbeats 2000000 in
theorem own_0ok (n : Int) (s : ByteArray) (sa : Option Addr) (len sc : Nat) (ea : Nat → Addr) (w : World) (he : ErrsAt w ea) (hs0 : s.toList.isEmpty = true) (hs1 : s.toList = []) (hs : s.size ≤ 140737488351232) (hp : prB s.data.toList = true) :
    Calls Tryd.prog 88 #[.agg #[.int .i64 0, .int .i64 n, .string s, .slice sa 0 sc]] w fun e w' => e = .returned (errV ea 0) ∧ Below w.heap.size w w' := by
  have hb : Below w.heap.size w (w.alloc (.cells #[.int .i64 0, .int .i64 n, .string s, .slice sa 0 sc] 31)) := (Below.refl _ _).alloc (Nat.le_refl _) _
  have he2 := he.below hb (Nat.le_of_lt he.room)
  have r := he2.range
  have sh := he2.shape
  have HB := Lib.hid hb
  clear hb he2 he
  have HP := Lib.hid (show ∀ W, Calls Tryd.prog 87 #[.string s] W fun e w' => e = .returned (.bool true) ∧ W = w' from fun W => by
    have := printable_c s W hs
    rw [hp] at this
    exact this)
  clear hp hs
  go_enter Tryd.func88, Tryd.ntmps88
  go_wp2_with fail
  refine (HP.out _).mono ?_
  rintro e w' ⟨rfl, rfl⟩
  go_wp2_with fail
  go_ret
  exact ⟨rfl, HB.out⟩

set_option maxHeartbeats 2000000 in
theorem own_1s (n : Int) (s : ByteArray) (sa : Option Addr) (len sc : Nat) (ea : Nat → Addr) (w : World) (he : ErrsAt w ea) (hn1 : -2147483648 ≤ n) (hn2 : n ≤ 2147483647) (hs0 : s.toList.isEmpty = false) (hs1 : ¬s.toList = []) :
    Calls Tryd.prog 88 #[.agg #[.int .i64 1, .int .i64 n, .string s, .slice sa len sc]] w fun e w' => e = .returned (errV ea 103) ∧ Below w.heap.size w w' := by
  have hb : Below w.heap.size w (w.alloc (.cells #[.int .i64 1, .int .i64 n, .string s, .slice sa len sc] 31)) := (Below.refl _ _).alloc (Nat.le_refl _) _
  have he2 := he.below hb (Nat.le_of_lt he.room)
  have r := he2.range
  have sh := he2.shape
  have HB := Lib.hid hb
  clear hb he2 he
  go_enter Tryd.func88, Tryd.ntmps88
  go_wp2_with fail
  go_ret
  exact ⟨rfl, HB.out⟩

set_option maxHeartbeats 2000000 in
theorem own_1l (n : Int) (s : ByteArray) (sa : Option Addr) (len sc : Nat) (ea : Nat → Addr) (w : World) (he : ErrsAt w ea) (hn1 : -2147483648 ≤ n) (hn2 : n ≤ 2147483647) (hs0 : s.toList.isEmpty = true) (hs1 : s.toList = []) (hl : 0 < len) :
    Calls Tryd.prog 88 #[.agg #[.int .i64 1, .int .i64 n, .string s, .slice sa len sc]] w fun e w' => e = .returned (errV ea 103) ∧ Below w.heap.size w w' := by
  have hb : Below w.heap.size w (w.alloc (.cells #[.int .i64 1, .int .i64 n, .string s, .slice sa len sc] 31)) := (Below.refl _ _).alloc (Nat.le_refl _) _
  have he2 := he.below hb (Nat.le_of_lt he.room)
  have r := he2.range
  have sh := he2.shape
  have HB := Lib.hid hb
  clear hb he2 he
  have hl' : (0 : Int) < (len : Int) := by omega
  go_enter Tryd.func88, Tryd.ntmps88
  go_wp2_with fail
  go_ret
  exact ⟨rfl, HB.out⟩

set_option maxHeartbeats 2000000 in
theorem own_1ok (n : Int) (s : ByteArray) (sa : Option Addr) (len sc : Nat) (ea : Nat → Addr) (w : World) (he : ErrsAt w ea) (hn1 : -2147483648 ≤ n) (hn2 : n ≤ 2147483647) (hs0 : s.toList.isEmpty = true) (hs1 : s.toList = []) (hs : s.size ≤ 140737488351232) (hp : prB s.data.toList = true) :
    Calls Tryd.prog 88 #[.agg #[.int .i64 1, .int .i64 n, .string s, .slice sa 0 sc]] w fun e w' => e = .returned (errV ea 0) ∧ Below w.heap.size w w' := by
  have hb : Below w.heap.size w (w.alloc (.cells #[.int .i64 1, .int .i64 n, .string s, .slice sa 0 sc] 31)) := (Below.refl _ _).alloc (Nat.le_refl _) _
  have he2 := he.below hb (Nat.le_of_lt he.room)
  have r := he2.range
  have sh := he2.shape
  have HB := Lib.hid hb
  clear hb he2 he
  have HP := Lib.hid (show ∀ W, Calls Tryd.prog 87 #[.string s] W fun e w' => e = .returned (.bool true) ∧ W = w' from fun W => by
    have := printable_c s W hs
    rw [hp] at this
    exact this)
  clear hp hs
  go_enter Tryd.func88, Tryd.ntmps88
  go_wp2_with fail
  refine (HP.out _).mono ?_
  rintro e w' ⟨rfl, rfl⟩
  go_wp2_with fail
  go_ret
  exact ⟨rfl, HB.out⟩

set_option maxHeartbeats 2000000 in
theorem own_3s (n : Int) (s : ByteArray) (sa : Option Addr) (len sc : Nat) (ea : Nat → Addr) (w : World) (he : ErrsAt w ea) (hn1 : 0 ≤ n) (hn2 : n ≤ 14) (hs0 : s.toList.isEmpty = false) (hs1 : ¬s.toList = []) :
    Calls Tryd.prog 88 #[.agg #[.int .i64 3, .int .i64 n, .string s, .slice sa len sc]] w fun e w' => e = .returned (errV ea 103) ∧ Below w.heap.size w w' := by
  have hb : Below w.heap.size w (w.alloc (.cells #[.int .i64 3, .int .i64 n, .string s, .slice sa len sc] 31)) := (Below.refl _ _).alloc (Nat.le_refl _) _
  have he2 := he.below hb (Nat.le_of_lt he.room)
  have r := he2.range
  have sh := he2.shape
  have HB := Lib.hid hb
  clear hb he2 he
  go_enter Tryd.func88, Tryd.ntmps88
  go_wp2_with fail
  go_ret
  exact ⟨rfl, HB.out⟩

set_option maxHeartbeats 2000000 in
theorem own_3l (n : Int) (s : ByteArray) (sa : Option Addr) (len sc : Nat) (ea : Nat → Addr) (w : World) (he : ErrsAt w ea) (hn1 : 0 ≤ n) (hn2 : n ≤ 14) (hs0 : s.toList.isEmpty = true) (hs1 : s.toList = []) (hl : 0 < len) :
    Calls Tryd.prog 88 #[.agg #[.int .i64 3, .int .i64 n, .string s, .slice sa len sc]] w fun e w' => e = .returned (errV ea 103) ∧ Below w.heap.size w w' := by
  have hb : Below w.heap.size w (w.alloc (.cells #[.int .i64 3, .int .i64 n, .string s, .slice sa len sc] 31)) := (Below.refl _ _).alloc (Nat.le_refl _) _
  have he2 := he.below hb (Nat.le_of_lt he.room)
  have r := he2.range
  have sh := he2.shape
  have HB := Lib.hid hb
  clear hb he2 he
  have hl' : (0 : Int) < (len : Int) := by omega
  go_enter Tryd.func88, Tryd.ntmps88
  go_wp2_with fail
  go_ret
  exact ⟨rfl, HB.out⟩

set_option maxHeartbeats 2000000 in
theorem own_3ok (n : Int) (s : ByteArray) (sa : Option Addr) (len sc : Nat) (ea : Nat → Addr) (w : World) (he : ErrsAt w ea) (hn1 : 0 ≤ n) (hn2 : n ≤ 14) (hs0 : s.toList.isEmpty = true) (hs1 : s.toList = []) (hs : s.size ≤ 140737488351232) (hp : prB s.data.toList = true) :
    Calls Tryd.prog 88 #[.agg #[.int .i64 3, .int .i64 n, .string s, .slice sa 0 sc]] w fun e w' => e = .returned (errV ea 0) ∧ Below w.heap.size w w' := by
  have hb : Below w.heap.size w (w.alloc (.cells #[.int .i64 3, .int .i64 n, .string s, .slice sa 0 sc] 31)) := (Below.refl _ _).alloc (Nat.le_refl _) _
  have he2 := he.below hb (Nat.le_of_lt he.room)
  have r := he2.range
  have sh := he2.shape
  have HB := Lib.hid hb
  clear hb he2 he
  have HP := Lib.hid (show ∀ W, Calls Tryd.prog 87 #[.string s] W fun e w' => e = .returned (.bool true) ∧ W = w' from fun W => by
    have := printable_c s W hs
    rw [hp] at this
    exact this)
  clear hp hs
  go_enter Tryd.func88, Tryd.ntmps88
  go_wp2_with fail
  refine (HP.out _).mono ?_
  rintro e w' ⟨rfl, rfl⟩
  go_wp2_with fail
  go_ret
  exact ⟨rfl, HB.out⟩

set_option maxHeartbeats 2000000 in
theorem own_2l (n : Int) (s : ByteArray) (sa : Option Addr) (len sc : Nat) (ea : Nat → Addr) (w : World) (he : ErrsAt w ea) (hl : 0 < len) :
    Calls Tryd.prog 88 #[.agg #[.int .i64 2, .int .i64 n, .string s, .slice sa len sc]] w fun e w' => e = .returned (errV ea 103) ∧ Below w.heap.size w w' := by
  have hb : Below w.heap.size w (w.alloc (.cells #[.int .i64 2, .int .i64 n, .string s, .slice sa len sc] 31)) := (Below.refl _ _).alloc (Nat.le_refl _) _
  have he2 := he.below hb (Nat.le_of_lt he.room)
  have r := he2.range
  have sh := he2.shape
  have HB := Lib.hid hb
  clear hb he2 he
  have hl' : (0 : Int) < (len : Int) := by omega
  go_enter Tryd.func88, Tryd.ntmps88
  go_wp2_with fail
  go_ret
  exact ⟨rfl, HB.out⟩

set_option maxHeartbeats 2000000 in
theorem own_2n (n : Int) (s : ByteArray) (sa : Option Addr) (len sc : Nat) (ea : Nat → Addr) (w : World) (he : ErrsAt w ea) (hn : (n != 0) = true) (hn' : (n == 0) = false) :
    Calls Tryd.prog 88 #[.agg #[.int .i64 2, .int .i64 n, .string s, .slice sa 0 sc]] w fun e w' => e = .returned (errV ea 103) ∧ Below w.heap.size w w' := by
  have hb : Below w.heap.size w (w.alloc (.cells #[.int .i64 2, .int .i64 n, .string s, .slice sa 0 sc] 31)) := (Below.refl _ _).alloc (Nat.le_refl _) _
  have he2 := he.below hb (Nat.le_of_lt he.room)
  have r := he2.range
  have sh := he2.shape
  have HB := Lib.hid hb
  clear hb he2 he
  go_enter Tryd.func88, Tryd.ntmps88
  go_wp2_with fail
  go_ret
  exact ⟨rfl, HB.out⟩

set_option maxHeartbeats 2000000 in
theorem own_2p (n : Int) (s : ByteArray) (sa : Option Addr) (len sc : Nat) (ea : Nat → Addr) (w : World) (he : ErrsAt w ea) (hs : s.size ≤ 140737488351232) (hp : prB s.data.toList = false) :
    Calls Tryd.prog 88 #[.agg #[.int .i64 2, .int .i64 0, .string s, .slice sa 0 sc]] w fun e w' => e = .returned (errV ea 103) ∧ Below w.heap.size w w' := by
  have hb : Below w.heap.size w (w.alloc (.cells #[.int .i64 2, .int .i64 0, .string s, .slice sa 0 sc] 31)) := (Below.refl _ _).alloc (Nat.le_refl _) _
  have he2 := he.below hb (Nat.le_of_lt he.room)
  have r := he2.range
  have sh := he2.shape
  have HB := Lib.hid hb
  clear hb he2 he
  have hn : ((0 : Int) != 0) = false := rfl
  have HP := Lib.hid (show ∀ W, Calls Tryd.prog 87 #[.string s] W fun e w' => e = .returned (.bool false) ∧ W = w' from fun W => by
    have := printable_c s W hs
    rw [hp] at this
    exact this)
  clear hp hs
  go_enter Tryd.func88, Tryd.ntmps88
  go_wp2_with fail
  refine (HP.out _).mono ?_
  rintro e w' ⟨rfl, rfl⟩
  go_wp2_with fail
  go_ret
  exact ⟨rfl, HB.out⟩

set_option maxHeartbeats 2000000 in
theorem own_2ok (n : Int) (s : ByteArray) (sa : Option Addr) (len sc : Nat) (ea : Nat → Addr) (w : World) (he : ErrsAt w ea) (hs : s.size ≤ 140737488351232) (hp : prB s.data.toList = true) :
    Calls Tryd.prog 88 #[.agg #[.int .i64 2, .int .i64 0, .string s, .slice sa 0 sc]] w fun e w' => e = .returned (errV ea 0) ∧ Below w.heap.size w w' := by
  have hb : Below w.heap.size w (w.alloc (.cells #[.int .i64 2, .int .i64 0, .string s, .slice sa 0 sc] 31)) := (Below.refl _ _).alloc (Nat.le_refl _) _
  have he2 := he.below hb (Nat.le_of_lt he.room)
  have r := he2.range
  have sh := he2.shape
  have HB := Lib.hid hb
  clear hb he2 he
  have hn : ((0 : Int) != 0) = false := rfl
  have HP := Lib.hid (show ∀ W, Calls Tryd.prog 87 #[.string s] W fun e w' => e = .returned (.bool true) ∧ W = w' from fun W => by
    have := printable_c s W hs
    rw [hp] at this
    exact this)
  clear hp hs
  go_enter Tryd.func88, Tryd.ntmps88
  go_wp2_with fail
  refine (HP.out _).mono ?_
  rintro e w' ⟨rfl, rfl⟩
  go_wp2_with fail
  go_ret
  exact ⟨rfl, HB.out⟩

set_option maxHeartbeats 2000000 in
theorem own_4s (n : Int) (s : ByteArray) (sa : Option Addr) (len sc : Nat) (ea : Nat → Addr) (w : World) (he : ErrsAt w ea) (hs0 : s.toList.isEmpty = false) (hs1 : ¬s.toList = []) :
    Calls Tryd.prog 88 #[.agg #[.int .i64 4, .int .i64 n, .string s, .slice sa len sc]] w fun e w' => e = .returned (errV ea 103) ∧ Below w.heap.size w w' := by
  have hb : Below w.heap.size w (w.alloc (.cells #[.int .i64 4, .int .i64 n, .string s, .slice sa len sc] 31)) := (Below.refl _ _).alloc (Nat.le_refl _) _
  have he2 := he.below hb (Nat.le_of_lt he.room)
  have r := he2.range
  have sh := he2.shape
  have HB := Lib.hid hb
  clear hb he2 he
  go_enter Tryd.func88, Tryd.ntmps88
  go_wp2_with fail
  go_ret
  exact ⟨rfl, HB.out⟩

set_option maxHeartbeats 2000000 in
theorem own_4n (n : Int) (s : ByteArray) (sa : Option Addr) (len sc : Nat) (ea : Nat → Addr) (w : World) (he : ErrsAt w ea) (hs0 : s.toList.isEmpty = true) (hs1 : s.toList = []) (hn : (n != 0) = true) (hn' : (n == 0) = false) :
    Calls Tryd.prog 88 #[.agg #[.int .i64 4, .int .i64 n, .string s, .slice sa len sc]] w fun e w' => e = .returned (errV ea 103) ∧ Below w.heap.size w w' := by
  have hb : Below w.heap.size w (w.alloc (.cells #[.int .i64 4, .int .i64 n, .string s, .slice sa len sc] 31)) := (Below.refl _ _).alloc (Nat.le_refl _) _
  have he2 := he.below hb (Nat.le_of_lt he.room)
  have r := he2.range
  have sh := he2.shape
  have HB := Lib.hid hb
  clear hb he2 he
  go_enter Tryd.func88, Tryd.ntmps88
  go_wp2_with fail
  go_ret
  exact ⟨rfl, HB.out⟩

set_option maxHeartbeats 2000000 in
theorem own_4ok (n : Int) (s : ByteArray) (sa : Option Addr) (len sc : Nat) (ea : Nat → Addr) (w : World) (he : ErrsAt w ea) (hs0 : s.toList.isEmpty = true) (hs1 : s.toList = []) (hs : s.size ≤ 140737488351232) (hp : prB s.data.toList = true) :
    Calls Tryd.prog 88 #[.agg #[.int .i64 4, .int .i64 0, .string s, .slice sa len sc]] w fun e w' => e = .returned (errV ea 0) ∧ Below w.heap.size w w' := by
  have hb : Below w.heap.size w (w.alloc (.cells #[.int .i64 4, .int .i64 0, .string s, .slice sa len sc] 31)) := (Below.refl _ _).alloc (Nat.le_refl _) _
  have he2 := he.below hb (Nat.le_of_lt he.room)
  have r := he2.range
  have sh := he2.shape
  have HB := Lib.hid hb
  clear hb he2 he
  have HP := Lib.hid (show ∀ W, Calls Tryd.prog 87 #[.string s] W fun e w' => e = .returned (.bool true) ∧ W = w' from fun W => by
    have := printable_c s W hs
    rw [hp] at this
    exact this)
  clear hp hs
  go_enter Tryd.func88, Tryd.ntmps88
  go_wp2_with fail
  refine (HP.out _).mono ?_
  rintro e w' ⟨rfl, rfl⟩
  go_wp2_with fail
  go_ret
  exact ⟨rfl, HB.out⟩

end Go.Proofs.YtoemnccklakkeaaDoor
