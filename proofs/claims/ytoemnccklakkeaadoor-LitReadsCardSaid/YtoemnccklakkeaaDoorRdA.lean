/-
  lit's reader, its small steps: peek, take, digit.
-/
import Derived.Test.YtoemnccklakkeaaDoorProg
import Derived.Test.YtoemnccklakkeaaDoorVl
import Derived.WalkKit
import Derived.WalkSpells
import Derived.Lib.Hide
import Derived.BigQuiet
import Derived.Deep.QuietTactic
import Derived.RegionTactic
import Derived.BigRegion
import Derived.Outline
import Derived.Deep.LoopGhost
namespace Go.Proofs.YtoemnccklakkeaaDoor
open Go.RowKit Go.Lib

theorem ret_bool {a b : Bool} (h : a = b) : Ending.returned (.bool a) = .returned (.bool b) := by rw [h]
theorem ret_int {k : IntKind} {a b : Int} (h : a = b) : Ending.returned (.int k a) = .returned (.int k b) := by rw [h]

/-- The reader at block R: its text, its place, whether all is right. -/
def RdAt (w : World) (R : Nat) (s : ByteArray) (i : Nat) (ok : Bool) : Prop :=
  w.heap[R]? = some (.cells #[.string s, .int .i64 i, .bool ok] 64 (0, 0))

section
variable {w w' : World} {R : Nat} {s : ByteArray} {i : Nat} {ok : Bool}
theorem RdAt.lt (h : RdAt w R s i ok) : R < w.heap.size := by
  rcases Nat.lt_or_ge R w.heap.size with hlt | hge
  · exact hlt
  · unfold RdAt at h; rw [Array.getElem?_eq_none hge] at h; cases h
theorem RdAt.c0 (h : RdAt w R s i ok) : w.cell? ⟨R, 0, none⟩ = some (.string s) := cell_of_row w R 0 _ _ _ h
theorem RdAt.c1 (h : RdAt w R s i ok) : w.cell? ⟨R, 1, none⟩ = some (.int .i64 i) := cell_of_row w R 1 _ _ _ h
theorem RdAt.c2 (h : RdAt w R s i ok) : w.cell? ⟨R, 2, none⟩ = some (.bool ok) := cell_of_row w R 2 _ _ _ h
theorem RdAt.fr (h : RdAt w R s i ok) (k : Nat) : w.frozen? ⟨R, k, none⟩ = false := by unfold RdAt at h; simp [World.frozen?, h]
theorem RdAt.drewN (h : RdAt w R s i ok) (n : Nat) : RdAt (w.drewN n) R s i ok := h
theorem RdAt.set1 (h : RdAt w R s i ok) (j : Nat) : RdAt (w.setCell ⟨R, 1, none⟩ (.int .i64 j)) R s j ok := by
  unfold RdAt at h ⊢; simp [World.setCell, Array.getElem?_modify, h]
theorem RdAt.set2 (h : RdAt w R s i ok) (b : Bool) : RdAt (w.setCell ⟨R, 2, none⟩ (.bool b)) R s i b := by
  unfold RdAt at h ⊢; simp [World.setCell, Array.getElem?_modify, h]
end

/-- The byte at hand, 0 behind the end. -/
def pk (s : ByteArray) (i : Nat) : UInt8 := s.data.toList.getD i 0
theorem pk_in (s : ByteArray) (i : Nat) (h : i < s.size) : pk s i = s[i] := by
  unfold pk
  rw [List.getD_eq_getElem?_getD, List.getElem?_eq_getElem (by simpa using h)]; rfl
theorem pk_out (s : ByteArray) (i : Nat) (h : ¬ i < s.size) : pk s i = 0 := by
  unfold pk
  rw [List.getD_eq_getElem?_getD, List.getElem?_eq_none (by simpa using h)]; rfl

set_option maxHeartbeats 400000 in
theorem peek_c (R : Nat) (s : ByteArray) (i : Nat) (ok : Bool) (w : World) (h : RdAt w R s i ok) :
    Calls Tryd.prog 57 #[.pointer (some ⟨R, 0, none⟩)] w fun e w' => e = .returned (.int .u8 (pk s i).toNat) ∧ ∃ n, w' = w.drewN n := by
  have h0 := h.c0
  have h1 := h.c1
  clear h
  by_cases hi : i < s.size
  · have hp := Lib.hid (pk_in s i hi)
    go_enter Tryd.func57, Tryd.ntmps57
    go_wp2
    go_quiet (fail)
    go_wp2
    go_quiet (fail)
    go_wp2
    go_ret
    exact ⟨ret_int (by rw [hp.out]), _, World.drewN_drewN _ _ _⟩
  · have hp := Lib.hid (pk_out s i hi)
    go_enter Tryd.func57, Tryd.ntmps57
    go_wp2
    go_quiet (fail)
    go_wp2
    go_ret
    exact ⟨ret_int (by rw [hp.out]; rfl), _, rfl⟩

/-- Is a byte a digit? -/
def digB (c : UInt8) : Bool := decide (48 ≤ c.toNat ∧ c.toNat ≤ 57)

set_option maxHeartbeats 400000 in
theorem digit_c (c : UInt8) (w : World) :
    Calls Tryd.prog 60 #[.int .u8 c.toNat] w fun e w' => e = .returned (.bool (digB c)) ∧ w = w' := by
  by_cases h1 : 48 ≤ (c.toNat : Int)
  · by_cases h2 : (c.toNat : Int) ≤ 57
    · have hh := Lib.hid (show digB c = true from decide_eq_true (by omega))
      go_enter Tryd.func60, Tryd.ntmps60
      go_wp2
      go_ret
      exact ⟨ret_bool hh.out.symm, rfl⟩
    · have hh := Lib.hid (show digB c = false from decide_eq_false (by omega))
      have h2' : 57 < (c.toNat : Int) := by omega
      go_enter Tryd.func60, Tryd.ntmps60
      go_wp2
      go_ret
      exact ⟨ret_bool hh.out.symm, rfl⟩
  · have hh := Lib.hid (show digB c = false from decide_eq_false (by omega))
    have h1' : (c.toNat : Int) < 48 := by omega
    go_enter Tryd.func60, Tryd.ntmps60
    go_wp2
    go_ret
    exact ⟨ret_bool hh.out.symm, rfl⟩

/-- What take leaves: whether all is right, and the place. -/
def tkOk (s : ByteArray) (i : Nat) (ok : Bool) (c : UInt8) : Bool := ok && decide (i < s.size) && pk s i == c
def tkAt (s : ByteArray) (i : Nat) (ok : Bool) (c : UInt8) : Nat := if tkOk s i ok c then i + 1 else i

/-- How a step of the reader's leaves the world. -/
structure Rds (w w' : World) (R : Nat) (s : ByteArray) (i : Nat) (ok : Bool) : Prop where
  at_ : RdAt w' R s i ok
  grown : w.grownBy w' (some R)

theorem only_drewN {a w : World} {row : Option Nat} (h : a.grownBy w row) (n : Nat) : a.grownBy (w.drewN n) row := ⟨h.os, h.tape, h.output, h.size, h.block⟩
theorem only_setCell {a w : World} {g : Nat} (h : a.grownBy w (some g)) {p : Addr} (hp : p.block = g ∨ a.heap.size ≤ p.block) (u : Value) : a.grownBy (w.setCell p u) (some g) :=
  ⟨h.os, h.tape, h.output, by simpa [World.setCell] using h.size, fun i hi hne => (Below.heap_setCell w p u i (by
    rintro rfl
    rcases hp with hp | hp
    · exact hne (by rw [hp])
    · omega)).trans (h.block i hi hne)⟩

section
variable {w w' : World} {R : Nat} {s : ByteArray} {i : Nat} {ok : Bool}
theorem RdAt.drew (h : RdAt w R s i ok) : RdAt w.drew R s i ok := h
theorem only_drew {a w : World} {row : Option Nat} (h : a.grownBy w row) : a.grownBy w.drew row := ⟨h.os, h.tape, h.output, h.size, h.block⟩
theorem only_refl (w : World) (row : Option Nat) : w.grownBy w row := ⟨rfl, rfl, rfl, Nat.le_refl _, fun _ _ _ => rfl⟩
theorem only_trans {a b c : World} {row : Option Nat} (h : a.grownBy b row) (k : b.grownBy c row) : a.grownBy c row :=
  ⟨k.os.trans h.os, k.tape.trans h.tape, k.output.trans h.output, Nat.le_trans h.size k.size, fun i hi hn => (k.block i (Nat.lt_of_lt_of_le hi h.size) hn).trans (h.block i hi hn)⟩
theorem only_below {a w : World} (h : Below a.heap.size a w) (row : Option Nat) : a.grownBy w row := ⟨h.os, h.tape, h.output, h.size, fun i hi _ => h.block i hi⟩

theorem Rds.of (h : RdAt w R s i ok) : Rds w w R s i ok := ⟨h, only_refl _ _⟩
theorem Rds.trans {w1 w2 w3 : World} {j k : Nat} {b c : Bool} (h : Rds w1 w2 R s j b) (g : Rds w2 w3 R s k c) : Rds w1 w3 R s k c := ⟨g.at_, only_trans h.grown g.grown⟩
theorem Rds.drew {w1 w2 : World} (h : Rds w1 w2 R s i ok) : Rds w1 w2.drew R s i ok := ⟨h.at_, only_drew h.grown⟩
theorem Rds.drewN {w1 w2 : World} (h : Rds w1 w2 R s i ok) (n : Nat) : Rds w1 (w2.drewN n) R s i ok := ⟨h.at_, only_drewN h.grown n⟩
theorem Rds.set1 {w1 w2 : World} (h : Rds w1 w2 R s i ok) (j : Nat) : Rds w1 (w2.setCell ⟨R, 1, none⟩ (.int .i64 j)) R s j ok := ⟨h.at_.set1 j, only_setCell h.grown (.inl rfl) _⟩
theorem Rds.set2 {w1 w2 : World} (h : Rds w1 w2 R s i ok) (b : Bool) : Rds w1 (w2.setCell ⟨R, 2, none⟩ (.bool b)) R s i b := ⟨h.at_.set2 b, only_setCell h.grown (.inl rfl) _⟩
end

set_option maxHeartbeats 400000 in
theorem take_c (R : Nat) (s : ByteArray) (i : Nat) (ok : Bool) (c : UInt8) (w : World) (h : RdAt w R s i ok) (hs : s.size ≤ 1000000000) :
    Calls Tryd.prog 86 #[.pointer (some ⟨R, 0, none⟩), .int .u8 c.toNat] w fun e w' => e = .returned (.tuple #[]) ∧ Rds w w' R s (tkAt s i ok c) (tkOk s i ok c) := by
  have h0 := h.c0
  have h1 := h.c1
  have h2 := h.c2
  have f2 := h.fr 2
  have f1 := h.fr 1
  have H := Lib.hid h
  clear h
  cases ok with
  | false =>
    have e1 : tkOk s i false c = false := rfl
    have e2 : tkAt s i false c = i := rfl
    rw [e1, e2]
    clear e1 e2
    go_enter Tryd.func86, Tryd.ntmps86
    go_wp2
    go_region
    go_wp2
    go_end0
    exact ⟨rfl, ((Rds.of H.out).set2 false).drew⟩
  | true =>
    by_cases hi : i < s.size
    · have hp := pk_in s i hi
      have e0 : tkOk s i true c = (pk s i == c) := by simp [tkOk, hi]
      by_cases hc : pk s i = c
      · have e1 : tkOk s i true c = true := by rw [e0, hc]; simp
        have e2 : tkAt s i true c = i + 1 := by unfold tkAt; rw [e1]; rfl
        rw [e1, e2]
        have hq : ((s[i].toNat : Int) == (c.toNat : Int)) = true := by rw [← hp, hc]; simp
        clear e0 e1 e2 hp hc
        go_enter Tryd.func86, Tryd.ntmps86
        go_wp2
        go_region
        go_wp2
        go_end0
        exact ⟨rfl, (((Rds.of H.out).set2 true).set1 (i + 1)).drew⟩
      · have e1 : tkOk s i true c = false := by rw [e0]; simpa using hc
        have e2 : tkAt s i true c = i := by unfold tkAt; rw [e1]; rfl
        rw [e1, e2]
        have hq : ((s[i].toNat : Int) == (c.toNat : Int)) = false := by
          rw [← hp, beq_eq_false_iff_ne]
          intro e
          exact hc (UInt8.toNat_inj.1 (by omega))
        clear e0 e1 e2 hp hc
        go_enter Tryd.func86, Tryd.ntmps86
        go_wp2
        go_region
        go_wp2
        go_end0
        exact ⟨rfl, ((Rds.of H.out).set2 false).drew⟩
    · have e1 : tkOk s i true c = false := by simp [tkOk, hi]
      have e2 : tkAt s i true c = i := by unfold tkAt; rw [e1]; rfl
      rw [e1, e2]
      clear e1 e2
      go_enter Tryd.func86, Tryd.ntmps86
      go_wp2
      go_region
      go_wp2
      go_end0
      exact ⟨rfl, ((Rds.of H.out).set2 false).drew⟩
end Go.Proofs.YtoemnccklakkeaaDoor
