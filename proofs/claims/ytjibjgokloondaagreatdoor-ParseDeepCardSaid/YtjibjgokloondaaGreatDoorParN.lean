/- Contracts of the functions that the statement reaches, and the plain mathematics beneath: several texts joined. -/
import Derived.Test.YtjibjgokloondaaGreatDoorParM
import Derived.Test.YtjibjgokloondaaGreatDoorShelf
import Derived.Lib.ItoaMem
import Derived.Lib.ItoaLen
import Derived.Lib.ParseIntBCases
import Derived.Lib.ParseIntBTie
import Derived.Lib.SmallJoins
import Derived.Lib.AppendIntMem
import Derived.Lib.ReplaceLaws
import Derived.Lib.Join
import Derived.Test.YtjibjgokloondaaGreatDoorParA
import Derived.Test.YtjibjgokloondaaGreatDoorParB
import Derived.Test.YtjibjgokloondaaGreatDoorParC
import Derived.Test.YtjibjgokloondaaGreatDoorParD
import Derived.Test.YtjibjgokloondaaGreatDoorParE
import Derived.Test.YtjibjgokloondaaGreatDoorParF
import Derived.Test.YtjibjgokloondaaGreatDoorParG
import Derived.Test.YtjibjgokloondaaGreatDoorParH
import Derived.Test.YtjibjgokloondaaGreatDoorParI
import Derived.Test.YtjibjgokloondaaGreatDoorParJ
import Derived.Test.YtjibjgokloondaaGreatDoorParK
import Derived.Test.YtjibjgokloondaaGreatDoorParL
namespace Go.Proofs.YtjibjgokloondaaGreatDoor
open Go.RowKit Go.Lib
set_option linter.unusedVariables false

/-- The code of a name. -/
def codeOf (s : ByteArray) : Int := idxOfS nmL s
set_option maxHeartbeats 1000000 in
theorem code_l (s : ByteArray) (w : World) :
    Calls Tryz.prog 75 #[.string s] w fun e w' => e = .returned (.tuple #[.int .i64 (if codeOf s < 0 then 0 else codeOf s), .bool (decide (0 ≤ codeOf s))]) ∧ Below w.heap.size w w' := by
  have NC := Lib.hid (names_c w)
  have hb : Below w.heap.size w (w.alloc (.cells (nmL.map Value.string).toArray 9)) := (Below.refl _ _).alloc (Nat.le_refl _) _
  have IC := Lib.hid (Tryz.slices_Index_string w.heap.size 0 15 15 nmL s (w.alloc (.cells (nmL.map Value.string).toArray 9)) (by rw [nmL_len]; exact Nat.le_refl _) (by decide)
    (fun j hj => by rw [Nat.zero_add]; exact names_cell w j (by rw [nmL_len] at hj; exact hj) 0))
  rw [show nmL.take 15 = nmL from rfl, show idxOfS nmL s = codeOf s from rfl] at IC
  have HB := Lib.hid hb
  clear hb
  by_cases hc : codeOf s < 0
  · rw [if_pos hc, show decide (0 ≤ codeOf s) = false by simp; omega]
    go_enter Tryz.func75, Tryz.ntmps75
    go_wp2_with fail
    refine NC.out.mono ?_
    rintro e w2 ⟨rfl, rfl⟩
    go_wp2_with fail
    refine IC.out.mono ?_
    rintro e w2 ⟨rfl, rfl⟩
    go_wp2_with fail
    go_returns
    exact ⟨rfl, HB.out⟩
  · rw [if_neg hc, show decide (0 ≤ codeOf s) = true by simp; omega]
    have hd : decide (codeOf s < 0) = false := by simp; omega
    go_enter Tryz.func75, Tryz.ntmps75
    go_wp2_with fail
    refine NC.out.mono ?_
    rintro e w2 ⟨rfl, rfl⟩
    go_wp2_with fail
    refine IC.out.mono ?_
    rintro e w2 ⟨rfl, rfl⟩
    go_wp2_with fail
    go_returns
    exact ⟨rfl, HB.out⟩

end Go.Proofs.YtjibjgokloondaaGreatDoor
namespace Go.Proofs.YtjibjgokloondaaGreatDoor
open Go.Lib
set_option linter.unusedVariables false

def isDg (c : UInt8) : Bool := decide (48 ≤ c.toNat) && decide (c.toNat ≤ 57)
theorem isDg_iff {c : UInt8} : isDg c = true ↔ 48 ≤ c.toNat ∧ c.toNat ≤ 57 := by simp [isDg]
/-- What digits spell. -/
def dg1 (c : UInt8) : Nat := c.toNat - 48
theorem dg1_eq (c : UInt8) : dg1 c = c.toNat - 48 := by rw [dg1]
attribute [irreducible] dg1
def dval (acc : Nat) (l : List UInt8) : Nat := l.foldl (fun a c => a * 10 + dg1 c) acc
theorem dval_nil (acc : Nat) : dval acc [] = acc := by unfold dval; rw [List.foldl_nil]
theorem dval_cons (acc : Nat) (c : UInt8) (r : List UInt8) : dval acc (c :: r) = dval (acc * 10 + dg1 c) r := by unfold dval; rw [List.foldl_cons]
theorem dval_app (l m : List UInt8) : ∀ acc : Nat, dval acc (l ++ m) = dval (dval acc l) m := by
  induction l with
  | nil => intro acc; rw [List.nil_append, dval_nil]
  | cons c r ih => intro acc; rw [List.cons_append, dval_cons, dval_cons, ih]
theorem dval_ge (l : List UInt8) : ∀ acc : Nat, acc ≤ dval acc l := by
  induction l with
  | nil => intro acc; rw [dval_nil]; exact Nat.le_refl _
  | cons c r ih => intro acc; rw [dval_cons]; have := ih (acc * 10 + dg1 c); omega
/-- A numeral of digits: no 0 ahead of others. -/
def Canon (l : List UInt8) : Prop := l ≠ [] ∧ (∀ c ∈ l, isDg c = true) ∧ (l.head? = some 48 → l.length = 1)

theorem dval_snoc (l : List UInt8) (c : UInt8) (acc : Nat) : dval acc (l ++ [c]) = dval acc l * 10 + (c.toNat - 48) := by rw [← dg1_eq];  rw [dval_app, dval_cons, dval_nil]

theorem dg_toNat {u : Nat} (h : u < 10) : (UInt8.ofNat (48 + u)).toNat = 48 + u := by
  rw [UInt8.toNat_ofNat']; omega
theorem canon_dec (u : Nat) : Canon (decDigits u) ∧ dval 0 (decDigits u) = u ∧ (1 ≤ u → (decDigits u).head? ≠ some 48) := by
  induction u using Nat.strongRecOn with
  | _ u ih =>
    by_cases h : u < 10
    · rw [decDigits_one h]
      have ht := dg_toNat h
      refine ⟨⟨by simp, ?_, fun _ => rfl⟩, ?_, ?_⟩
      · intro c hc
        rw [List.mem_singleton] at hc
        subst hc
        rw [isDg_iff, ht]; omega
      · rw [dval_cons, dval_nil, dg1_eq, ht]; omega
      · intro h1 hh
        simp only [List.head?_cons, Option.some.injEq] at hh
        rw [hh] at ht
        have : (48 : UInt8).toNat = 48 := rfl
        omega
    · rw [decDigits, dif_neg h]
      obtain ⟨⟨hne, hd, hz⟩, hv, hp⟩ := ih (u / 10) (by omega)
      have ht := dg_toNat (show u % 10 < 10 by omega)
      have hh : (decDigits (u / 10) ++ [UInt8.ofNat (48 + u % 10)]).head? = (decDigits (u / 10)).head? := by
        cases hq : decDigits (u / 10) with
        | nil => exact absurd hq hne
        | cons a r => rfl
      have hp2 := hp (by omega)
      refine ⟨⟨by simp, ?_, fun e => ?_⟩, ?_, fun _ => ?_⟩
      · intro c hc
        rw [List.mem_append, List.mem_singleton] at hc
        rcases hc with hc | hc
        · exact hd c hc
        · subst hc
          rw [isDg_iff, ht]; omega
      · rw [hh] at e; exact absurd e hp2
      · rw [dval_snoc, hv, ht]; omega
      · rw [hh]; exact hp2

theorem uintM_digits : ∀ (l : List UInt8) (acc : Nat), (∀ c ∈ l, isDg c = true) → dval acc l ≤ 18446744073709551615 → parseUintM 18446744073709551615 acc l = .ok (dval acc l)
  | [], acc, _, _ => rfl
  | c :: r, acc, hd, h => by
    have hc := isDg_iff.1 (hd c (by simp))
    rw [dval_cons, dg1_eq] at h
    have hg := dval_ge r (acc * 10 + (c.toNat - 48))
    rw [parseUintM, if_pos hc, if_neg (by omega), if_neg (by omega), uintM_digits r _ (fun x hx => hd x (by simp [hx])) h, dval_cons, dg1_eq]

end Go.Proofs.YtjibjgokloondaaGreatDoor
namespace Go.Proofs.YtjibjgokloondaaGreatDoor
open Go.RowKit Go.Lib
set_option linter.unusedVariables false

/-- What strconv's package-level variables hold. -/
structure StrcAt (w : World) : Prop where
  syn : ∃ te pe, w.cell? ⟨19, 0, none⟩ = some (.iface te pe)
  rng : ∃ te pe, w.cell? ⟨20, 0, none⟩ = some (.iface te pe)
  tab : TabIs Tryz.prog w "internal/strconv.uint64pow10" .u64 pow10Tab
  room : 24 < w.heap.size
theorem StrcAt.below {w w' : World} {B : Nat} (h : StrcAt w) (hb : Below B w w') (hB : w.heap.size ≤ B) : StrcAt w' := by
  have hk : ∀ p : Addr, p.block < w.heap.size → w'.cell? p = w.cell? p := fun p hp => World.cell?_of_block (w := w) (hb.block p.block (by omega))
  have hr := h.room
  obtain ⟨t1, p1, h1⟩ := h.syn
  obtain ⟨t2, p2, h2⟩ := h.rng
  exact ⟨⟨t1, p1, (hk ⟨19, 0, none⟩ (Nat.lt_trans (by decide) hr)).trans h1⟩, ⟨t2, p2, (hk ⟨20, 0, none⟩ (Nat.lt_trans (by decide) hr)).trans h2⟩, Joins.tab_stays (g := 21) rfl h.tab hb hB, by have := hb.size; omega⟩

end Go.Proofs.YtjibjgokloondaaGreatDoor
namespace Go.Proofs.YtjibjgokloondaaGreatDoor
open Go.RowKit Go.Lib
set_option linter.unusedVariables false

end Go.Proofs.YtjibjgokloondaaGreatDoor
namespace Go.Proofs.YtjibjgokloondaaGreatDoor
open Go.RowKit Go.Lib
set_option linter.unusedVariables false

theorem digB_isDg (c : UInt8) : digB c = isDg c := by
  cases h : isDg c with
  | true => have := isDg_iff.1 h; unfold digB; exact decide_eq_true this
  | false => unfold digB; refine decide_eq_false fun e => ?_; rw [isDg_iff.2 e] at h; cases h
theorem pk_drop {s : ByteArray} {i : Nat} {c : UInt8} {r : List UInt8} (h : s.data.toList.drop i = c :: r) : pk s i = c ∧ s.data.toList.drop (i + 1) = r := by
  constructor
  · unfold pk
    rw [List.getD_eq_getElem?_getD, ← List.head?_drop, h]; rfl
  · rw [← List.drop_drop, h]; rfl
theorem pk_end {s : ByteArray} {i : Nat} (h : s.data.toList.drop i = []) : pk s i = 0 := by
  unfold pk
  rw [List.getD_eq_getElem?_getD, ← List.head?_drop, h]; rfl
end Go.Proofs.YtjibjgokloondaaGreatDoor
namespace Go.Proofs.YtjibjgokloondaaGreatDoor
open Go.RowKit Go.Lib
set_option linter.unusedVariables false

/-- A text with its signs. -/
def escL : List UInt8 → List UInt8
  | [] => []
  | x :: r => if x = 34 ∨ x = 92 then 92 :: x :: escL r else x :: escL r
def quoL (l : List UInt8) : List UInt8 := 34 :: (escL l ++ [34])

/-- All numbers are of 64 bits. -/
def VL.i64 : VL → Prop
  | .nil => True
  | .cons _ n _ sub rest => -9223372036854775808 ≤ n ∧ n ≤ 9223372036854775807 ∧ sub.i64 ∧ rest.i64
end Go.Proofs.YtjibjgokloondaaGreatDoor
namespace Go.Proofs.YtjibjgokloondaaGreatDoor
open Go.RowKit Go.Lib
set_option linter.unusedVariables false

end Go.Proofs.YtjibjgokloondaaGreatDoor
namespace Go.Proofs.YtjibjgokloondaaGreatDoor
open Go.RowKit Go.Lib
set_option linter.unusedVariables false

theorem drop_add {l a r : List UInt8} {i : Nat} (h : l.drop i = a ++ r) : l.drop (i + a.length) = r := by
  rw [← List.drop_drop, h, List.drop_left]
theorem bytes_empty {t : ByteArray} (h : t.data.toList = []) : t = ByteArray.empty := by
  rcases t with ⟨⟨l⟩⟩
  cases l with
  | nil => rfl
  | cons a r => cases h
end Go.Proofs.YtjibjgokloondaaGreatDoor
