/- Contracts of the functions that the statement reaches, and the plain mathematics beneath: several texts joined. -/
import Derived.Test.YtgmnbdfbbcpciaaGreatDoorSmB
import Derived.Test.YtgmnbdfbbcpciaaGreatDoorShelf
import Derived.Lib.ItoaMem
import Derived.Lib.ItoaLen
import Derived.Lib.ParseIntBCases
import Derived.Lib.ParseIntBTie
import Derived.Lib.SmallJoins
import Derived.Lib.AppendIntMem
import Derived.Lib.ReplaceLaws
import Derived.Lib.Join
import Derived.Test.YtgmnbdfbbcpciaaGreatDoorSmA
namespace Go.Proofs.YtgmnbdfbbcpciaaGreatDoor
open Go.RowKit Go.Lib
set_option linter.unusedVariables false

/-- The name of a code; empty: there is none. -/
def nmS (c : Int) : ByteArray := if 0 ≤ c ∧ c ≤ 14 then nmL.getD c.toNat ByteArray.empty else ⟨#[]⟩
/-- The code of a name. -/
def codeOf (s : ByteArray) : Int := idxOfS nmL s
theorem ret_two {a b c d : Value} (h : a = c) (h2 : b = d) : Ending.returned (.tuple #[a, b]) = .returned (.tuple #[c, d]) := by rw [h, h2]
set_option maxHeartbeats 1000000 in
theorem name_l (c : Int) (w : World) (h0 : -9223372036854775808 ≤ c) (h1 : c ≤ 9223372036854775807) :
    Calls Tryz.prog 83 #[.int .i64 c] w fun e w' => e = .returned (.string (nmS c)) ∧ Below w.heap.size w w' := by
  have NC := Lib.hid (names_c w)
  have hb : Below w.heap.size w (w.alloc (.cells (nmL.map Value.string).toArray 9)) := (Below.refl _ _).alloc (Nat.le_refl _) _
  have HB := Lib.hid hb
  clear hb
  by_cases hl : c < 0
  · have HN := Lib.hid (show nmS c = ⟨#[]⟩ by unfold nmS; rw [if_neg (by omega)])
    have hd : decide (c < 0) = true := by simp; omega
    go_enter Tryz.func83, Tryz.ntmps83
    go_wp2_with fail
    refine NC.out.mono ?_
    rintro e w2 ⟨rfl, rfl⟩
    go_wp2_with fail
    go_returns
    exact ⟨ret_str HN.out.symm, HB.out⟩
  by_cases hh : 14 < c
  · have HN := Lib.hid (show nmS c = ⟨#[]⟩ by unfold nmS; rw [if_neg (by omega)])
    have hd : decide (c < 0) = false := by simp; omega
    have hd2 : decide (c ≥ 15) = true := by simp; omega
    have hd3 : decide (15 ≤ c) = true := by simp; omega
    go_enter Tryz.func83, Tryz.ntmps83
    go_wp2_with fail
    refine NC.out.mono ?_
    rintro e w2 ⟨rfl, rfl⟩
    go_wp2_with fail
    go_returns
    exact ⟨ret_str HN.out.symm, HB.out⟩
  · obtain ⟨j, rfl⟩ : ∃ j : Nat, c = j := ⟨c.toNat, by omega⟩
    have HN := Lib.hid (show nmS (j : Int) = nmL.getD j ByteArray.empty by unfold nmS; rw [if_pos (by omega)]; simp)
    have hcell : (w.alloc (.cells (nmL.map Value.string).toArray 9)).cell? ⟨w.heap.size, j, none⟩ = some (.string (nmL.getD j ByteArray.empty)) := names_cell w j (by omega) 0
    have hd : decide ((j : Int) < 0) = false := by simp
    have hd3 : decide (15 ≤ (j : Int)) = false := by simp; omega
    have hj : j < 15 := by omega
    have hd4 : decide (15 ≤ j) = false := by simp; omega
    go_enter Tryz.func83, Tryz.ntmps83
    go_wp2_with fail
    refine NC.out.mono ?_
    rintro e w2 ⟨rfl, rfl⟩
    go_wp2_with fail
    go_returns
    exact ⟨ret_str HN.out.symm, HB.out⟩

theorem str_ne {a b : ByteArray} (h : ¬ a = b) : (a.toList == b.toList) = false := by
  rw [Lib.toList_data, Lib.toList_data, beq_eq_false_iff_ne]
  intro e
  apply h
  rcases a with ⟨⟨a⟩⟩; rcases b with ⟨⟨b⟩⟩
  exact congrArg (fun l => (⟨⟨l⟩⟩ : ByteArray)) e
theorem str_eq (a : ByteArray) : (a.toList == a.toList) = true := by rw [beq_iff_eq]
theorem nmS_at (j : Nat) (h : j < 15) : nmS (j : Int) = nmL.getD j ByteArray.empty := by unfold nmS; rw [if_pos (by omega)]; simp
theorem codeOf_hit (s : ByteArray) (k : Nat) (hk : k < 15) (h : nmL.getD k ByteArray.empty = s) (hne : ∀ j, j < k → nmL.getD j ByteArray.empty ≠ s) : codeOf s = k :=
  idxOfS_hit nmL 15 k s hk (by rw [nmL_len]; exact Nat.le_refl _) h hne
theorem codeOf_miss (s : ByteArray) (hne : ∀ j, j < 15 → nmL.getD j ByteArray.empty ≠ s) : codeOf s = -1 := idxOfS_miss nmL 15 s hne

end Go.Proofs.YtgmnbdfbbcpciaaGreatDoor
namespace Go.Proofs.YtgmnbdfbbcpciaaGreatDoor
open Go.Lib
set_option linter.unusedVariables false

def isDg (c : UInt8) : Bool := decide (48 ≤ c.toNat) && decide (c.toNat ≤ 57)
theorem isDg_iff {c : UInt8} : isDg c = true ↔ 48 ≤ c.toNat ∧ c.toNat ≤ 57 := by simp [isDg]
/-- What digits spell. -/
def dg1 (c : UInt8) : Nat := c.toNat - 48
theorem dg1_eq (c : UInt8) : dg1 c = c.toNat - 48 := by rw [dg1]
attribute [irreducible] dg1
def dval (acc : Nat) (l : List UInt8) : Nat := l.foldl (fun a c => a * 10 + dg1 c) acc
theorem dval_nil (acc : Nat) : dval acc [] = acc := by unfold dval; rw [List.foldl_nil]
theorem dval_cons (acc : Nat) (c : UInt8) (r : List UInt8) : dval acc (c :: r) = dval (acc * 10 + dg1 c) r := by unfold dval; rw [List.foldl_cons]
theorem dval_app (l m : List UInt8) : ∀ acc : Nat, dval acc (l ++ m) = dval (dval acc l) m := by
  induction l with
  | nil => intro acc; rw [List.nil_append, dval_nil]
  | cons c r ih => intro acc; rw [List.cons_append, dval_cons, dval_cons, ih]
theorem dval_ge (l : List UInt8) : ∀ acc : Nat, acc ≤ dval acc l := by
  induction l with
  | nil => intro acc; rw [dval_nil]; exact Nat.le_refl _
  | cons c r ih => intro acc; rw [dval_cons]; have := ih (acc * 10 + dg1 c); omega
theorem dval_lt (l : List UInt8) : ∀ acc : Nat, (∀ c ∈ l, isDg c = true) → dval acc l < (acc + 1) * 10 ^ l.length := by
  induction l with
  | nil => intro acc _; rw [dval_nil, List.length_nil, Nat.pow_zero]; omega
  | cons c r ih =>
    intro acc h
    have hc := isDg_iff.1 (h c (by simp))
    have hg := dg1_eq c
    have := ih (acc * 10 + dg1 c) (fun x hx => h x (by simp [hx]))
    rw [dval_cons, List.length_cons, Nat.pow_succ]
    generalize 10 ^ r.length = p at *
    have h2 : (acc * 10 + dg1 c + 1) * p ≤ ((acc + 1) * 10) * p := Nat.mul_le_mul_right _ (by omega)
    have h3 : ((acc + 1) * 10) * p = (acc + 1) * (p * 10) := by rw [Nat.mul_assoc, Nat.mul_comm 10]
    omega

/-- A numeral of digits: no 0 ahead of others. -/
def Canon (l : List UInt8) : Prop := l ≠ [] ∧ (∀ c ∈ l, isDg c = true) ∧ (l.head? = some 48 → l.length = 1)

theorem byte_of_digit {c : UInt8} (h : isDg c = true) : UInt8.ofNat (48 + (c.toNat - 48)) = c := by
  have := isDg_iff.1 h
  rw [show 48 + (c.toNat - 48) = c.toNat by omega]; simp

theorem dval_snoc (l : List UInt8) (c : UInt8) (acc : Nat) : dval acc (l ++ [c]) = dval acc l * 10 + (c.toNat - 48) := by rw [← dg1_eq];  rw [dval_app, dval_cons, dval_nil]

theorem dec_of_canon : ∀ (n : Nat) (l : List UInt8), l.length = n → Canon l → decDigits (dval 0 l) = l
  | 0, l, h, hc => absurd (List.length_eq_zero_iff.1 h) hc.1
  | n + 1, l, h, hc => by
    obtain ⟨i, c, rfl⟩ : ∃ i c, l = i ++ [c] := ⟨l.dropLast, l.getLast hc.1, (List.dropLast_concat_getLast hc.1).symm⟩
    have hcd := hc.2.1 c (by simp)
    have hd := isDg_iff.1 hcd
    rw [dval_snoc]
    cases hi : i with
    | nil =>
      subst hi
      rw [dval_nil, Nat.zero_mul, Nat.zero_add, decDigits_one (by omega), byte_of_digit hcd]; rfl
    | cons a r =>
      have hci : Canon i := by
        refine ⟨by rw [hi]; simp, fun x hx => hc.2.1 x (by simp [hx]), fun hh => ?_⟩
        have hh2 : (i ++ [c]).head? = some 48 := by rw [hi] at hh ⊢; simpa using hh
        have := hc.2.2 hh2
        rw [hi] at this
        simp at this
      have ha : isDg a = true := hc.2.1 a (by rw [hi]; simp)
      have had := isDg_iff.1 ha
      have hne : a.toNat ≠ 48 := by
        intro e
        have e2 : a = 48 := UInt8.toNat_inj.1 e
        have hh2 : (i ++ [c]).head? = some 48 := by rw [hi, e2]; rfl
        have := hc.2.2 hh2
        rw [hi] at this
        simp at this
      have hpos : 1 ≤ dval 0 i := by
        rw [hi, dval_cons, dg1_eq]
        have := dval_ge r (0 * 10 + (a.toNat - 48))
        omega
      have ih := dec_of_canon n i (by simpa using h) hci
      rw [← hi]
      rw [decDigits, dif_neg (by omega), show (dval 0 i * 10 + (c.toNat - 48)) / 10 = dval 0 i by omega, show (dval 0 i * 10 + (c.toNat - 48)) % 10 = c.toNat - 48 by omega, ih, byte_of_digit hcd]

theorem dg_toNat {u : Nat} (h : u < 10) : (UInt8.ofNat (48 + u)).toNat = 48 + u := by
  rw [UInt8.toNat_ofNat']; omega
theorem canon_dec (u : Nat) : Canon (decDigits u) ∧ dval 0 (decDigits u) = u ∧ (1 ≤ u → (decDigits u).head? ≠ some 48) := by
  induction u using Nat.strongRecOn with
  | _ u ih =>
    by_cases h : u < 10
    · rw [decDigits_one h]
      have ht := dg_toNat h
      refine ⟨⟨by simp, ?_, fun _ => rfl⟩, ?_, ?_⟩
      · intro c hc
        rw [List.mem_singleton] at hc
        subst hc
        rw [isDg_iff, ht]; omega
      · rw [dval_cons, dval_nil, dg1_eq, ht]; omega
      · intro h1 hh
        simp only [List.head?_cons, Option.some.injEq] at hh
        rw [hh] at ht
        have : (48 : UInt8).toNat = 48 := rfl
        omega
    · rw [decDigits, dif_neg h]
      obtain ⟨⟨hne, hd, hz⟩, hv, hp⟩ := ih (u / 10) (by omega)
      have ht := dg_toNat (show u % 10 < 10 by omega)
      have hh : (decDigits (u / 10) ++ [UInt8.ofNat (48 + u % 10)]).head? = (decDigits (u / 10)).head? := by
        cases hq : decDigits (u / 10) with
        | nil => exact absurd hq hne
        | cons a r => rfl
      have hp2 := hp (by omega)
      refine ⟨⟨by simp, ?_, fun e => ?_⟩, ?_, fun _ => ?_⟩
      · intro c hc
        rw [List.mem_append, List.mem_singleton] at hc
        rcases hc with hc | hc
        · exact hd c hc
        · subst hc
          rw [isDg_iff, ht]; omega
      · rw [hh] at e; exact absurd e hp2
      · rw [dval_snoc, hv, ht]; omega
      · rw [hh]; exact hp2

/-- The reference's way: the number of a text. -/
def refNum (l : List UInt8) : Option Int :=
  let neg : Bool := l.head? = some 45
  let t := if neg then l.tail else l
  if t = [] ∨ 19 < t.length ∨ (t.head? = some 48 ∧ (1 < t.length ∨ neg = true)) then none
  else if t.all isDg = false then none
  else if neg then (if 9223372036854775808 < dval 0 t then none else some (-(dval 0 t : Int)))
  else (if 9223372036854775807 < dval 0 t then none else some (dval 0 t : Int))

theorem refNum_some {l : List UInt8} {v : Int} (h : refNum l = some v) : -9223372036854775808 ≤ v ∧ v ≤ 9223372036854775807 ∧ itoa v = l := by
  unfold refNum at h
  by_cases hn : l.head? = some 45
  · obtain ⟨t, rfl⟩ : ∃ t, l = 45 :: t := by
      cases l with
      | nil => simp at hn
      | cons a r => simp only [List.head?_cons, Option.some.injEq] at hn; exact ⟨r, by rw [hn]⟩
    simp only [List.head?_cons, decide_true, if_true, List.tail_cons] at h
    split at h
    · cases h
    rename_i h1
    split at h
    · cases h
    rename_i h2
    split at h
    · cases h
    rename_i h3
    injection h with h
    subst h
    have hnz : t.head? ≠ some 48 := fun e => h1 (.inr (.inr ⟨e, .inr trivial⟩))
    have hcan : Canon t := ⟨fun e => h1 (.inl e), by simpa using h2, fun e => absurd e hnz⟩
    have hpos : 1 ≤ dval 0 t := by
      cases t with
      | nil => exact absurd rfl hcan.1
      | cons a r =>
        have had := isDg_iff.1 (hcan.2.1 a (by simp))
        have hne : a.toNat ≠ 48 := fun e => hnz (by rw [UInt8.toNat_inj.1 (show a.toNat = (48 : UInt8).toNat from e)]; rfl)
        rw [dval_cons, dg1_eq]
        have := dval_ge r (0 * 10 + (a.toNat - 48))
        omega
    refine ⟨by omega, by omega, ?_⟩
    rw [itoa_neg _ hpos, dec_of_canon _ t rfl hcan]
  · simp only [hn, decide_false, Bool.false_eq_true, if_false] at h
    split at h
    · cases h
    rename_i h1
    split at h
    · cases h
    rename_i h2
    split at h
    · cases h
    rename_i h3
    injection h with h
    subst h
    have hcan : Canon l := ⟨fun e => h1 (.inl e), by simpa using h2, fun e => by
      have hl : l.length ≠ 0 := fun e2 => h1 (.inl (List.length_eq_zero_iff.1 e2))
      rcases Nat.lt_or_ge 1 l.length with h4 | h4
      · exact absurd (.inr (.inr ⟨e, .inl h4⟩)) h1
      · omega⟩
    refine ⟨by omega, by omega, ?_⟩
    rw [itoa_nonneg, dec_of_canon _ l rfl hcan]

theorem dec_len {u : Nat} (h : u ≤ 9223372036854775808) : (decDigits u).length ≤ 19 := by
  rw [decDigits_length]
  rcases Nat.lt_or_ge (nDigits u) 20 with h1 | h1
  · omega
  · exfalso
    have hb : ∀ k u, u < 10 ^ (k + 1) → nDigits u ≤ k + 1 := by
      intro k
      induction k with
      | zero => intro u hu; rw [nDigits_small (by simpa using hu)]; omega
      | succ k ih =>
        intro u hu
        by_cases h : u < 10
        · rw [nDigits_small h]; omega
        · rw [nDigits_big h]
          rw [Nat.pow_succ] at hu
          have := ih (u / 10) (by omega)
          omega
    have := hb 18 u (by have : (10 : Nat) ^ (18 + 1) = 10000000000000000000 := by decide
                        omega)
    omega

theorem refNum_itoa {v : Int} (h0 : -9223372036854775808 ≤ v) (h1 : v ≤ 9223372036854775807) : refNum (itoa v) = some v := by
  by_cases hv : v < 0
  · obtain ⟨u, rfl⟩ : ∃ u : Nat, v = -(u : Int) := ⟨v.natAbs, by omega⟩
    have hu : 1 ≤ u := by omega
    rw [itoa_neg u hu]
    obtain ⟨⟨hne, hd, hz⟩, hval, hp⟩ := canon_dec u
    have hlen := dec_len (show u ≤ 9223372036854775808 by omega)
    unfold refNum
    simp only [List.head?_cons, decide_true, if_true, List.tail_cons]
    rw [if_neg (by
      rintro (h | h | ⟨h, _⟩)
      · exact hne h
      · omega
      · exact hp hu h), if_neg (by simpa using hd), hval, if_neg (by omega)]
  · obtain ⟨u, rfl⟩ : ∃ u : Nat, v = (u : Int) := ⟨v.toNat, by omega⟩
    rw [itoa_nonneg]
    obtain ⟨⟨hne, hd, hz⟩, hval, hp⟩ := canon_dec u
    have hlen := dec_len (show u ≤ 9223372036854775808 by omega)
    have hneg : (decDigits u).head? ≠ some 45 := by
      cases hq : decDigits u with
      | nil => simp
      | cons a r =>
        intro e
        simp only [List.head?_cons, Option.some.injEq] at e
        have := isDg_iff.1 (hd a (by rw [hq]; simp))
        rw [e] at this
        have h45 : (45 : UInt8).toNat = 45 := rfl
        omega
    unfold refNum
    simp only [hneg, decide_false, Bool.false_eq_true, if_false]
    rw [if_neg (by
      rintro (h | h | ⟨h, h2 | h2⟩)
      · exact hne h
      · omega
      · have := hz h; omega
      · exact h2), if_neg (by simpa using hd), hval, if_neg (by omega)]

theorem uintM_digits : ∀ (l : List UInt8) (acc : Nat), (∀ c ∈ l, isDg c = true) → dval acc l ≤ 18446744073709551615 → parseUintM 18446744073709551615 acc l = .ok (dval acc l)
  | [], acc, _, _ => rfl
  | c :: r, acc, hd, h => by
    have hc := isDg_iff.1 (hd c (by simp))
    rw [dval_cons, dg1_eq] at h
    have hg := dval_ge r (acc * 10 + (c.toNat - 48))
    rw [parseUintM, if_pos hc, if_neg (by omega), if_neg (by omega), uintM_digits r _ (fun x hx => hd x (by simp [hx])) h, dval_cons, dg1_eq]

theorem parse_itoa {v : Int} (h0 : -9223372036854775808 ≤ v) (h1 : v ≤ 9223372036854775807) : parseIntB 64 (itoa v) = .ok v := by
  by_cases hv : v < 0
  · obtain ⟨u, rfl⟩ : ∃ u : Nat, v = -(u : Int) := ⟨v.natAbs, by omega⟩
    have hu : 1 ≤ u := by omega
    rw [itoa_neg u hu]
    obtain ⟨⟨hne, hd, hz⟩, hval, hp⟩ := canon_dec u
    unfold parseIntB parseUintB
    simp only [show (45 : UInt8).toNat = 45 from rfl, or_true, if_true, if_neg hne]
    rw [show (2 : Nat) ^ 64 - 1 = 18446744073709551615 from by decide, uintM_digits _ 0 hd (by omega)]
    simp only [hval, not_true, false_and, if_false, true_and]
    rw [if_neg (by omega)]
  · obtain ⟨u, rfl⟩ : ∃ u : Nat, v = (u : Int) := ⟨v.toNat, by omega⟩
    rw [itoa_nonneg]
    obtain ⟨⟨hne, hd, hz⟩, hval, hp⟩ := canon_dec u
    cases hq : decDigits u with
    | nil => exact absurd hq hne
    | cons a r =>
      have ha := isDg_iff.1 (hd a (by rw [hq]; simp))
      unfold parseIntB parseUintB
      simp only
      rw [if_neg (show ¬ (a.toNat = 43 ∨ a.toNat = 45) by omega)]
      rw [← hq]
      simp only [if_neg hne]
      rw [show (2 : Nat) ^ 64 - 1 = 18446744073709551615 from by decide, uintM_digits _ 0 hd (by omega)]
      simp only [hval]
      rw [if_neg (by omega), if_neg (by omega), if_neg (by omega)]

/-- The two ways to tell a number agree. -/
theorem num_iff (l : List UInt8) (v : Int) : refNum l = some v ↔ parseIntB 64 l = .ok v ∧ itoa v = l := by
  constructor
  · intro h
    obtain ⟨h0, h1, h2⟩ := refNum_some h
    exact ⟨by rw [← h2]; exact parse_itoa h0 h1, h2⟩
  · rintro ⟨h, h2⟩
    have hb := parseIntB_bounds h
    rw [← h2]
    exact refNum_itoa (by simpa using hb.1) (by have := hb.2; simp at this; omega)
end Go.Proofs.YtgmnbdfbbcpciaaGreatDoor
namespace Go.Proofs.YtgmnbdfbbcpciaaGreatDoor
open Go.RowKit Go.Lib
set_option linter.unusedVariables false

def numV (s : ByteArray) : Int := (refNum s.data.toList).getD 0
def numB (s : ByteArray) : Bool := (refNum s.data.toList).isSome
theorem num_none {s : ByteArray} (h : refNum s.data.toList = none) : (Value.int .i64 0 = .int .i64 (numV s)) ∧ (Value.bool false = .bool (numB s)) := by unfold numV numB; rw [h]; exact ⟨rfl, rfl⟩
theorem num_some {s : ByteArray} {v : Int} (h : refNum s.data.toList = some v) : (Value.int .i64 v = .int .i64 (numV s)) ∧ (Value.bool true = .bool (numB s)) := by unfold numV numB; rw [h]; exact ⟨rfl, rfl⟩

end Go.Proofs.YtgmnbdfbbcpciaaGreatDoor
namespace Go.Proofs.YtgmnbdfbbcpciaaGreatDoor
open Go.RowKit Go.Lib
set_option linter.unusedVariables false

/-- Digits read up to a place. -/
def dTo (t : ByteArray) (i : Nat) : Nat := dval 0 (t.data.toList.take i)
theorem dTo_zero (t : ByteArray) : dTo t 0 = 0 := by unfold dTo; rw [List.take_zero, dval_nil]
theorem pk_get (t : ByteArray) (i : Nat) (h : i < t.size) : t.data.toList[i]? = some (pk t i) := by
  unfold pk
  rw [List.getD_eq_getElem?_getD, List.getElem?_eq_getElem (by simpa using h)]; rfl
theorem dTo_succ (t : ByteArray) (i : Nat) (h : i < t.size) : dTo t (i + 1) = dTo t i * 10 + ((pk t i).toNat - 48) := by
  unfold dTo
  rw [List.take_add_one, pk_get t i h, Option.toList_some, dval_snoc]
theorem dTo_all (t : ByteArray) : dTo t t.size = dval 0 t.data.toList := by
  unfold dTo; rw [List.take_of_length_le (by simp)]
theorem dTo_lt (t : ByteArray) (i : Nat) (hi : i ≤ t.size) (h : ∀ j, j < i → isDg (pk t j) = true) : dTo t i < 10 ^ i := by
  have := dval_lt (t.data.toList.take i) 0 (by
    intro c hc
    obtain ⟨j, hj, rfl⟩ := List.mem_iff_getElem.1 hc
    have hji : j < i := by simp at hj; omega
    have := h j hji
    have e := pk_get t j (by omega)
    rw [List.getElem_take]
    rw [List.getElem?_eq_getElem (by simp; omega)] at e
    injection e with e
    rw [e]; exact this)
  rw [List.length_take, Nat.min_eq_left (by simpa using hi)] at this
  unfold dTo
  omega
theorem all_dg (t : ByteArray) (h : ∀ j, j < t.size → isDg (pk t j) = true) : t.data.toList.all isDg = true := by
  rw [List.all_eq_true]
  intro c hc
  obtain ⟨j, hj, rfl⟩ := List.mem_iff_getElem.1 hc
  have hj2 : j < t.size := by simpa using hj
  have e := pk_get t j hj2
  rw [List.getElem?_eq_getElem hj] at e
  injection e with e
  rw [e]; exact h j hj2
theorem not_all_dg (t : ByteArray) (i : Nat) (hi : i < t.size) (h : isDg (pk t i) = false) : t.data.toList.all isDg = false := by
  rw [List.all_eq_false]
  have e := pk_get t i hi
  exact ⟨pk t i, List.mem_of_getElem? e, by rw [h]; simp⟩

end Go.Proofs.YtgmnbdfbbcpciaaGreatDoor
namespace Go.Proofs.YtgmnbdfbbcpciaaGreatDoor
open Go.RowKit Go.Lib
set_option linter.unusedVariables false

theorem digB_isDg (c : UInt8) : digB c = isDg c := by
  cases h : isDg c with
  | true => have := isDg_iff.1 h; unfold digB; exact decide_eq_true this
  | false => unfold digB; refine decide_eq_false fun e => ?_; rw [isDg_iff.2 e] at h; cases h
theorem pk_drop {s : ByteArray} {i : Nat} {c : UInt8} {r : List UInt8} (h : s.data.toList.drop i = c :: r) : pk s i = c ∧ s.data.toList.drop (i + 1) = r := by
  constructor
  · unfold pk
    rw [List.getD_eq_getElem?_getD, ← List.head?_drop, h]; rfl
  · rw [← List.drop_drop, h]; rfl
theorem pk_end {s : ByteArray} {i : Nat} (h : s.data.toList.drop i = []) : pk s i = 0 := by
  unfold pk
  rw [List.getD_eq_getElem?_getD, ← List.head?_drop, h]; rfl
/-- No digit goes on. -/
def NoDg (r : List UInt8) : Prop := ∀ c t, r = c :: t → isDg c = false
theorem pk_nodg {s : ByteArray} {i : Nat} {r : List UInt8} (h : s.data.toList.drop i = r) (hr : NoDg r) : digB (pk s i) = false := by
  cases r with
  | nil => rw [pk_end h]; decide
  | cons c t => rw [(pk_drop h).1, digB_isDg]; exact hr c t rfl

/-- The reader's loop over the digits of a number. -/
theorem numLoop_run (s : ByteArray) (low high : Int) (neg : Bool) (lim : Nat) (hn : neg = true → low = -(lim : Int)) (hp : neg = false → high = lim) (h1 : lim ≤ 9223372036854775808) (r : List UInt8) (hr : NoDg r) :
    ∀ (l : List UInt8) (f i a : Nat), (∀ c ∈ l, isDg c = true) → s.data.toList.drop i = l ++ r → l.length < f → a ≤ lim →
      if dval a l ≤ lim then numLoop s low high neg f i (-(a : Int)) = (i + l.length, true, -(dval a l : Int)) else ∃ j, numLoop s low high neg f i (-(a : Int)) = (j, false, 0)
  | [], f + 1, i, a, _, hd, _, ha => by
    rw [dval_nil, if_pos ha, numLoop_end _ _ _ _ _ _ _ (pk_nodg hd hr)]; rfl
  | c :: t, f + 1, i, a, hd, hs, hf, ha => by
    have hc := hd c (by simp)
    have hcr := isDg_iff.1 hc
    obtain ⟨hk, hs'⟩ := pk_drop hs
    have hg := dval_ge t (a * 10 + dg1 c)
    rw [dval_cons]
    have hd1 := dg1_eq c
    by_cases hlim : a * 10 + dg1 c ≤ lim
    · have ih := numLoop_run s low high neg lim hn hp h1 r hr t f (i + 1) (a * 10 + dg1 c) (fun x hx => hd x (by simp [hx])) hs' (by simp only [List.length_cons] at hf; omega) hlim
      rw [numLoop_step _ _ _ _ _ _ _ (by rw [hk, digB_isDg]; exact hc) (by
        rw [hk]
        cases neg with
        | true => have := hn rfl; simp only [true_and, false_and, or_false, Bool.true_eq_false]; omega
        | false => have := hp rfl; simp only [true_and, false_and, false_or, Bool.false_eq_true]; omega), hk, show 10 * -(a : Int) - ((c.toNat : Int) - 48) = -((a * 10 + dg1 c : Nat) : Int) by omega,
        show i + (c :: t).length = i + 1 + t.length by rw [List.length_cons]; omega]
      exact ih
    · rw [if_neg (by omega)]
      refine ⟨i, numLoop_bad _ _ _ _ _ _ _ (by rw [hk, digB_isDg]; exact hc) ?_⟩
      rw [hk]
      cases neg with
      | true => have := hn rfl; simp only [true_and, false_and, or_false, Bool.true_eq_false]; omega
      | false => have := hp rfl; simp only [true_and, false_and, false_or, Bool.false_eq_true]; omega

/-- A numeral at a place: the number, where it lies within the bounds. -/
theorem numSp_itoa (s : ByteArray) (lo hi : Nat) (hlo : lo ≤ 9223372036854775808) (hhi : hi ≤ 9223372036854775807) (v : Int) (r : List UInt8) (hr : NoDg r) (i : Nat) (hs : s.data.toList.drop i = itoa v ++ r) :
    if -(lo : Int) ≤ v ∧ v ≤ hi then numSp s (-(lo : Int)) hi i = (i + (itoa v).length, true, v) else ∃ j n, numSp s (-(lo : Int)) hi i = (j, false, n) := by
  have hlen : (itoa v ++ r).length ≤ s.size := by rw [← hs, List.length_drop, Array.length_toList]; exact Nat.sub_le _ _
  rw [List.length_append] at hlen
  by_cases hv : v < 0
  · obtain ⟨u, rfl⟩ : ∃ u : Nat, v = -(u : Int) := ⟨v.natAbs, by omega⟩
    have hu : 1 ≤ u := by omega
    rw [itoa_neg u hu] at hs hlen ⊢
    obtain ⟨⟨hne, hd, hz⟩, hval, hp⟩ := canon_dec u
    obtain ⟨hk, hs'⟩ := pk_drop hs
    have run := numLoop_run s (-(lo : Int)) hi true lo (fun _ => rfl) (fun h => by cases h) hlo r hr (decDigits u) (s.size + 1) (i + 1) 0 hd hs' (by simp only [List.length_cons] at hlen; omega) (Nat.zero_le _)
    rw [hval] at run
    have hfirst : ¬ (digB (pk s (i + 1)) = false ∨ pk s (i + 1) = 48) := by
      cases hq : decDigits u with
      | nil => exact absurd hq hne
      | cons a t =>
        rw [hq] at hs'
        obtain ⟨hk1, _⟩ := pk_drop hs'
        rw [hk1, digB_isDg, hd a (by rw [hq]; simp)]
        rintro (h | h)
        · cases h
        · exact hp hu (by rw [hq, h]; rfl)
    have hsp : numSp s (-(lo : Int)) hi i = numLoop s (-(lo : Int)) hi true (s.size + 1) (i + 1) 0 := by unfold numSp; rw [if_pos hk, if_neg hfirst]
    rw [hsp]
    by_cases hin : u ≤ lo
    · rw [if_pos hin] at run
      rw [if_pos (by omega)]
      rw [show (0 : Int) = -((0 : Nat) : Int) from rfl, run, List.length_cons]
      simp only [Prod.mk.injEq, and_true]; omega
    · rw [if_neg hin] at run
      rw [if_neg (by omega)]
      obtain ⟨j, hj⟩ := run
      exact ⟨j, 0, hj⟩
  · obtain ⟨u, rfl⟩ : ∃ u : Nat, v = (u : Int) := ⟨v.toNat, by omega⟩
    rw [itoa_nonneg] at hs hlen ⊢
    obtain ⟨⟨hne, hd, hz⟩, hval, hp⟩ := canon_dec u
    have run := numLoop_run s (-(lo : Int)) hi false hi (fun h => by cases h) (fun _ => rfl) (by omega) r hr (decDigits u) (s.size + 1) i 0 hd hs (by omega) (Nat.zero_le _)
    rw [hval] at run
    cases hq : decDigits u with
    | nil => exact absurd hq hne
    | cons a t =>
      rw [hq] at hs
      obtain ⟨hk, _⟩ := pk_drop hs
      have had := hd a (by rw [hq]; simp)
      have har := isDg_iff.1 had
      have hn45 : ¬ pk s i = 45 := by
        rw [hk]; intro e; rw [e] at had; exact absurd had (by decide)
      rw [← hq]
      by_cases h48 : a = 48
      · have hl1 := hz (by rw [hq, h48]; rfl)
        have ht : t = [] := by rw [hq] at hl1; simpa using hl1
        have hu0 : u = 0 := by rw [← hval, hq, ht, h48, dval_cons, dval_nil, dg1_eq]; rfl
        subst hu0
        rw [if_pos (by omega), hl1]
        unfold numSp
        rw [if_neg hn45, if_pos (by rw [hk, h48])]; rfl
      · have hsp : numSp s (-(lo : Int)) hi i = negR (numLoop s (-(lo : Int)) hi false (s.size + 1) i 0) := by
          unfold numSp; rw [if_neg hn45, if_neg (by rw [hk]; exact h48), if_neg (by rw [hk, digB_isDg, had]; decide)]
        rw [hsp]
        by_cases hin : u ≤ hi
        · rw [if_pos hin] at run
          rw [if_pos (by omega), show (0 : Int) = -((0 : Nat) : Int) from rfl, run]
          unfold negR; simp
        · rw [if_neg hin] at run
          rw [if_neg (by omega)]
          obtain ⟨j, hj⟩ := run
          refine ⟨j, 0, ?_⟩
          rw [show (0 : Int) = -((0 : Nat) : Int) from rfl, hj]; rfl

theorem itoa_ne (v : Int) : itoa v ≠ [] := by
  by_cases hv : v < 0
  · obtain ⟨u, rfl⟩ : ∃ u : Nat, v = -(u : Int) := ⟨v.natAbs, by omega⟩
    rw [itoa_neg u (by omega)]; simp
  · obtain ⟨u, rfl⟩ : ∃ u : Nat, v = (u : Int) := ⟨v.toNat, by omega⟩
    rw [itoa_nonneg]; exact (canon_dec u).1.1
theorem refNum_zero {l : List UInt8} (h : l ≠ []) : refNum (48 :: l) = none := by
  unfold refNum
  have : ¬ ((48 : UInt8) :: l).head? = some 45 := by simp
  simp only [this, decide_false, Bool.false_eq_true, if_false]
  rw [if_pos]
  refine .inr (.inr ⟨rfl, .inl ?_⟩)
  cases l with
  | nil => exact absurd rfl h
  | cons a r => simp
theorem refNum_bad {l : List UInt8} (c : UInt8) (hc : c ∈ l) (h1 : isDg c = false) (h2 : c ≠ 45) : refNum l = none := by
  unfold refNum
  have hall : ∀ t : List UInt8, c ∈ t → t.all isDg = false := fun t ht => by
    rw [Bool.eq_false_iff]; intro e; rw [List.all_eq_true] at e; rw [e c ht] at h1; cases h1
  by_cases hn : l.head? = some 45
  · obtain ⟨t, rfl⟩ : ∃ t, l = 45 :: t := by
      cases l with
      | nil => simp at hn
      | cons a r => simp only [List.head?_cons, Option.some.injEq] at hn; exact ⟨r, by rw [hn]⟩
    simp only [List.head?_cons, decide_true, if_true, List.tail_cons]
    split
    · rfl
    · rw [if_pos (hall t (by rcases List.mem_cons.1 hc with h | h; exact absurd h h2; exact h))]
  · simp only [hn, decide_false, Bool.false_eq_true, if_false]
    split
    · rfl
    · rw [if_pos (hall l hc)]
end Go.Proofs.YtgmnbdfbbcpciaaGreatDoor
namespace Go.Proofs.YtgmnbdfbbcpciaaGreatDoor
open Go.RowKit Go.Lib
set_option linter.unusedVariables false

/-- Each byte c as another text. -/
def repL (c : UInt8) (new : List UInt8) : List UInt8 → List UInt8
  | [] => []
  | x :: r => if x = c then new ++ repL c new r else x :: repL c new r
theorem replaceK_one (c : UInt8) (new : List UInt8) : ∀ l : List UInt8, replaceK [c] new (count l [c]) l = repL c new l
  | [] => by rw [show count [] [c] = 0 from by rw [count_one]; rfl]; rfl
  | x :: r => by
    by_cases h : x = c
    · subst h
      have hi : index (x :: r) [x] = ((0 : Nat) : Int) := by rw [index_one]; simp [indexByte]
      rw [count_cons_eq, Nat.add_comm, replaceK_hit _ _ _ _ 0 hi]
      simp only [List.take_zero, List.nil_append, Nat.zero_add, List.length_singleton, List.drop_succ_cons, List.drop_zero]
      rw [replaceK_one x new r, repL, if_pos rfl]
    · rw [count_cons_ne _ _ _ h, repL, if_neg h, ← replaceK_one c new r]
      cases hk : count r [c] with
      | zero => rfl
      | succ k =>
        obtain ⟨i, hi⟩ := index_of_count (s := r) (old := [c]) (by omega)
        have hi2 : index (x :: r) [c] = ((i + 1 : Nat) : Int) := by
          rw [index_one] at hi ⊢
          rw [indexByte, if_neg (by simpa using h), hi]
          split
          · rename_i e; have := beq_iff_eq.1 e; omega
          · rw [Int.natCast_add]; rfl
        rw [replaceK_hit _ _ _ _ i hi, replaceK_hit _ _ _ _ (i + 1) hi2]
        simp only [List.take_succ_cons, List.cons_append, List.length_singleton, List.drop_succ_cons]
theorem replaceAll_one (c : UInt8) (new l : List UInt8) (h : new ≠ [c]) : replaceAll l [c] new = repL c new l := by
  unfold replaceAll replace replaceNum
  rw [if_neg (by simpa using fun e => h e.symm), if_pos (.inl (by decide)), replaceK_one]
theorem repL_app (c : UInt8) (new : List UInt8) : ∀ a b : List UInt8, repL c new (a ++ b) = repL c new a ++ repL c new b
  | [], b => rfl
  | x :: r, b => by
    rw [List.cons_append, repL, repL, repL_app c new r b]
    split
    · rw [List.append_assoc]
    · rfl

/-- A text with its signs. -/
def escL : List UInt8 → List UInt8
  | [] => []
  | x :: r => if x = 34 ∨ x = 92 then 92 :: x :: escL r else x :: escL r
theorem esc_rep : ∀ l : List UInt8, repL 34 [92, 34] (repL 92 [92, 92] l) = escL l
  | [] => rfl
  | x :: r => by
    rw [escL, repL]
    by_cases h92 : x = 92
    · subst h92
      rw [if_pos rfl, if_pos (.inr rfl), repL_app, esc_rep r]; rfl
    · rw [if_neg h92, repL, esc_rep r]
      by_cases h34 : x = 34
      · subst h34; rw [if_pos rfl, if_pos (.inl rfl)]; rfl
      · rw [if_neg h34, if_neg (by rintro (e | e); exact h34 e; exact h92 e)]
theorem escL_len : ∀ l : List UInt8, l.length ≤ (escL l).length ∧ (escL l).length ≤ 2 * l.length
  | [] => ⟨Nat.le_refl _, Nat.le_refl _⟩
  | x :: r => by
    have := escL_len r
    rw [escL]
    split <;> simp only [List.length_cons] <;> omega
theorem rep92_len (l : List UInt8) : (repL 92 [92, 92] l).length ≤ 2 * l.length := by
  induction l with
  | nil => exact Nat.le_refl _
  | cons x r ih => rw [repL]; split <;> simp only [List.length_append, List.length_cons, List.length_nil] <;> omega
def quoL (l : List UInt8) : List UInt8 := 34 :: (escL l ++ [34])

/-- The text of one value, the texts of its items given. -/
def txt1 (k n : Int) (s : ByteArray) (l : List (List UInt8)) : List UInt8 :=
  if k = 0 then itoa n else if k = 1 then 35 :: itoa n else if k = 2 then quoL s.data.toList else if k = 3 then (nmS n).data.toList else 123 :: (join l [44, 32] ++ [125])
/-- The texts of values. -/
def txtL : VL → List (List UInt8)
  | .nil => []
  | .cons k n s sub rest => txt1 k n s (txtL sub) :: txtL rest
theorem txtL_app : ∀ a b : VL, txtL (a.app b) = txtL a ++ txtL b
  | .nil, b => rfl
  | .cons k n s sub r, b => by rw [VL.app, txtL, txtL, txtL_app r b]; rfl
theorem txtL_len : ∀ a : VL, (txtL a).length = a.len
  | .nil => rfl
  | .cons k n s sub r => by rw [txtL, List.length_cons, txtL_len r, VL.len]

/-- How much values take. -/
def cost : VL → Int
  | .nil => 0
  | .cons k n s sub rest => 1 + mOf k s + cost sub + cost rest
theorem cost_ge : ∀ l : VL, 0 ≤ cost l
  | .nil => Int.le_refl _
  | .cons k n s sub rest => by have := cost_ge sub; have := cost_ge rest; have := mOf_ge k s; rw [cost]; omega
theorem walkL_cost : ∀ (l : VL) (deep left : Int), 0 ≤ left → (walkL l deep left).1 = 0 → cost l ≤ left ∧ (walkL l deep left).2 = left - cost l
  | .nil, deep, left, h, _ => ⟨h, by rw [cost]; unfold walkL; simp only; omega⟩
  | .cons k n s sub rest, deep, left, h, hw => by
    have hm := mOf_ge k s
    rw [walkL_cons] at hw ⊢
    by_cases h1 : (walk1 k n s sub deep left).1 = 0
    · rw [if_pos h1] at hw ⊢
      have hx : 1 + mOf k s + cost sub ≤ left ∧ (walk1 k n s sub deep left).2 = left - (1 + mOf k s + cost sub) := by
        unfold walk1 at h1 ⊢
        by_cases g1 : 40 < deep
        · rw [if_pos g1] at h1; cases h1
        rw [if_neg g1] at h1 ⊢
        by_cases g2 : left ≤ mOf k s
        · rw [if_pos g2] at h1; cases h1
        rw [if_neg g2] at h1 ⊢
        by_cases g3 : ownE k n s sub.len = 0
        · rw [if_pos g3] at h1 ⊢
          have := walkL_cost sub (deep + 1) (left - (1 + mOf k s)) (by omega) h1
          omega
        · rw [if_neg g3] at h1; exact absurd h1 g3
      have := walkL_cost rest deep _ (by omega) hw
      rw [cost]; omega
    · rw [if_neg h1] at hw; exact absurd hw h1
theorem walk1_cost (k n : Int) (s : ByteArray) (sub : VL) (deep left : Int) (h : 0 ≤ left) (hw : (walk1 k n s sub deep left).1 = 0) : 1 + mOf k s + cost sub ≤ left := by
  have := walkL_cost (.cons k n s sub .nil) deep left h (by rw [walkL_cons, if_pos hw]; rfl)
  rw [cost, cost] at this; omega
/-- Values that are right, and what follows of each. -/
def OkL : VL → Int → Prop
  | .nil, _ => True
  | .cons k n s sub rest, d => ownE k n s sub.len = 0 ∧ d ≤ 40 ∧ OkL sub (d + 1) ∧ OkL rest d
theorem walkL_ok : ∀ (l : VL) (deep left : Int), (walkL l deep left).1 = 0 → OkL l deep
  | .nil, _, _, _ => trivial
  | .cons k n s sub rest, deep, left, hw => by
    rw [walkL_cons] at hw
    by_cases h1 : (walk1 k n s sub deep left).1 = 0
    · rw [if_pos h1] at hw
      have hr := walkL_ok rest deep _ hw
      unfold walk1 at h1
      by_cases g1 : 40 < deep
      · rw [if_pos g1] at h1; cases h1
      rw [if_neg g1] at h1
      by_cases g2 : left ≤ mOf k s
      · rw [if_pos g2] at h1; cases h1
      rw [if_neg g2] at h1
      by_cases g3 : ownE k n s sub.len = 0
      · rw [if_pos g3] at h1
        exact ⟨g3, by omega, walkL_ok sub (deep + 1) _ h1, hr⟩
      · rw [if_neg g3] at h1; exact absurd h1 g3
    · rw [if_neg h1] at hw; exact absurd hw h1
theorem OkL_one {k n : Int} {s : ByteArray} {sub : VL} {d : Int} (h : OkL (val1 k n s sub) d) : ownE k n s sub.len = 0 ∧ OkL sub (d + 1) := ⟨h.1, h.2.2.1⟩
theorem walk1_ok {k n : Int} {s : ByteArray} {sub : VL} {deep left : Int} (hw : (walk1 k n s sub deep left).1 = 0) : OkL (val1 k n s sub) deep :=
  walkL_ok (val1 k n s sub) deep left (by unfold val1; rw [walkL_cons, if_pos hw]; rfl)

/-- What own says where all is right. -/
theorem own_ok {k n : Int} {s : ByteArray} {len : Nat} (h : ownE k n s len = 0) :
    (k = 0 ∧ s.data.toList = [] ∧ len = 0) ∨ (k = 1 ∧ -2147483648 ≤ n ∧ n ≤ 2147483647 ∧ s.data.toList = [] ∧ len = 0) ∨ (k = 2 ∧ n = 0 ∧ len = 0 ∧ prB s.data.toList = true) ∨ (k = 3 ∧ 0 ≤ n ∧ n ≤ 14 ∧ s.data.toList = [] ∧ len = 0) ∨ (k = 4 ∧ n = 0 ∧ s.data.toList = []) := by
  unfold ownE at h
  by_cases h1 : k < 0 ∨ 4 < k
  · rw [if_pos h1] at h; cases h
  rw [if_neg h1] at h
  by_cases h2 : k = 1 ∧ (n < -2147483648 ∨ 2147483647 < n)
  · rw [if_pos h2] at h; cases h
  rw [if_neg h2] at h
  by_cases h3 : k = 3 ∧ (n < 0 ∨ 14 < n)
  · rw [if_pos h3] at h; cases h
  rw [if_neg h3] at h
  by_cases h4 : (k ≠ 2 ∧ s.data.toList ≠ []) ∨ (k ≠ 4 ∧ 0 < len) ∨ ((k = 2 ∨ k = 4) ∧ n ≠ 0)
  · rw [if_pos h4] at h; cases h
  rw [if_neg h4] at h
  by_cases h5 : prB s.data.toList = false
  · rw [if_pos h5] at h; cases h
  have hs : k ≠ 2 → s.data.toList = [] := fun hk => by
    by_cases e : s.data.toList = []
    · exact e
    · exact absurd (.inl ⟨hk, e⟩) h4
  have hl : k ≠ 4 → len = 0 := fun hk => by
    by_cases e : 0 < len
    · exact absurd (.inr (.inl ⟨hk, e⟩)) h4
    · omega
  have hn : (k = 2 ∨ k = 4) → n = 0 := fun hk => by
    by_cases e : n = 0
    · exact e
    · exact absurd (.inr (.inr ⟨hk, e⟩)) h4
  have hk : k = 0 ∨ k = 1 ∨ k = 2 ∨ k = 3 ∨ k = 4 := by omega
  rcases hk with rfl | rfl | rfl | rfl | rfl
  · exact .inl ⟨rfl, hs (by decide), hl (by decide)⟩
  · exact .inr (.inl ⟨rfl, by omega, by omega, hs (by decide), hl (by decide)⟩)
  · exact .inr (.inr (.inl ⟨rfl, hn (.inl rfl), hl (by decide), by simpa using h5⟩))
  · exact .inr (.inr (.inr (.inl ⟨rfl, by omega, by omega, hs (by decide), hl (by decide)⟩)))
  · exact .inr (.inr (.inr (.inr ⟨rfl, hn (.inr rfl), hs (by decide)⟩)))

theorem nmS_len (n : Int) (h0 : 0 ≤ n) (h1 : n ≤ 14) : (nmS n).data.toList.length ≤ 20 := by
  obtain ⟨j, rfl⟩ : ∃ j : Nat, n = j := ⟨n.toNat, by omega⟩
  have hj : j < 15 := by omega
  rw [nmS_at j hj]
  have : ∀ j : Fin 15, (nmL.getD j.val ByteArray.empty).data.toList.length ≤ 20 := by decide +kernel
  exact this ⟨j, hj⟩
theorem itoa_len {v : Int} (h0 : -9223372036854775808 ≤ v) (h1 : v ≤ 9223372036854775807) : (itoa v).length ≤ 20 := by
  by_cases hv : v < 0
  · obtain ⟨u, rfl⟩ : ∃ u : Nat, v = -(u : Int) := ⟨v.natAbs, by omega⟩
    rw [itoa_neg u (by omega), List.length_cons]
    have := dec_len (show u ≤ 9223372036854775808 by omega); omega
  · obtain ⟨u, rfl⟩ : ∃ u : Nat, v = (u : Int) := ⟨v.toNat, by omega⟩
    rw [itoa_nonneg]
    have := dec_len (show u ≤ 9223372036854775808 by omega); omega
/-- All numbers are of 64 bits. -/
def VL.i64 : VL → Prop
  | .nil => True
  | .cons _ n _ sub rest => -9223372036854775808 ≤ n ∧ n ≤ 9223372036854775807 ∧ sub.i64 ∧ rest.i64
theorem join_len (l : List (List UInt8)) : (join l [44, 32]).length ≤ (l.map fun x => x.length + 2).sum := by
  cases l with
  | nil => exact Nat.le_refl _
  | cons x r =>
    rw [join_length]
    have : ∀ l : List (List UInt8), (l.map fun x => x.length + 2).sum = lens l + 2 * l.length := by
      intro l
      induction l with
      | nil => rfl
      | cons a t ih => simp only [List.map_cons, List.sum_cons, ih, lens, List.length_cons]; omega
    rw [this]
    simp only [List.length_cons, List.length_nil]; omega
theorem txtL_len_le : ∀ (l : VL) (d : Int), OkL l d → l.i64 → ((((txtL l).map fun x => x.length + 2).sum : Nat) : Int) ≤ 24 * cost l
  | .nil, _, _, _ => Int.le_refl _
  | .cons k n s sub rest, d, h, h64 => by
    have ihs := txtL_len_le sub (d + 1) h.2.2.1 h64.2.2.1
    have ihr := txtL_len_le rest d h.2.2.2 h64.2.2.2
    have hc := cost_ge sub
    have hit := itoa_len h64.1 h64.2.1
    have hj := join_len (txtL sub)
    have he := escL_len s.data.toList
    have hsz : s.data.toList.length = s.size := by rw [Array.length_toList]; rfl
    rw [txtL, List.map_cons, List.sum_cons, cost]
    have h1 : ((txt1 k n s (txtL sub)).length : Int) ≤ 22 + 24 * (mOf k s + cost sub) := by
      rcases own_ok h.1 with ⟨rfl, _⟩ | ⟨rfl, _⟩ | ⟨rfl, _⟩ | ⟨rfl, h0, h1, _⟩ | ⟨rfl, _⟩
      · have : mOf 0 s = 0 := rfl
        show ((itoa n).length : Int) ≤ _
        omega
      · have : mOf 1 s = 0 := rfl
        show ((35 :: itoa n).length : Int) ≤ _
        rw [List.length_cons]; omega
      · have : mOf 2 s = s.size := rfl
        show ((quoL s.data.toList).length : Int) ≤ _
        unfold quoL
        rw [List.length_cons, List.length_append, List.length_singleton]; omega
      · have : mOf 3 s = 0 := rfl
        have := nmS_len n h0 h1
        show (((nmS n).data.toList).length : Int) ≤ _
        omega
      · have : mOf 4 s = 0 := rfl
        show ((123 :: (join (txtL sub) [44, 32] ++ [125])).length : Int) ≤ _
        rw [List.length_cons, List.length_append, List.length_singleton]; omega
    omega
end Go.Proofs.YtgmnbdfbbcpciaaGreatDoor
namespace Go.Proofs.YtgmnbdfbbcpciaaGreatDoor
open Go.RowKit Go.Lib
set_option linter.unusedVariables false

/-- The letters of a name are at hand, from the k-th on. -/
def NmAt (s : ByteArray) (i : Nat) (n : ByteArray) (k : Nat) : Prop := ∀ j, k ≤ j → j < n.size → i + j < s.size ∧ pk s (i + j) = pk n j
theorem cpl_full (s : ByteArray) (i : Nat) (n : ByteArray) : ∀ (f k : Nat), k ≤ n.size → n.size ≤ k + f → NmAt s i n k → cpl s i n f k = n.size
  | 0, k, hk, hf, h => by unfold cpl; omega
  | f + 1, k, hk, hf, h => by
    unfold cpl
    by_cases hlt : k < n.size
    · obtain ⟨h1, h2⟩ := h k (Nat.le_refl _) hlt
      rw [if_pos ⟨hlt, h1, h2⟩]
      exact cpl_full s i n f (k + 1) (by omega) (by omega) (fun j hj hn => h j (by omega) hn)
    · rw [if_neg (fun hc => hlt hc.1)]; omega
theorem cpl_at (s : ByteArray) (i : Nat) (n : ByteArray) : ∀ (f k : Nat), k ≤ n.size → cpl s i n f k = n.size → NmAt s i n k
  | 0, k, hk, h => fun j hj hn => by unfold cpl at h; omega
  | f + 1, k, hk, h => by
    unfold cpl at h
    by_cases hc : k < n.size ∧ i + k < s.size ∧ pk s (i + k) = pk n k
    · rw [if_pos hc] at h
      have ih := cpl_at s i n f (k + 1) (by omega) h
      intro j hj hn
      by_cases e : j = k
      · subst e; exact hc.2
      · exact ih j (by omega) hn
    · rw [if_neg hc] at h
      exact fun j hj hn => by omega
theorem cp_iff (s : ByteArray) (i : Nat) (n : ByteArray) : cp s i n = n.size ↔ NmAt s i n 0 :=
  ⟨fun h => cpl_at s i n _ 0 (Nat.zero_le _) h, fun h => cpl_full s i n _ 0 (Nat.zero_le _) (by omega) h⟩

def nmAt (c : Nat) : ByteArray := nmL.getD c ByteArray.empty
theorem nm_apart : ∀ a b : Fin 15, a ≠ b → ∃ j : Fin 20, j.val < (nmAt a.val).size ∧ j.val < (nmAt b.val).size ∧ pk (nmAt a.val) j.val ≠ pk (nmAt b.val) j.val := by decide +kernel
theorem nm_unique {s : ByteArray} {i a b : Nat} (ha : a < 15) (hb : b < 15) (h1 : NmAt s i (nmAt a) 0) (h2 : NmAt s i (nmAt b) 0) : a = b := by
  by_cases e : a = b
  · exact e
  · obtain ⟨j, hj1, hj2, hne⟩ := nm_apart ⟨a, ha⟩ ⟨b, hb⟩ (by simpa using e)
    exact absurd ((h1 j.val (Nat.zero_le _) hj1).2.symm.trans (h2 j.val (Nat.zero_le _) hj2).2) hne

theorem codeTo_none {s : ByteArray} {i : Nat} : ∀ c, (∀ a, a < c → ¬ NmAt s i (nmAt a) 0) → (codeTo s i c).1 = 0 ∧ (codeTo s i c).2.1 = -1
  | 0, _ => ⟨rfl, rfl⟩
  | c + 1, h => by
    have ih := codeTo_none c (fun a ha => h a (by omega))
    rw [codeTo, codeStep, if_neg (fun hc => h c (by omega) ((cp_iff _ _ _).1 hc.1))]
    exact ih
theorem codeTo_some {s : ByteArray} {i a : Nat} (ha : a < 15) (h : NmAt s i (nmAt a) 0) : ∀ c, a < c → c ≤ 15 → (codeTo s i c).1 = a ∧ (codeTo s i c).2.1 = (nmAt a).size
  | 0, h0, _ => absurd h0 (Nat.not_lt_zero _)
  | c + 1, h0, hc => by
    by_cases e : a = c
    · subst e
      have hn := codeTo_none (s := s) (i := i) a (fun b hb hm => absurd (nm_unique (by omega) ha hm h) (by omega))
      have hcp : cp s i (nmAt a) = (nmAt a).size := (cp_iff _ _ _).2 h
      rw [codeTo, codeStep, if_pos ⟨hcp, by rw [hn.2]; omega⟩]
      exact ⟨rfl, by show ((cp s i (nmAt a) : Nat) : Int) = _; rw [hcp]⟩
    · have ih := codeTo_some ha h c (by omega) (by omega)
      rw [codeTo, codeStep, if_neg (fun hcc => e (nm_unique ha (by omega) h ((cp_iff _ _ _).1 hcc.1)))]
      exact ih
theorem codeSp_of {s : ByteArray} {i a : Nat} (ha : a < 15) (h : NmAt s i (nmAt a) 0) : codeSp s i = (i + (nmAt a).size, true, (a : Int)) := by
  obtain ⟨h1, h2⟩ := codeTo_some ha h 15 (by omega) (Nat.le_refl _)
  unfold codeSp
  simp only [h1, h2]
  rw [if_neg (by omega)]; rfl
theorem nmAt_of {s : ByteArray} {i : Nat} {n : ByteArray} {r : List UInt8} (h : s.data.toList.drop i = n.data.toList ++ r) : NmAt s i n 0 := by
  intro j _ hj
  have hn : n.data.toList.length = n.size := by rw [Array.length_toList]; rfl
  have hs : s.data.toList.length = s.size := by rw [Array.length_toList]; rfl
  have hl : (s.data.toList.drop i).length = (n.data.toList ++ r).length := by rw [h]
  rw [List.length_drop, List.length_append] at hl
  refine ⟨by omega, ?_⟩
  unfold pk
  rw [List.getD_eq_getElem?_getD, List.getD_eq_getElem?_getD, ← List.getElem?_drop, h, List.getElem?_append_left (by omega)]

/-- A text in quotes is read back. -/
theorem strLoop_back (s : ByteArray) (r : List UInt8) : ∀ (l : List UInt8) (f i : Nat) (acc : List UInt8), prB l = true → s.data.toList.drop i = escL l ++ 34 :: r → l.length < f → strLoop s f i acc = (i + (escL l).length, true, acc ++ l)
  | [], f + 1, i, acc, _, hd, _ => by
    rw [strLoop_end _ _ _ _ (pk_drop hd).1, List.append_nil]; rfl
  | c :: t, f + 1, i, acc, hp, hd, hf => by
    have hpc : prC c = true ∧ prB t = true := by unfold prB at hp ⊢; rw [List.all_cons, Bool.and_eq_true] at hp; exact hp
    simp only [List.length_cons] at hf
    by_cases hq : c = 34 ∨ c = 92
    · rw [escL, if_pos hq] at hd ⊢
      obtain ⟨k1, d1⟩ := pk_drop hd
      obtain ⟨k2, d2⟩ := pk_drop d1
      rw [strLoop_esc _ _ _ _ k1 (by rw [k2]; exact hq), k2, strLoop_back s r t f (i + 2) (acc ++ [c]) hpc.2 d2 (by omega)]
      simp only [List.length_cons, List.append_assoc, List.singleton_append, Prod.mk.injEq, and_true]
      omega
    · rw [escL, if_neg hq] at hd ⊢
      obtain ⟨k1, d1⟩ := pk_drop hd
      rw [strLoop_next _ _ _ _ (by rw [k1]; exact fun e => hq (.inl e)) (by rw [k1]; exact fun e => hq (.inr e)) (by rw [k1]; exact hpc.1), k1, strLoop_back s r t f (i + 1) (acc ++ [c]) hpc.2 d1 (by omega)]
      simp only [List.length_cons, List.append_assoc, List.singleton_append, Prod.mk.injEq, and_true]
      omega
theorem strSp_back (s : ByteArray) (r l : List UInt8) (i : Nat) (hp : prB l = true) (hd : s.data.toList.drop i = quoL l ++ r) : strSp s i = (i + (quoL l).length, true, l) := by
  unfold quoL at hd
  rw [List.cons_append, List.append_assoc, List.singleton_append] at hd
  obtain ⟨k1, d1⟩ := pk_drop hd
  have hlen : (escL l ++ 34 :: r).length ≤ s.size := by rw [← d1, List.length_drop, Array.length_toList]; exact Nat.sub_le _ _
  rw [List.length_append] at hlen
  have hle := (escL_len l).1
  have hb := strLoop_back s r l (s.size + 1) (i + 1) [] hp d1 (by omega)
  unfold strSp
  simp only [hb]
  unfold quoL
  simp only [if_true, List.nil_append, List.length_cons, List.length_append, List.length_nil, Prod.mk.injEq, and_true]
  omega
end Go.Proofs.YtgmnbdfbbcpciaaGreatDoor
namespace Go.Proofs.YtgmnbdfbbcpciaaGreatDoor
open Go.RowKit Go.Lib
set_option linter.unusedVariables false

theorem drop_add {l a r : List UInt8} {i : Nat} (h : l.drop i = a ++ r) : l.drop (i + a.length) = r := by
  rw [← List.drop_drop, h, List.drop_left]
/-- What a list's items are read as. -/
def LstBack (s : ByteArray) (l : VL) : Prop := ∀ (d : Int) (f i : Nat) (acc : VL) (r : List UInt8), l ≠ .nil → OkL l d → l.i64 → s.data.toList.drop i = join (txtL l) [44, 32] ++ 125 :: r → 2 * (s.size - i) + 3 ≤ f → lstSp s f i acc = (i + (join (txtL l) [44, 32]).length + 1, true, acc.app l)
/-- What a value is read as. -/
def ValBack (s : ByteArray) (k n : Int) (t : ByteArray) (sub : VL) : Prop := ∀ (d : Int) (f i : Nat) (r : List UInt8), OkL (val1 k n t sub) d → (val1 k n t sub).i64 → s.data.toList.drop i = txt1 k n t (txtL sub) ++ r → NoDg r → 2 * (s.size - i) + 2 ≤ f → valSp s f i = (i + (txt1 k n t (txtL sub)).length, true, val1 k n t sub)

theorem itoa_head (v : Int) : ∃ c t, itoa v = c :: t ∧ (c = 45 ∨ digB c = true) := by
  by_cases hv : v < 0
  · obtain ⟨u, rfl⟩ : ∃ u : Nat, v = -(u : Int) := ⟨v.natAbs, by omega⟩
    rw [itoa_neg u (by omega)]; exact ⟨_, _, rfl, .inl rfl⟩
  · obtain ⟨u, rfl⟩ : ∃ u : Nat, v = (u : Int) := ⟨v.toNat, by omega⟩
    rw [itoa_nonneg]
    obtain ⟨⟨hne, hd, _⟩, _⟩ := canon_dec u
    cases hq : decDigits u with
    | nil => exact absurd hq hne
    | cons c t => exact ⟨c, t, rfl, .inr (by rw [digB_isDg]; exact hd c (by rw [hq]; simp))⟩
theorem nm_head : ∀ c : Fin 15, (nmAt c.val).data.toList.head? = some 69 := by decide +kernel
theorem bytes_empty {t : ByteArray} (h : t.data.toList = []) : t = ByteArray.empty := by
  rcases t with ⟨⟨l⟩⟩
  cases l with
  | nil => rfl
  | cons a r => cases h
theorem bytes_back (t : ByteArray) : (⟨t.data.toList.toArray⟩ : ByteArray) = t := by cases t; simp

theorem val_back {s : ByteArray} {k n : Int} {t : ByteArray} {sub : VL} (ih : LstBack s sub) : ValBack s k n t sub := by
  intro d f i r hok h64 hd hr hf
  have hs : s.data.toList.length = s.size := by rw [Array.length_toList]; rfl
  obtain ⟨g, rfl⟩ : ∃ g, f = g + 1 := ⟨f - 1, by omega⟩
  obtain ⟨hown, hsub⟩ := OkL_one hok
  rw [valSp]
  rcases own_ok hown with ⟨rfl, e1, e2⟩ | ⟨rfl, g0, g1, e1, e2⟩ | ⟨rfl, rfl, e2, hp⟩ | ⟨rfl, g0, g1, e1, e2⟩ | ⟨rfl, rfl, e1⟩
  · have e3 := bytes_empty e1
    have e4 : sub = .nil := by cases sub with | nil => rfl | cons _ _ _ _ _ => exact absurd e2 (Nat.succ_ne_zero _)
    subst e3; subst e4
    have hd' : s.data.toList.drop i = itoa n ++ r := hd
    have sp := numSp_itoa s 9223372036854775808 9223372036854775807 (by omega) (by omega) n r hr i hd'
    rw [if_pos ⟨by have := h64.1; omega, by have := h64.2.1; omega⟩] at sp
    obtain ⟨c, tl, hc, hcd⟩ := itoa_head n
    rw [hc] at hd'
    obtain ⟨k1, _⟩ := pk_drop hd'
    have n35 : ¬ pk s i = 35 := by
      rw [k1]; rintro rfl
      rcases hcd with h | h
      · cases h
      · exact absurd h (by decide)
    rw [if_neg n35, if_pos (by rw [k1]; exact hcd), show (-9223372036854775808 : Int) = -((9223372036854775808 : Nat) : Int) from rfl, show (9223372036854775807 : Int) = ((9223372036854775807 : Nat) : Int) from rfl, sp]
    rfl
  · have e3 := bytes_empty e1
    have e4 : sub = .nil := by cases sub with | nil => rfl | cons _ _ _ _ _ => exact absurd e2 (Nat.succ_ne_zero _)
    subst e3; subst e4
    have hd' : s.data.toList.drop i = 35 :: (itoa n ++ r) := hd
    obtain ⟨k1, d1⟩ := pk_drop hd'
    have sp := numSp_itoa s 2147483648 2147483647 (by omega) (by omega) n r hr (i + 1) d1
    rw [if_pos ⟨by omega, by omega⟩] at sp
    rw [if_pos k1, show (-2147483648 : Int) = -((2147483648 : Nat) : Int) from rfl, show (2147483647 : Int) = ((2147483647 : Nat) : Int) from rfl, sp]
    show (i + 1 + (itoa n).length, true, _) = (i + (35 :: itoa n).length, true, _)
    rw [List.length_cons, Nat.add_assoc, Nat.add_comm 1]
  · have e4 : sub = .nil := by cases sub with | nil => rfl | cons _ _ _ _ _ => exact absurd e2 (Nat.succ_ne_zero _)
    subst e4
    have hd' : s.data.toList.drop i = quoL t.data.toList ++ r := hd
    have sp := strSp_back s r t.data.toList i hp hd'
    have k1 := (pk_drop (show s.data.toList.drop i = 34 :: (escL t.data.toList ++ [34] ++ r) from hd')).1
    rw [if_neg (by rw [k1]; decide), if_neg (by rw [k1]; decide), if_pos k1, sp]
    simp only [bytes_back]; rfl
  · have e3 := bytes_empty e1
    have e4 : sub = .nil := by cases sub with | nil => rfl | cons _ _ _ _ _ => exact absurd e2 (Nat.succ_ne_zero _)
    subst e3; subst e4
    obtain ⟨j, rfl⟩ : ∃ j : Nat, n = j := ⟨n.toNat, by omega⟩
    have hj : j < 15 := by omega
    have hnm : nmS (j : Int) = nmAt j := nmS_at j hj
    have hd' : s.data.toList.drop i = (nmAt j).data.toList ++ r := by rw [← hnm]; exact hd
    have sp := codeSp_of hj (nmAt_of hd')
    have hh := nm_head ⟨j, hj⟩
    have k1 : pk s i = 69 := by
      cases hq : (nmAt j).data.toList with
      | nil => rw [show (nmAt (⟨j, hj⟩ : Fin 15).val).data.toList = [] from hq] at hh; cases hh
      | cons c tl =>
        rw [show (nmAt (⟨j, hj⟩ : Fin 15).val).data.toList = c :: tl from hq] at hh
        injection hh with hh
        rw [hq, hh] at hd'
        exact (pk_drop hd').1
    rw [if_neg (by rw [k1]; decide), if_neg (by rw [k1]; decide), if_neg (by rw [k1]; decide), if_neg (by rw [k1]; decide), sp]
    show (i + (nmAt j).size, true, _) = (i + ((nmS (j : Int)).data.toList).length, true, _)
    rw [hnm, Array.length_toList]; rfl
  · have e3 := bytes_empty e1
    subst e3
    have hd' : s.data.toList.drop i = 123 :: (join (txtL sub) [44, 32] ++ 125 :: r) := by
      rw [hd]; show (123 :: (join (txtL sub) [44, 32] ++ [125])) ++ r = _
      simp
    obtain ⟨k1, d1⟩ := pk_drop hd'
    have hlen := congrArg List.length hd'
    rw [List.length_drop, hs, List.length_cons] at hlen
    rw [if_neg (by rw [k1]; decide), if_neg (by rw [k1]; decide), if_neg (by rw [k1]; decide), if_pos k1]
    by_cases hn : sub = .nil
    · subst hn
      have d1' : s.data.toList.drop (i + 1) = 125 :: r := d1
      rw [if_pos (pk_drop d1').1]; rfl
    · have hne : ¬ pk s (i + 1) = 125 := by
        cases sub with
        | nil => exact absurd rfl hn
        | cons k' n' t' sub' rest =>
          have hk : ∃ c tl, txt1 k' n' t' (txtL sub') = c :: tl ∧ c ≠ 125 := by
            rcases own_ok hsub.1 with ⟨rfl, _⟩ | ⟨rfl, _⟩ | ⟨rfl, _⟩ | ⟨rfl, g0, g1, _⟩ | ⟨rfl, _⟩
            · obtain ⟨c, tl, h, hc⟩ := itoa_head n'
              refine ⟨c, tl, h, ?_⟩
              rintro rfl
              rcases hc with hc | hc
              · cases hc
              · exact absurd hc (by decide)
            · exact ⟨_, _, rfl, by decide⟩
            · exact ⟨_, _, rfl, by decide⟩
            · obtain ⟨j, rfl⟩ : ∃ j : Nat, n' = j := ⟨n'.toNat, by omega⟩
              have hj : j < 15 := by omega
              have hh := nm_head ⟨j, hj⟩
              have hnm : nmS (j : Int) = nmAt j := nmS_at j hj
              cases hq : (nmAt j).data.toList with
              | nil => rw [show (nmAt (⟨j, hj⟩ : Fin 15).val).data.toList = [] from hq] at hh; cases hh
              | cons c tl =>
                rw [show (nmAt (⟨j, hj⟩ : Fin 15).val).data.toList = c :: tl from hq] at hh
                injection hh with hh
                refine ⟨c, tl, ?_, by rw [hh]; decide⟩
                show (nmS (j : Int)).data.toList = _
                rw [hnm, hq]
            · exact ⟨_, _, rfl, by decide⟩
          obtain ⟨c, tl, h, hc⟩ := hk
          rw [txtL, join_cons, h] at d1
          rw [(pk_drop d1).1]; exact hc
      rw [if_neg hne, ih (d + 1) g (i + 1) .nil r hn hsub h64.2.2.1 d1 (by omega)]
      show (i + 1 + (join (txtL sub) [44, 32]).length + 1, true, _) = (i + (123 :: (join (txtL sub) [44, 32] ++ [125])).length, true, _)
      rw [List.length_cons, List.length_append, List.length_singleton]
      simp only [Prod.mk.injEq, true_and]
      exact ⟨by omega, rfl⟩

theorem lst_back (s : ByteArray) : ∀ l : VL, LstBack s l
  | .nil => fun _ _ _ _ _ h => absurd rfl h
  | .cons k n t sub rest => by
    have hsub := lst_back s sub
    have hrest := lst_back s rest
    intro d f i acc r _ hok h64 hd hf
    have hs : s.data.toList.length = s.size := by rw [Array.length_toList]; rfl
    have hlen := congrArg List.length hd
    rw [List.length_drop, hs, List.length_append, List.length_cons] at hlen
    obtain ⟨g, rfl⟩ : ∃ g, f = g + 1 := ⟨f - 1, by omega⟩
    have hv := val_back hsub (k := k) (n := n) (t := t)
    have hok1 : OkL (val1 k n t sub) d := ⟨hok.1, hok.2.1, hok.2.2.1, trivial⟩
    have h641 : (val1 k n t sub).i64 := ⟨h64.1, h64.2.1, h64.2.2.1, trivial⟩
    rw [txtL, join_cons] at hd hlen ⊢
    rw [List.append_assoc] at hd
    rw [List.length_append] at hlen
    rw [lstSp]
    cases rest with
    | nil =>
      have hd' : s.data.toList.drop i = txt1 k n t (txtL sub) ++ 125 :: r := by simpa [txtL, joinTail] using hd
      have h1 := hv d g i (125 :: r) hok1 h641 hd' (fun c t e => by injection e with e _; rw [← e]; decide) (by omega)
      have k1 := (pk_drop (drop_add hd')).1
      rw [h1]
      simp only
      rw [if_neg (by decide), if_neg (by rw [k1]; decide), if_pos k1]
      simp [txtL, joinTail, val1]
    | cons k2 n2 t2 sub2 rest2 =>
      have hj : joinTail [44, 32] (txtL (.cons k2 n2 t2 sub2 rest2)) = 44 :: 32 :: join (txtL (.cons k2 n2 t2 sub2 rest2)) [44, 32] := by
        rw [txtL, join_cons]; simp [joinTail]
      rw [hj] at hd hlen ⊢
      have hd' : s.data.toList.drop i = txt1 k n t (txtL sub) ++ (44 :: 32 :: (join (txtL (.cons k2 n2 t2 sub2 rest2)) [44, 32] ++ 125 :: r)) := by simpa using hd
      have h1 := hv d g i _ hok1 h641 hd' (fun c t e => by injection e with e _; rw [← e]; decide) (by omega)
      obtain ⟨k1, d1⟩ := pk_drop (drop_add hd')
      obtain ⟨k2', d2⟩ := pk_drop d1
      simp only [List.length_cons] at hlen
      rw [h1]
      simp only
      rw [if_neg (by decide), if_pos k1, if_pos k2', hrest d g _ (acc.app (val1 k n t sub)) r (fun h => by cases h) hok.2.2.2 h64.2.2.2 d2 (by omega)]
      simp only [List.length_append, List.length_cons, VL.app_assoc, Prod.mk.injEq, true_and]
      exact ⟨by omega, rfl⟩

/-- What was said is read back. -/
theorem rdV_back {s : ByteArray} {k n : Int} {t : ByteArray} {sub : VL} {d : Int} (hok : OkL (val1 k n t sub) d) (h64 : (val1 k n t sub).i64) (hs : s.data.toList = txt1 k n t (txtL sub)) : rdV s = (s.size, true, val1 k n t sub) := by
  have h := val_back (lst_back s sub) d (2 * s.size + 2) 0 [] hok h64 (by rw [List.drop_zero, List.append_nil]; exact hs) (fun c t e => by cases e) (by omega)
  unfold rdV
  rw [h, ← hs, Array.length_toList, Nat.zero_add]; rfl
end Go.Proofs.YtgmnbdfbbcpciaaGreatDoor
namespace Go.Proofs.YtgmnbdfbbcpciaaGreatDoor
open Go.RowKit Go.Lib
set_option linter.unusedVariables false

theorem drop_pk {s : ByteArray} {i : Nat} (h : i < s.size) : s.data.toList.drop i = pk s i :: s.data.toList.drop (i + 1) := by
  have hl : i < s.data.toList.length := by rw [Array.length_toList]; exact h
  rw [List.drop_eq_getElem_cons hl]
  unfold pk
  rw [List.getD_eq_getElem?_getD, List.getElem?_eq_getElem hl]; rfl

theorem numLoop_inv (s : ByteArray) (low high : Int) (neg : Bool) : ∀ (f i a j : Nat) (v : Int), numLoop s low high neg f i (-(a : Int)) = (j, true, v) →
    ∃ l : List UInt8, (∀ c ∈ l, isDg c = true) ∧ s.data.toList.drop i = l ++ s.data.toList.drop j ∧ v = -(dval a l : Int) ∧ j = i + l.length ∧ (digB (pk s i) = true → 0 < f → l ≠ [])
  | 0, i, a, j, v, h => by
    unfold numLoop at h
    simp only [Prod.mk.injEq, true_and] at h
    obtain ⟨rfl, rfl⟩ := h
    exact ⟨[], by simp, rfl, by rw [dval_nil], rfl, fun _ h => absurd h (Nat.lt_irrefl _)⟩
  | f + 1, i, a, j, v, h => by
    cases hd : digB (pk s i) with
    | false =>
      rw [numLoop_end _ _ _ _ _ _ _ hd] at h
      simp only [Prod.mk.injEq, true_and] at h
      obtain ⟨rfl, rfl⟩ := h
      exact ⟨[], by simp, rfl, by rw [dval_nil], rfl, fun h => by cases h⟩
    | true =>
      have hi := digB_in hd
      have hr := digB_range hd
      have hg1 := dg1_eq (pk s i)
      by_cases hg : -(a : Int) < -922337203685477580 ∨ 10 * -(a : Int) < -9223372036854775808 + ((pk s i).toNat - 48 : Int) ∨ (neg = true ∧ 10 * -(a : Int) - ((pk s i).toNat - 48 : Int) < low) ∨ (neg = false ∧ 10 * -(a : Int) - ((pk s i).toNat - 48 : Int) < -high)
      · rw [numLoop_bad _ _ _ _ _ _ _ hd hg] at h
        simp at h
      · rw [numLoop_step _ _ _ _ _ _ _ hd hg, show 10 * -(a : Int) - (((pk s i).toNat : Int) - 48) = -((a * 10 + dg1 (pk s i) : Nat) : Int) by omega] at h
        obtain ⟨l, h1, h2, h3, h4, _⟩ := numLoop_inv s low high neg f (i + 1) _ j v h
        refine ⟨pk s i :: l, ?_, ?_, ?_, ?_, fun _ _ h => by cases h⟩
        · intro c hc
          rcases List.mem_cons.1 hc with rfl | hc
          · rw [← digB_isDg]; exact hd
          · exact h1 c hc
        · rw [drop_pk hi, h2]; rfl
        · rw [dval_cons]; exact h3
        · rw [List.length_cons]; omega

theorem numSp_inv {s : ByteArray} {low high : Int} {i j : Nat} {v : Int} (h : numSp s low high i = (j, true, v)) : s.data.toList.drop i = itoa v ++ s.data.toList.drop j := by
  unfold numSp at h
  by_cases h45 : pk s i = 45
  · rw [if_pos h45] at h
    by_cases hb : digB (pk s (i + 1)) = false ∨ pk s (i + 1) = 48
    · rw [if_pos hb] at h; simp at h
    · rw [if_neg hb] at h
      have hd : digB (pk s (i + 1)) = true := by
        cases hq : digB (pk s (i + 1)) with
        | true => rfl
        | false => exact absurd (.inl hq) hb
      have hi : i < s.size := pk_lt (by rw [h45]; decide)
      obtain ⟨l, h1, h2, h3, h4, h5⟩ := numLoop_inv s low high true (s.size + 1) (i + 1) 0 j v h
      have hne := h5 hd (by omega)
      have hhead : l.head? = some (pk s (i + 1)) := by
        have hi2 := digB_in hd
        rw [drop_pk hi2] at h2
        cases l with
        | nil => exact absurd rfl hne
        | cons c t => injection h2 with h2 _; rw [h2]; rfl
      have hcan : Canon l := ⟨hne, h1, fun e => by rw [hhead] at e; injection e with e; exact absurd (.inr e) hb⟩
      have hpos : 1 ≤ dval 0 l := by
        cases l with
        | nil => exact absurd rfl hne
        | cons c t =>
          have hc := isDg_iff.1 (h1 c (by simp))
          have hc48 : c.toNat ≠ 48 := fun e => by
            have e2 : c = 48 := UInt8.toNat_inj.1 e
            simp only [List.head?_cons, Option.some.injEq] at hhead
            exact hb (.inr (by rw [← hhead, e2]))
          rw [dval_cons, dg1_eq]
          have := dval_ge t (0 * 10 + (c.toNat - 48))
          omega
      rw [drop_pk hi, h45, h2, h3, itoa_neg _ hpos, dec_of_canon _ l rfl hcan]; rfl
  · rw [if_neg h45] at h
    by_cases h48 : pk s i = 48
    · rw [if_pos h48] at h
      simp only [Prod.mk.injEq, true_and] at h
      obtain ⟨rfl, rfl⟩ := h
      have hi : i < s.size := pk_lt (by rw [h48]; decide)
      rw [drop_pk hi, h48, show itoa 0 = [48] by rw [show (0 : Int) = ((0 : Nat) : Int) from rfl, itoa_nonneg, decDigits_one (by omega)]; rfl]; rfl
    · rw [if_neg h48] at h
      by_cases hdd : digB (pk s i) = false
      · rw [if_pos hdd] at h; simp at h
      · rw [if_neg hdd] at h
        have hd : digB (pk s i) = true := by simpa using hdd
        obtain ⟨q, hq⟩ : ∃ q, q = numLoop s low high false (s.size + 1) i 0 := ⟨_, rfl⟩
        rw [← hq] at h
        obtain ⟨j', ok, v'⟩ := q
        unfold negR at h
        simp only [Prod.mk.injEq] at h
        obtain ⟨rfl, rfl, rfl⟩ := h
        obtain ⟨l, h1, h2, h3, h4, h5⟩ := numLoop_inv s low high false (s.size + 1) i 0 j' v' hq.symm
        have hne := h5 hd (by omega)
        have hhead : l.head? = some (pk s i) := by
          have hi2 := digB_in hd
          rw [drop_pk hi2] at h2
          cases l with
          | nil => exact absurd rfl hne
          | cons c t => injection h2 with h2 _; rw [h2]; rfl
        have hcan : Canon l := ⟨hne, h1, fun e => by rw [hhead] at e; injection e with e; exact absurd e h48⟩
        rw [if_pos rfl, h2, h3, Int.neg_neg, itoa_nonneg, dec_of_canon _ l rfl hcan]

theorem strLoop_inv (s : ByteArray) : ∀ (f i : Nat) (acc : List UInt8) (j : Nat) (l' : List UInt8), strLoop s f i acc = (j, true, l') → ∃ l, l' = acc ++ l ∧ prB l = true ∧ s.data.toList.drop i = escL l ++ s.data.toList.drop j
  | 0, i, acc, j, l', h => by
    unfold strLoop at h
    simp only [Prod.mk.injEq, true_and] at h
    obtain ⟨rfl, rfl⟩ := h
    exact ⟨[], by simp, rfl, rfl⟩
  | f + 1, i, acc, j, l', h => by
    by_cases h34 : pk s i = 34
    · rw [strLoop_end _ _ _ _ h34] at h
      simp only [Prod.mk.injEq, true_and] at h
      obtain ⟨rfl, rfl⟩ := h
      exact ⟨[], by simp, rfl, rfl⟩
    by_cases h92 : pk s i = 92
    · by_cases hy : pk s (i + 1) = 34 ∨ pk s (i + 1) = 92
      · rw [strLoop_esc _ _ _ _ h92 hy] at h
        obtain ⟨l, h1, h2, h3⟩ := strLoop_inv s f (i + 2) _ j l' h
        have hi : i < s.size := pk_lt (by rw [h92]; decide)
        have hi2 : i + 1 < s.size := pk_lt (by rcases hy with e | e <;> rw [e] <;> decide)
        refine ⟨pk s (i + 1) :: l, by rw [h1, List.append_assoc]; rfl, ?_, ?_⟩
        · unfold prB at h2 ⊢
          rw [List.all_cons, h2, Bool.and_true]
          rcases hy with e | e <;> rw [e] <;> decide
        · rw [drop_pk hi, drop_pk hi2, h92, h3, escL, if_pos hy]; rfl
      · rw [strLoop_esc_bad _ _ _ _ h92 hy] at h; simp at h
    cases hp : prC (pk s i) with
    | false => rw [strLoop_bad _ _ _ _ h34 h92 hp] at h; simp at h
    | true =>
      rw [strLoop_next _ _ _ _ h34 h92 hp] at h
      obtain ⟨l, h1, h2, h3⟩ := strLoop_inv s f (i + 1) _ j l' h
      have hi : i < s.size := pk_lt (fun e => by rw [e] at hp; exact absurd hp (by decide))
      refine ⟨pk s i :: l, by rw [h1, List.append_assoc]; rfl, ?_, ?_⟩
      · unfold prB at h2 ⊢
        rw [List.all_cons, h2, Bool.and_true]; exact hp
      · rw [drop_pk hi, h3, escL, if_neg (by rintro (e | e); exact h34 e; exact h92 e)]; rfl
theorem strSp_inv {s : ByteArray} {i j : Nat} {l : List UInt8} (hi : i < s.size) (h34 : pk s i = 34) (h : strSp s i = (j, true, l)) : s.data.toList.drop i = quoL l ++ s.data.toList.drop j ∧ prB l = true := by
  unfold strSp at h
  obtain ⟨q, hq⟩ : ∃ q, q = strLoop s (s.size + 1) (i + 1) [] := ⟨_, rfl⟩
  have hpl := (strLoop_place s (s.size + 1) (i + 1) [] (by omega)).2.2 (by omega) (by omega)
  rw [← hq] at h hpl
  obtain ⟨j', ok, l'⟩ := q
  simp only [Prod.mk.injEq] at h
  obtain ⟨h1, rfl, rfl⟩ := h
  rw [if_pos rfl] at h1
  subst h1
  have hend := hpl rfl
  obtain ⟨l2, h2, h3, h4⟩ := strLoop_inv s _ _ _ j' l' hq.symm
  rw [List.nil_append] at h2
  subst h2
  have hj : j' < s.size := pk_lt (by rw [hend]; decide)
  refine ⟨?_, h3⟩
  rw [drop_pk hi, h34, h4, drop_pk hj, hend, quoL]
  simp

theorem codeTo_inv (s : ByteArray) (i : Nat) : ∀ c, c ≤ 15 → (codeTo s i c).2.1 = -1 ∨ ∃ a, a < c ∧ NmAt s i (nmAt a) 0
  | 0, _ => .inl rfl
  | c + 1, h => by
    by_cases hm : NmAt s i (nmAt c) 0
    · exact .inr ⟨c, by omega, hm⟩
    · rcases codeTo_inv s i c (by omega) with h1 | ⟨a, h1, h2⟩
      · left
        rw [codeTo, codeStep, if_neg (fun hc => hm ((cp_iff _ _ _).1 hc.1))]; exact h1
      · exact .inr ⟨a, by omega, h2⟩
theorem drop_nm {s : ByteArray} {i : Nat} {n : ByteArray} (h : NmAt s i n 0) : s.data.toList.drop i = n.data.toList ++ s.data.toList.drop (i + n.size) := by
  have hn : n.data.toList.length = n.size := by rw [Array.length_toList]; rfl
  have hs : s.data.toList.length = s.size := by rw [Array.length_toList]; rfl
  apply List.ext_getElem?
  intro j
  by_cases hj : j < n.size
  · obtain ⟨h1, h2⟩ := h j (Nat.zero_le _) hj
    rw [List.getElem?_append_left (by omega), List.getElem?_drop, List.getElem?_eq_getElem (by omega), List.getElem?_eq_getElem (by omega)]
    unfold pk at h2
    rw [List.getD_eq_getElem?_getD, List.getD_eq_getElem?_getD, List.getElem?_eq_getElem (by omega), List.getElem?_eq_getElem (by omega)] at h2
    exact congrArg some h2
  · rw [List.getElem?_append_right (by omega), List.getElem?_drop, List.getElem?_drop]
    congr 1; omega
theorem codeSp_inv {s : ByteArray} {i j : Nat} {c : Int} (h : codeSp s i = (j, true, c)) : s.data.toList.drop i = (nmS c).data.toList ++ s.data.toList.drop j ∧ 0 ≤ c ∧ c ≤ 14 := by
  rcases codeTo_inv s i 15 (Nat.le_refl _) with h1 | ⟨a, ha, hm⟩
  · unfold codeSp at h
    simp only [h1] at h
    rw [if_pos (by decide)] at h
    simp at h
  · rw [codeSp_of ha hm] at h
    simp only [Prod.mk.injEq, true_and] at h
    obtain ⟨rfl, rfl⟩ := h
    rw [nmS_at a ha]
    exact ⟨drop_nm hm, by omega, by omega⟩

mutual
/-- What was read at a place is just the text of what it is read as. -/
theorem valSp_inv (s : ByteArray) : ∀ (f i j : Nat) (v : VL), valSp s f i = (j, true, v) → ∃ k n t sub, v = val1 k n t sub ∧ s.data.toList.drop i = txt1 k n t (txtL sub) ++ s.data.toList.drop j
  | 0, i, j, v, h => by rw [valSp] at h; simp at h
  | f + 1, i, j, v, h => by
    rw [valSp] at h
    by_cases h35 : pk s i = 35
    · rw [if_pos h35] at h
      simp only [Prod.mk.injEq] at h
      obtain ⟨h1, h2, rfl⟩ := h
      have hi : i < s.size := pk_lt (by rw [h35]; decide)
      have := numSp_inv (s := s) (low := -2147483648) (high := 2147483647) (i := i + 1) (j := j) (v := (numSp s (-2147483648) 2147483647 (i + 1)).2.2) (Prod.ext h1 (Prod.ext h2 rfl))
      exact ⟨_, _, _, _, rfl, by rw [drop_pk hi, h35, this]; rfl⟩
    rw [if_neg h35] at h
    by_cases hn : pk s i = 45 ∨ digB (pk s i) = true
    · rw [if_pos hn] at h
      simp only [Prod.mk.injEq] at h
      obtain ⟨h1, h2, rfl⟩ := h
      have := numSp_inv (s := s) (low := -9223372036854775808) (high := 9223372036854775807) (i := i) (j := j) (v := (numSp s (-9223372036854775808) 9223372036854775807 i).2.2) (Prod.ext h1 (Prod.ext h2 rfl))
      exact ⟨_, _, _, _, rfl, this⟩
    rw [if_neg hn] at h
    by_cases h34 : pk s i = 34
    · rw [if_pos h34] at h
      simp only [Prod.mk.injEq] at h
      obtain ⟨h1, h2, rfl⟩ := h
      have hi : i < s.size := pk_lt (by rw [h34]; decide)
      have := (strSp_inv hi h34 (Prod.ext h1 (Prod.ext h2 rfl))).1
      exact ⟨_, _, _, _, rfl, this⟩
    rw [if_neg h34] at h
    by_cases h123 : pk s i = 123
    · rw [if_pos h123] at h
      have hi : i < s.size := pk_lt (by rw [h123]; decide)
      by_cases h125 : pk s (i + 1) = 125
      · rw [if_pos h125] at h
        simp only [Prod.mk.injEq, true_and] at h
        obtain ⟨rfl, rfl⟩ := h
        have hi2 : i + 1 < s.size := pk_lt (by rw [h125]; decide)
        exact ⟨_, _, _, _, rfl, by rw [drop_pk hi, drop_pk hi2, h123, h125]; rfl⟩
      · rw [if_neg h125] at h
        simp only [Prod.mk.injEq] at h
        obtain ⟨h1, h2, rfl⟩ := h
        obtain ⟨l, h3, h4⟩ := lstSp_inv s f (i + 1) j .nil _ (Prod.ext h1 (Prod.ext h2 rfl))
        refine ⟨_, _, _, _, rfl, ?_⟩
        rw [show (lstSp s f (i + 1) VL.nil).2.2 = l from h3, drop_pk hi, h123, h4]
        show _ = (123 :: (join (txtL l) [44, 32] ++ [125])) ++ _
        simp
    · rw [if_neg h123] at h
      simp only [Prod.mk.injEq] at h
      obtain ⟨h1, h2, rfl⟩ := h
      have := (codeSp_inv (s := s) (i := i) (j := j) (c := (codeSp s i).2.2) (Prod.ext h1 (Prod.ext h2 rfl))).1
      exact ⟨_, _, _, _, rfl, this⟩
theorem lstSp_inv (s : ByteArray) : ∀ (f i j : Nat) (acc v : VL), lstSp s f i acc = (j, true, v) → ∃ l : VL, v = acc.app l ∧ s.data.toList.drop i = join (txtL l) [44, 32] ++ 125 :: s.data.toList.drop j
  | 0, i, j, acc, v, h => by rw [lstSp] at h; simp at h
  | f + 1, i, j, acc, v, h => by
    rw [lstSp] at h
    by_cases hok : (valSp s f i).2.1 = false
    · rw [if_pos hok] at h; simp at h
    rw [if_neg hok] at h
    have hok' : (valSp s f i).2.1 = true := by simpa using hok
    obtain ⟨k, n, t, sub, h1, h2⟩ := valSp_inv s f i (valSp s f i).1 (valSp s f i).2.2 (Prod.ext rfl (Prod.ext hok' rfl))
    rw [h1] at h
    by_cases h44 : pk s (valSp s f i).1 = 44
    · rw [if_pos h44] at h
      have hi : (valSp s f i).1 < s.size := pk_lt (by rw [h44]; decide)
      by_cases h32 : pk s ((valSp s f i).1 + 1) = 32
      · rw [if_pos h32] at h
        have hi2 : (valSp s f i).1 + 1 < s.size := pk_lt (by rw [h32]; decide)
        obtain ⟨l, h3, h4⟩ := lstSp_inv s f _ j _ v h
        refine ⟨.cons k n t sub l, by rw [h3, VL.app_assoc]; rfl, ?_⟩
        rw [h2, drop_pk hi, drop_pk hi2, h44, h32, h4, txtL, join_cons]
        cases l with
        | nil =>
          exfalso
          have hlen : lstSp s f ((valSp s f i).1 + 2) (acc.app (val1 k n t sub)) = (j, true, v) := h
          exact lstSp_ne s f _ _ j v hlen (by rw [h3, VL.app_nil])
        | cons k2 n2 t2 sub2 rest2 =>
          have hj : joinTail [44, 32] (txtL (.cons k2 n2 t2 sub2 rest2)) = 44 :: 32 :: join (txtL (.cons k2 n2 t2 sub2 rest2)) [44, 32] := by
            rw [txtL, join_cons]; simp [joinTail]
          rw [hj]; simp
      · rw [if_neg h32] at h; simp at h
    · rw [if_neg h44] at h
      by_cases h125 : pk s (valSp s f i).1 = 125
      · rw [if_pos h125] at h
        simp only [Prod.mk.injEq, true_and] at h
        obtain ⟨rfl, rfl⟩ := h
        have hi : (valSp s f i).1 < s.size := pk_lt (by rw [h125]; decide)
        refine ⟨val1 k n t sub, rfl, ?_⟩
        rw [h2, drop_pk hi, h125]
        simp [val1, txtL, join_one]
      · rw [if_neg h125] at h; simp at h
/-- A list that goes on has one item more. -/
theorem lstSp_ne (s : ByteArray) : ∀ (f i : Nat) (acc : VL) (j : Nat) (v : VL), lstSp s f i acc = (j, true, v) → v ≠ acc
  | 0, i, acc, j, v, h => by rw [lstSp] at h; simp at h
  | f + 1, i, acc, j, v, h => by
    rw [lstSp] at h
    by_cases hok : (valSp s f i).2.1 = false
    · rw [if_pos hok] at h; simp at h
    rw [if_neg hok] at h
    have hok' : (valSp s f i).2.1 = true := by simpa using hok
    obtain ⟨k, n, t, sub, h1⟩ := valSp_one s f i hok'
    rw [h1] at h
    have hgrow : ∀ l : VL, v = (acc.app (val1 k n t sub)).app l → v ≠ acc := fun l e e2 => by
      have := congrArg VL.len (e.symm.trans e2)
      rw [VL.len_app, VL.len_app] at this
      have h1 : (val1 k n t sub).len = 1 := rfl
      omega
    by_cases h44 : pk s (valSp s f i).1 = 44
    · rw [if_pos h44] at h
      by_cases h32 : pk s ((valSp s f i).1 + 1) = 32
      · rw [if_pos h32] at h
        obtain ⟨l, h3, _⟩ := lstSp_inv s f _ j _ v h
        exact hgrow l h3
      · rw [if_neg h32] at h; simp at h
    · rw [if_neg h44] at h
      by_cases h125 : pk s (valSp s f i).1 = 125
      · rw [if_pos h125] at h
        simp only [Prod.mk.injEq, true_and] at h
        exact hgrow .nil (by rw [VL.app_nil]; exact h.2.symm)
      · rw [if_neg h125] at h; simp at h
end

/-- The text of a value that is read is the text. -/
theorem rdV_inv {s : ByteArray} {k n : Int} {t : ByteArray} {sub : VL} (hgood : ¬ rdBad s) (hv : (rdV s).2.2 = val1 k n t sub) : s.data.toList = txt1 k n t (txtL sub) := by
  have hg : (rdV s).2.1 = true ∧ s.size ≤ (rdV s).1 := Classical.not_not.1 hgood
  obtain ⟨k', n', t', sub', h1, h2⟩ := valSp_inv s (2 * s.size + 2) 0 (rdV s).1 (rdV s).2.2 (Prod.ext rfl (Prod.ext hg.1 rfl))
  rw [h1] at hv
  injection hv with e1 e2 e3 e4 _
  subst e1; subst e2; subst e3; subst e4
  rw [List.drop_zero, List.drop_eq_nil_of_le (by rw [Array.length_toList]; exact hg.2), List.append_nil] at h2
  exact h2
end Go.Proofs.YtgmnbdfbbcpciaaGreatDoor
namespace Go.Proofs.YtgmnbdfbbcpciaaGreatDoor
open Go.RowKit Go.Lib
set_option linter.unusedVariables false

/-- A word: its kind, line, text, and the value of a literal. -/
structure Tok where
  kind : Int
  line : Int
  s : ByteArray
  k : Int
  n : Int
  t : ByteArray

def smB (c : UInt8) : Bool := decide (97 ≤ c.toNat ∧ c.toNat ≤ 122) || c == 95
def gtB (c : UInt8) : Bool := decide (65 ≤ c.toNat ∧ c.toNat ≤ 90)
/-- How many bytes from a place on are of a sort; with fuel. -/
def runN (s : ByteArray) (p : UInt8 → Bool) : Nat → Nat → Nat
  | 0, _ => 0
  | f + 1, i => if i < s.size ∧ p (pk s i) = true then runN s p f (i + 1) + 1 else 0
def run (s : ByteArray) (p : UInt8 → Bool) (i : Nat) : Nat := runN s p (s.size + 1) i
theorem runN_le (s : ByteArray) (p : UInt8 → Bool) : ∀ (f i : Nat), i ≤ s.size → i + runN s p f i ≤ s.size
  | 0, i, h => h
  | f + 1, i, h => by
    unfold runN
    split
    · rename_i hc
      have := runN_le s p f (i + 1) (by omega)
      omega
    · exact h

/-- What one word is: an error, or a word of so many bytes. -/
inductive WR where
  | bad (c : Nat)
  | word (n : Nat) (t : Tok)

/-- The keys, and the signs, rising. -/
def keysL : List ByteArray := [⟨#[97, 110, 121]⟩, ⟨#[98, 114, 101, 97, 107]⟩, ⟨#[99, 111, 110, 116, 105, 110, 117, 101]⟩, ⟨#[101, 108, 115, 101]⟩, ⟨#[101, 108, 115, 101, 105, 102]⟩, ⟨#[101, 110, 100, 102, 111, 114]⟩, ⟨#[101, 110, 100, 102, 111, 114, 107]⟩, ⟨#[101, 110, 100, 105, 102]⟩, ⟨#[101, 110, 100, 116, 114, 121]⟩, ⟨#[101, 110, 100, 119, 104, 105, 108, 101]⟩, ⟨#[101, 120, 99, 101, 112, 116]⟩, ⟨#[102, 105, 110, 97, 108, 108, 121]⟩, ⟨#[102, 111, 114]⟩, ⟨#[102, 111, 114, 107]⟩, ⟨#[105, 102]⟩, ⟨#[105, 110]⟩, ⟨#[114, 101, 116, 117, 114, 110]⟩, ⟨#[116, 114, 121]⟩, ⟨#[119, 104, 105, 108, 101]⟩]
def signsL : List ByteArray := [⟨#[33]⟩, ⟨#[33, 61]⟩, ⟨#[36]⟩, ⟨#[37]⟩, ⟨#[38, 38]⟩, ⟨#[39]⟩, ⟨#[40]⟩, ⟨#[41]⟩, ⟨#[42]⟩, ⟨#[43]⟩, ⟨#[44]⟩, ⟨#[45]⟩, ⟨#[46]⟩, ⟨#[46, 46]⟩, ⟨#[47]⟩, ⟨#[58]⟩, ⟨#[59]⟩, ⟨#[60]⟩, ⟨#[60, 61]⟩, ⟨#[61]⟩, ⟨#[61, 61]⟩, ⟨#[61, 62]⟩, ⟨#[62]⟩, ⟨#[62, 61]⟩, ⟨#[63]⟩, ⟨#[64]⟩, ⟨#[91]⟩, ⟨#[93]⟩, ⟨#[96]⟩, ⟨#[123]⟩, ⟨#[124]⟩, ⟨#[124, 124]⟩, ⟨#[125]⟩]

/-- A number from a place on: the number and its digits, or an error. -/
def dgsSp (s : ByteArray) (i : Nat) : Nat ⊕ (Int × Nat) :=
  let n := run s digB i
  if n = 0 ∨ (1 < n ∧ pk s i = 48) ∨ (i + n < s.size ∧ (smB (pk s (i + n)) = true ∨ gtB (pk s (i + n)) = true)) then .inl 111
  else if 9223372036854775807 < dval 0 (s.extract i (i + n)).data.toList then .inl 105
  else .inr (dval 0 (s.extract i (i + n)).data.toList, n)

/-- Where a text in quotes ends: behind its second quote; none: it does not on its line. -/
def quoEnd (s : ByteArray) : Nat → Nat → Option Nat
  | 0, _ => none
  | f + 1, i =>
    if i < s.size ∧ prC (pk s i) = true then
      if pk s i = 34 then some (i + 1)
      else if pk s i = 92 then quoEnd s f (i + 2)
      else quoEnd s f (i + 1)
    else none
/-- A text in quotes, whole, as a value; or why it is none. -/
def strW (sub : ByteArray) : Nat ⊕ ByteArray :=
  let r := strSp sub 0
  if r.2.1 = true ∧ sub.size ≤ r.1 then (if 4096 ≤ r.2.2.length then .inl 105 else .inr ⟨r.2.2.toArray⟩) else .inl 111
/-- The longest sign that stands at a place. -/
def signAt (s : ByteArray) (i : Nat) : List ByteArray → ByteArray → ByteArray
  | [], b => b
  | x :: l, b => signAt s i l (if b.size < x.size ∧ x.data.toList.isPrefixOf (s.data.toList.drop i) = true then x else b)
/-- One word, that is no space and no end of a line. -/
def wordR (s : ByteArray) (i : Nat) (line : Int) : WR :=
  let c := pk s i
  if smB c = true then
    let n := run s (fun c => smB c || digB c) i
    if 32 < n ∨ (i + n < s.size ∧ gtB (pk s (i + n)) = true) then .bad 111
    else .word n ⟨if keysL.contains (s.extract i (i + n)) then 2 else 1, line, s.extract i (i + n), 0, 0, ⟨#[]⟩⟩
  else if digB c = true then
    match dgsSp s i with
    | .inl e => .bad e
    | .inr (v, n) => .word n ⟨3, line, ⟨#[]⟩, 0, v, ⟨#[]⟩⟩
  else if gtB c = true then
    let n := run s (fun c => gtB c || c == 95) i
    let k := codeOf (s.extract i (i + n))
    if k < 0 ∨ (i + n < s.size ∧ (smB (pk s (i + n)) = true ∨ digB (pk s (i + n)) = true)) then .bad 111
    else .word n ⟨3, line, ⟨#[]⟩, 3, k, ⟨#[]⟩⟩
  else if c = 35 then
    let neg := pk s (i + 1) == 45
    let j := if neg then i + 2 else i + 1
    match dgsSp s j with
    | .inl e => .bad e
    | .inr (v, n) =>
      if neg = true ∧ v = 0 then .bad 111
      else
        let v := if neg then -v else v
        if v < -2147483648 ∨ 2147483647 < v then .bad 105 else .word (j + n - i) ⟨3, line, ⟨#[]⟩, 1, v, ⟨#[]⟩⟩
  else if c = 34 then
    match quoEnd s (s.size + 1) (i + 1) with
    | none => .bad 111
    | some j =>
      match strW (s.extract i j) with
      | .inl e => .bad e
      | .inr t => .word (j - i) ⟨3, line, ⟨#[]⟩, 2, 0, t⟩
  else
    let b := signAt s i signsL ⟨#[]⟩
    if b.size = 0 then .bad 111 else .word b.size ⟨4, line, b, 0, 0, ⟨#[]⟩⟩
/-- All words of a text, from a place and a line on; or the error and its line. -/
def allSp (s : ByteArray) : Nat → Nat → Int → List Tok → (Nat × Int) ⊕ List Tok
  | 0, _, _, out => .inr out
  | f + 1, i, line, out =>
    if i < s.size then
      if pk s i = 10 then allSp s f (i + 1) (line + 1) out
      else if pk s i = 32 then allSp s f (i + 1) line out
      else match wordR s i line with
        | .bad c => .inl (c, line)
        | .word n t => allSp s f (i + n) line (out ++ [t])
    else .inr out
def allW (s : ByteArray) : (Nat × Int) ⊕ List Tok := allSp s (s.size + 1) 0 1 []
end Go.Proofs.YtgmnbdfbbcpciaaGreatDoor
namespace Go.Proofs.YtgmnbdfbbcpciaaGreatDoor

def nmCh (c : UInt8) : Bool := (decide (97 ≤ c) && decide (c ≤ 122)) || (decide (48 ≤ c) && decide (c ≤ 57)) || c == 95
/-- Is a text a name? -/
def nameB (s : ByteArray) : Bool :=
  decide (1 ≤ s.size) && decide (s.size ≤ 32) && !(decide (48 ≤ s.data.toList.getD 0 0) && decide (s.data.toList.getD 0 0 ≤ 57)) && s.data.toList.all nmCh && !keysL.contains s

def isExpr (op : Int) : Bool := decide (1 ≤ op) && decide (op ≤ 29) && op != 26
def standsP (op : Int) : Nat → Bool
  | 0 => isExpr op
  | 1 => isExpr op || op == 26
  | 2 => op == 2 || op == 22 || op == 20
  | 3 => op == 2
  | 4 => op == 2 || op == 26
  | 5 => op == 25
  | 6 => op == 52
  | 8 => op == 50
  | _ => decide (40 ≤ op) && decide (op ≤ 51) && op != 50
def namedP (op : Int) : Bool × Bool := if op = 2 ∨ op = 24 ∨ op = 42 ∨ op = 43 then (true, false) else if op = 50 then (true, true) else (false, false)
def loopsP (op : Int) : Bool := op == 42 || op == 43 || op == 44

/-- What is amiss with what a node itself has: 0 nothing, 1 its shape, 2 its name. -/
def ownN (op : Int) (s : ByteArray) (k n : Int) (t : ByteArray) (v : VL) (m : Nat) (role : Nat) (loop : Bool) : Nat :=
  let fair := standsP op role && (loop || (op != 45 && op != 46)) &&
    (if op = 1 then k != 4 && (walk1 k n t v 1 4096).1 == 0 && (k != 0 || n != -9223372036854775808) else k == 0 && n == 0 && t.size == 0 && v.len == 0)
  if !fair || !(rolesP op m).2 || (!(namedP op).1 && s.size != 0) then 1
  else if (namedP op).1 && !nameB s && !((namedP op).2 && s.size == 0) then 2
  else 0
/-- The role of the j-th of what a node has, and whether it stands in a loop. -/
def subRole (op : Int) (m : Nat) (role : Nat) (loop : Bool) (j : Nat) : Nat × Bool :=
  let r := if role = 5 then 0 else if role = 2 ∧ op = 20 ∧ j = 0 then 2 else if role = 4 ∧ op = 26 then 3 else (rolesP op m).1.getD j 0
  (r, (loop && op != 48) || (loopsP op && r == 6))
/-- The first that is amiss: its line, and what. -/
def walkN : NL → (Nat → Nat × Bool) → Nat → Option (Int × Nat)
  | .nil, _, _ => none
  | .cons op ln s k n t v sub r, f, i =>
    if ownN op s k n t v sub.len (f i).1 (f i).2 ≠ 0 then some (ln, ownN op s k n t v sub.len (f i).1 (f i).2)
    else match walkN sub (subRole op sub.len (f i).1 (f i).2) 0 with
      | some e => some e
      | none => walkN r f (i + 1)
def rightN (l : NL) (role : Nat) : Bool := decide (l.tot ≤ 4096) && decide (l.deep ≤ 40) && (walkN l (fun _ => (role, false)) 0).isNone
theorem walkN_app : ∀ (a b : NL) (f : Nat → Nat × Bool) (i : Nat), walkN (a.app b) f i = (match walkN a f i with | some e => some e | none => walkN b f (i + a.len))
  | .nil, b, f, i => by simp [NL.app, walkN, NL.len]
  | .cons op ln s k n t v sub r, b, f, i => by
    rw [NL.app, walkN, walkN]
    by_cases h : ownN op s k n t v sub.len (f i).1 (f i).2 ≠ 0
    · rw [if_pos h, if_pos h]
    · rw [if_neg h, if_neg h]
      cases walkN sub (subRole op sub.len (f i).1 (f i).2) 0 with
      | some e => rfl
      | none =>
        simp only []
        rw [walkN_app r b f (i + 1), NL.len, show i + 1 + r.len = i + (r.len + 1) from by omega]
theorem walkN_const (f : Nat → Nat × Bool) (c : Nat × Bool) (hf : ∀ i, f i = c) : ∀ (l : NL) (i j : Nat), walkN l f i = walkN l f j
  | .nil, _, _ => rfl
  | .cons op ln s k n t v sub r, i, j => by rw [walkN, walkN, hf i, hf j, walkN_const f c hf r (i + 1) (j + 1)]
/-- Two programs, each right, are right together if they are not too many. -/
theorem rightN_app (a b : NL) (role : Nat) (ha : rightN a role = true) (hb : rightN b role = true) (hn : a.tot + b.tot ≤ 4096) : rightN (a.app b) role = true := by
  simp only [rightN, Bool.and_eq_true, decide_eq_true_eq, Option.isNone_iff_eq_none] at ha hb ⊢
  refine ⟨⟨by rw [NL.tot_app]; exact hn, by rw [NL.deep_app]; exact Nat.max_le.2 ⟨ha.1.2, hb.1.2⟩⟩, ?_⟩
  rw [walkN_app, ha.2]
  simp only []
  rw [walkN_const _ (role, false) (fun _ => rfl) b _ 0]
  exact hb.2
end Go.Proofs.YtgmnbdfbbcpciaaGreatDoor
namespace Go.Proofs.YtgmnbdfbbcpciaaGreatDoor
open Go.RowKit Go.Lib
set_option linter.unusedVariables false
theorem beq_no {a b : Int} (h : a ≠ b) : (a == b) = false := beq_eq_false_iff_ne.2 h
theorem bne_yes {a b : Int} (h : a ≠ b) : (a != b) = true := bne_iff_ne.2 h

set_option maxHeartbeats 1000000 in
theorem named_c (op : Int) (w : World) : Calls Tryz.prog 59 #[.int .i64 op] w fun e w' => e = .returned (.tuple #[.bool (namedP op).1, .bool (namedP op).2]) ∧ w = w' := by
  by_cases h : op = 2 ∨ op = 24 ∨ op = 42 ∨ op = 43 ∨ op = 50
  · rcases h with rfl | rfl | rfl | rfl | rfl
    all_goals
      go_enter Tryz.func59, Tryz.ntmps59
      go_wp2_with fail
      go_ret2
      exact ⟨rfl, rfl⟩
  · have n1 := beq_no (show op ≠ 2 by omega)
    have n2 := beq_no (show op ≠ 24 by omega)
    have n3 := beq_no (show op ≠ 42 by omega)
    have n4 := beq_no (show op ≠ 43 by omega)
    have n5 := beq_no (show op ≠ 50 by omega)
    have HN := Lib.hid (show namedP op = (false, false) by unfold namedP; rw [if_neg (by omega), if_neg (by omega)])
    clear h
    go_enter Tryz.func59, Tryz.ntmps59
    go_wp2_with fail
    go_ret2
    exact ⟨by rw [HN.out]; rfl, rfl⟩

set_option maxHeartbeats 1000000 in
theorem loops_c (op : Int) (w : World) : Calls Tryz.prog 46 #[.int .i64 op] w fun e w' => e = .returned (.bool (loopsP op)) ∧ w = w' := by
  by_cases h : op = 42 ∨ op = 43 ∨ op = 44
  · rcases h with rfl | rfl | rfl
    all_goals
      go_enter Tryz.func46, Tryz.ntmps46
      go_wp2_with fail
      go_ret
      exact ⟨rfl, rfl⟩
  · have n1 := beq_no (show op ≠ 42 by omega)
    have n2 := beq_no (show op ≠ 43 by omega)
    have n3 := beq_no (show op ≠ 44 by omega)
    have HN := Lib.hid (show loopsP op = false by unfold loopsP; rw [n1, n2, n3]; rfl)
    clear h
    go_enter Tryz.func46, Tryz.ntmps46
    go_wp2_with fail
    go_ret
    exact ⟨ret_val (by rw [HN.out]; rfl), rfl⟩
end Go.Proofs.YtgmnbdfbbcpciaaGreatDoor
