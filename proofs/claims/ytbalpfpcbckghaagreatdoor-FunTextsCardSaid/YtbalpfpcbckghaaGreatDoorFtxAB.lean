/- Contracts of the functions that the statement reaches, and the plain mathematics beneath: several texts joined. -/
import Derived.Lib.ItoaMem
import Derived.Lib.ItoaLen
import Derived.Lib.ParseIntBCases
import Derived.Lib.ParseIntBTie
namespace Go.Proofs.YtbalpfpcbckghaaGreatDoor
open Go.Lib
set_option linter.unusedVariables false

def isDg (c : UInt8) : Bool := decide (48 ≤ c.toNat) && decide (c.toNat ≤ 57)
theorem isDg_iff {c : UInt8} : isDg c = true ↔ 48 ≤ c.toNat ∧ c.toNat ≤ 57 := by simp [isDg]
/-- What digits spell. -/
def dg1 (c : UInt8) : Nat := c.toNat - 48
theorem dg1_eq (c : UInt8) : dg1 c = c.toNat - 48 := by rw [dg1]
attribute [irreducible] dg1
def dval (acc : Nat) (l : List UInt8) : Nat := l.foldl (fun a c => a * 10 + dg1 c) acc
theorem dval_nil (acc : Nat) : dval acc [] = acc := by unfold dval; rw [List.foldl_nil]
theorem dval_cons (acc : Nat) (c : UInt8) (r : List UInt8) : dval acc (c :: r) = dval (acc * 10 + dg1 c) r := by unfold dval; rw [List.foldl_cons]
theorem dval_app (l m : List UInt8) : ∀ acc : Nat, dval acc (l ++ m) = dval (dval acc l) m := by
  induction l with
  | nil => intro acc; rw [List.nil_append, dval_nil]
  | cons c r ih => intro acc; rw [List.cons_append, dval_cons, dval_cons, ih]
theorem dval_ge (l : List UInt8) : ∀ acc : Nat, acc ≤ dval acc l := by
  induction l with
  | nil => intro acc; rw [dval_nil]; exact Nat.le_refl _
  | cons c r ih => intro acc; rw [dval_cons]; have := ih (acc * 10 + dg1 c); omega
/-- A numeral of digits: no 0 ahead of others. -/
def Canon (l : List UInt8) : Prop := l ≠ [] ∧ (∀ c ∈ l, isDg c = true) ∧ (l.head? = some 48 → l.length = 1)

theorem byte_of_digit {c : UInt8} (h : isDg c = true) : UInt8.ofNat (48 + (c.toNat - 48)) = c := by
  have := isDg_iff.1 h
  rw [show 48 + (c.toNat - 48) = c.toNat by omega]; simp

theorem dval_snoc (l : List UInt8) (c : UInt8) (acc : Nat) : dval acc (l ++ [c]) = dval acc l * 10 + (c.toNat - 48) := by rw [← dg1_eq];  rw [dval_app, dval_cons, dval_nil]

theorem dec_of_canon : ∀ (n : Nat) (l : List UInt8), l.length = n → Canon l → decDigits (dval 0 l) = l
  | 0, l, h, hc => absurd (List.length_eq_zero_iff.1 h) hc.1
  | n + 1, l, h, hc => by
    obtain ⟨i, c, rfl⟩ : ∃ i c, l = i ++ [c] := ⟨l.dropLast, l.getLast hc.1, (List.dropLast_concat_getLast hc.1).symm⟩
    have hcd := hc.2.1 c (by simp)
    have hd := isDg_iff.1 hcd
    rw [dval_snoc]
    cases hi : i with
    | nil =>
      subst hi
      rw [dval_nil, Nat.zero_mul, Nat.zero_add, decDigits_one (by omega), byte_of_digit hcd]; rfl
    | cons a r =>
      have hci : Canon i := by
        refine ⟨by rw [hi]; simp, fun x hx => hc.2.1 x (by simp [hx]), fun hh => ?_⟩
        have hh2 : (i ++ [c]).head? = some 48 := by rw [hi] at hh ⊢; simpa using hh
        have := hc.2.2 hh2
        rw [hi] at this
        simp at this
      have ha : isDg a = true := hc.2.1 a (by rw [hi]; simp)
      have had := isDg_iff.1 ha
      have hne : a.toNat ≠ 48 := by
        intro e
        have e2 : a = 48 := UInt8.toNat_inj.1 e
        have hh2 : (i ++ [c]).head? = some 48 := by rw [hi, e2]; rfl
        have := hc.2.2 hh2
        rw [hi] at this
        simp at this
      have hpos : 1 ≤ dval 0 i := by
        rw [hi, dval_cons, dg1_eq]
        have := dval_ge r (0 * 10 + (a.toNat - 48))
        omega
      have ih := dec_of_canon n i (by simpa using h) hci
      rw [← hi]
      rw [decDigits, dif_neg (by omega), show (dval 0 i * 10 + (c.toNat - 48)) / 10 = dval 0 i by omega, show (dval 0 i * 10 + (c.toNat - 48)) % 10 = c.toNat - 48 by omega, ih, byte_of_digit hcd]

theorem dg_toNat {u : Nat} (h : u < 10) : (UInt8.ofNat (48 + u)).toNat = 48 + u := by
  rw [UInt8.toNat_ofNat']; omega
theorem canon_dec (u : Nat) : Canon (decDigits u) ∧ dval 0 (decDigits u) = u ∧ (1 ≤ u → (decDigits u).head? ≠ some 48) := by
  induction u using Nat.strongRecOn with
  | _ u ih =>
    by_cases h : u < 10
    · rw [decDigits_one h]
      have ht := dg_toNat h
      refine ⟨⟨by simp, ?_, fun _ => rfl⟩, ?_, ?_⟩
      · intro c hc
        rw [List.mem_singleton] at hc
        subst hc
        rw [isDg_iff, ht]; omega
      · rw [dval_cons, dval_nil, dg1_eq, ht]; omega
      · intro h1 hh
        simp only [List.head?_cons, Option.some.injEq] at hh
        rw [hh] at ht
        have : (48 : UInt8).toNat = 48 := rfl
        omega
    · rw [decDigits, dif_neg h]
      obtain ⟨⟨hne, hd, hz⟩, hv, hp⟩ := ih (u / 10) (by omega)
      have ht := dg_toNat (show u % 10 < 10 by omega)
      have hh : (decDigits (u / 10) ++ [UInt8.ofNat (48 + u % 10)]).head? = (decDigits (u / 10)).head? := by
        cases hq : decDigits (u / 10) with
        | nil => exact absurd hq hne
        | cons a r => rfl
      have hp2 := hp (by omega)
      refine ⟨⟨by simp, ?_, fun e => ?_⟩, ?_, fun _ => ?_⟩
      · intro c hc
        rw [List.mem_append, List.mem_singleton] at hc
        rcases hc with hc | hc
        · exact hd c hc
        · subst hc
          rw [isDg_iff, ht]; omega
      · rw [hh] at e; exact absurd e hp2
      · rw [dval_snoc, hv, ht]; omega
      · rw [hh]; exact hp2

/-- The reference's way: the number of a text. -/
def refNum (l : List UInt8) : Option Int :=
  let neg : Bool := l.head? = some 45
  let t := if neg then l.tail else l
  if t = [] ∨ 19 < t.length ∨ (t.head? = some 48 ∧ (1 < t.length ∨ neg = true)) then none
  else if t.all isDg = false then none
  else if neg then (if 9223372036854775808 < dval 0 t then none else some (-(dval 0 t : Int)))
  else (if 9223372036854775807 < dval 0 t then none else some (dval 0 t : Int))

theorem refNum_some {l : List UInt8} {v : Int} (h : refNum l = some v) : -9223372036854775808 ≤ v ∧ v ≤ 9223372036854775807 ∧ itoa v = l := by
  unfold refNum at h
  by_cases hn : l.head? = some 45
  · obtain ⟨t, rfl⟩ : ∃ t, l = 45 :: t := by
      cases l with
      | nil => simp at hn
      | cons a r => simp only [List.head?_cons, Option.some.injEq] at hn; exact ⟨r, by rw [hn]⟩
    simp only [List.head?_cons, decide_true, if_true, List.tail_cons] at h
    split at h
    · cases h
    rename_i h1
    split at h
    · cases h
    rename_i h2
    split at h
    · cases h
    rename_i h3
    injection h with h
    subst h
    have hnz : t.head? ≠ some 48 := fun e => h1 (.inr (.inr ⟨e, .inr trivial⟩))
    have hcan : Canon t := ⟨fun e => h1 (.inl e), by simpa using h2, fun e => absurd e hnz⟩
    have hpos : 1 ≤ dval 0 t := by
      cases t with
      | nil => exact absurd rfl hcan.1
      | cons a r =>
        have had := isDg_iff.1 (hcan.2.1 a (by simp))
        have hne : a.toNat ≠ 48 := fun e => hnz (by rw [UInt8.toNat_inj.1 (show a.toNat = (48 : UInt8).toNat from e)]; rfl)
        rw [dval_cons, dg1_eq]
        have := dval_ge r (0 * 10 + (a.toNat - 48))
        omega
    refine ⟨by omega, by omega, ?_⟩
    rw [itoa_neg _ hpos, dec_of_canon _ t rfl hcan]
  · simp only [hn, decide_false, Bool.false_eq_true, if_false] at h
    split at h
    · cases h
    rename_i h1
    split at h
    · cases h
    rename_i h2
    split at h
    · cases h
    rename_i h3
    injection h with h
    subst h
    have hcan : Canon l := ⟨fun e => h1 (.inl e), by simpa using h2, fun e => by
      have hl : l.length ≠ 0 := fun e2 => h1 (.inl (List.length_eq_zero_iff.1 e2))
      rcases Nat.lt_or_ge 1 l.length with h4 | h4
      · exact absurd (.inr (.inr ⟨e, .inl h4⟩)) h1
      · omega⟩
    refine ⟨by omega, by omega, ?_⟩
    rw [itoa_nonneg, dec_of_canon _ l rfl hcan]

theorem dec_len {u : Nat} (h : u ≤ 9223372036854775808) : (decDigits u).length ≤ 19 := by
  rw [decDigits_length]
  rcases Nat.lt_or_ge (nDigits u) 20 with h1 | h1
  · omega
  · exfalso
    have hb : ∀ k u, u < 10 ^ (k + 1) → nDigits u ≤ k + 1 := by
      intro k
      induction k with
      | zero => intro u hu; rw [nDigits_small (by simpa using hu)]; omega
      | succ k ih =>
        intro u hu
        by_cases h : u < 10
        · rw [nDigits_small h]; omega
        · rw [nDigits_big h]
          rw [Nat.pow_succ] at hu
          have := ih (u / 10) (by omega)
          omega
    have := hb 18 u (by have : (10 : Nat) ^ (18 + 1) = 10000000000000000000 := by decide
                        omega)
    omega

theorem refNum_itoa {v : Int} (h0 : -9223372036854775808 ≤ v) (h1 : v ≤ 9223372036854775807) : refNum (itoa v) = some v := by
  by_cases hv : v < 0
  · obtain ⟨u, rfl⟩ : ∃ u : Nat, v = -(u : Int) := ⟨v.natAbs, by omega⟩
    have hu : 1 ≤ u := by omega
    rw [itoa_neg u hu]
    obtain ⟨⟨hne, hd, hz⟩, hval, hp⟩ := canon_dec u
    have hlen := dec_len (show u ≤ 9223372036854775808 by omega)
    unfold refNum
    simp only [List.head?_cons, decide_true, if_true, List.tail_cons]
    rw [if_neg (by
      rintro (h | h | ⟨h, _⟩)
      · exact hne h
      · omega
      · exact hp hu h), if_neg (by simpa using hd), hval, if_neg (by omega)]
  · obtain ⟨u, rfl⟩ : ∃ u : Nat, v = (u : Int) := ⟨v.toNat, by omega⟩
    rw [itoa_nonneg]
    obtain ⟨⟨hne, hd, hz⟩, hval, hp⟩ := canon_dec u
    have hlen := dec_len (show u ≤ 9223372036854775808 by omega)
    have hneg : (decDigits u).head? ≠ some 45 := by
      cases hq : decDigits u with
      | nil => simp
      | cons a r =>
        intro e
        simp only [List.head?_cons, Option.some.injEq] at e
        have := isDg_iff.1 (hd a (by rw [hq]; simp))
        rw [e] at this
        have h45 : (45 : UInt8).toNat = 45 := rfl
        omega
    unfold refNum
    simp only [hneg, decide_false, Bool.false_eq_true, if_false]
    rw [if_neg (by
      rintro (h | h | ⟨h, h2 | h2⟩)
      · exact hne h
      · omega
      · have := hz h; omega
      · exact h2), if_neg (by simpa using hd), hval, if_neg (by omega)]

theorem uintM_digits : ∀ (l : List UInt8) (acc : Nat), (∀ c ∈ l, isDg c = true) → dval acc l ≤ 18446744073709551615 → parseUintM 18446744073709551615 acc l = .ok (dval acc l)
  | [], acc, _, _ => rfl
  | c :: r, acc, hd, h => by
    have hc := isDg_iff.1 (hd c (by simp))
    rw [dval_cons, dg1_eq] at h
    have hg := dval_ge r (acc * 10 + (c.toNat - 48))
    rw [parseUintM, if_pos hc, if_neg (by omega), if_neg (by omega), uintM_digits r _ (fun x hx => hd x (by simp [hx])) h, dval_cons, dg1_eq]

theorem parse_itoa {v : Int} (h0 : -9223372036854775808 ≤ v) (h1 : v ≤ 9223372036854775807) : parseIntB 64 (itoa v) = .ok v := by
  by_cases hv : v < 0
  · obtain ⟨u, rfl⟩ : ∃ u : Nat, v = -(u : Int) := ⟨v.natAbs, by omega⟩
    have hu : 1 ≤ u := by omega
    rw [itoa_neg u hu]
    obtain ⟨⟨hne, hd, hz⟩, hval, hp⟩ := canon_dec u
    unfold parseIntB parseUintB
    simp only [show (45 : UInt8).toNat = 45 from rfl, or_true, if_true, if_neg hne]
    rw [show (2 : Nat) ^ 64 - 1 = 18446744073709551615 from by decide, uintM_digits _ 0 hd (by omega)]
    simp only [hval, not_true, false_and, if_false, true_and]
    rw [if_neg (by omega)]
  · obtain ⟨u, rfl⟩ : ∃ u : Nat, v = (u : Int) := ⟨v.toNat, by omega⟩
    rw [itoa_nonneg]
    obtain ⟨⟨hne, hd, hz⟩, hval, hp⟩ := canon_dec u
    cases hq : decDigits u with
    | nil => exact absurd hq hne
    | cons a r =>
      have ha := isDg_iff.1 (hd a (by rw [hq]; simp))
      unfold parseIntB parseUintB
      simp only
      rw [if_neg (show ¬ (a.toNat = 43 ∨ a.toNat = 45) by omega)]
      rw [← hq]
      simp only [if_neg hne]
      rw [show (2 : Nat) ^ 64 - 1 = 18446744073709551615 from by decide, uintM_digits _ 0 hd (by omega)]
      simp only [hval]
      rw [if_neg (by omega), if_neg (by omega), if_neg (by omega)]

/-- The two ways to tell a number agree. -/
theorem num_iff (l : List UInt8) (v : Int) : refNum l = some v ↔ parseIntB 64 l = .ok v ∧ itoa v = l := by
  constructor
  · intro h
    obtain ⟨h0, h1, h2⟩ := refNum_some h
    exact ⟨by rw [← h2]; exact parse_itoa h0 h1, h2⟩
  · rintro ⟨h, h2⟩
    have hb := parseIntB_bounds h
    rw [← h2]
    exact refNum_itoa (by simpa using hb.1) (by have := hb.2; simp at this; omega)
end Go.Proofs.YtbalpfpcbckghaaGreatDoor
