/-
  Reading a numeral, plain: what the reader makes of the digits of a number, and what lit.Number makes of texts that are none.
-/
import Derived.Test.YtoemnccklakkeaaDoorNumR
namespace Go.Proofs.YtoemnccklakkeaaDoor
open Go.RowKit Go.Lib
set_option linter.unusedVariables false

theorem digB_isDg (c : UInt8) : digB c = isDg c := by
  cases h : isDg c with
  | true => have := isDg_iff.1 h; unfold digB; exact decide_eq_true this
  | false => unfold digB; refine decide_eq_false fun e => ?_; rw [isDg_iff.2 e] at h; cases h
theorem pk_drop {s : ByteArray} {i : Nat} {c : UInt8} {r : List UInt8} (h : s.data.toList.drop i = c :: r) : pk s i = c ∧ s.data.toList.drop (i + 1) = r := by
  constructor
  · unfold pk
    rw [List.getD_eq_getElem?_getD, ← List.head?_drop, h]; rfl
  · rw [← List.drop_drop, h]; rfl
theorem pk_end {s : ByteArray} {i : Nat} (h : s.data.toList.drop i = []) : pk s i = 0 := by
  unfold pk
  rw [List.getD_eq_getElem?_getD, ← List.head?_drop, h]; rfl
/-- No digit goes on. -/
def NoDg (r : List UInt8) : Prop := ∀ c t, r = c :: t → isDg c = false
theorem pk_nodg {s : ByteArray} {i : Nat} {r : List UInt8} (h : s.data.toList.drop i = r) (hr : NoDg r) : digB (pk s i) = false := by
  cases r with
  | nil => rw [pk_end h]; decide
  | cons c t => rw [(pk_drop h).1, digB_isDg]; exact hr c t rfl

/-- The reader's loop over the digits of a number. -/
theorem numLoop_run (s : ByteArray) (low high : Int) (neg : Bool) (lim : Nat) (hn : neg = true → low = -(lim : Int)) (hp : neg = false → high = lim) (h1 : lim ≤ 9223372036854775808) (r : List UInt8) (hr : NoDg r) :
    ∀ (l : List UInt8) (f i a : Nat), (∀ c ∈ l, isDg c = true) → s.data.toList.drop i = l ++ r → l.length < f → a ≤ lim →
      if dval a l ≤ lim then numLoop s low high neg f i (-(a : Int)) = (i + l.length, true, -(dval a l : Int)) else ∃ j, numLoop s low high neg f i (-(a : Int)) = (j, false, 0)
  | [], f + 1, i, a, _, hd, _, ha => by
    rw [dval_nil, if_pos ha, numLoop_end _ _ _ _ _ _ _ (pk_nodg hd hr)]; rfl
  | c :: t, f + 1, i, a, hd, hs, hf, ha => by
    have hc := hd c (by simp)
    have hcr := isDg_iff.1 hc
    obtain ⟨hk, hs'⟩ := pk_drop hs
    have hg := dval_ge t (a * 10 + dg1 c)
    rw [dval_cons]
    have hd1 := dg1_eq c
    by_cases hlim : a * 10 + dg1 c ≤ lim
    · have ih := numLoop_run s low high neg lim hn hp h1 r hr t f (i + 1) (a * 10 + dg1 c) (fun x hx => hd x (by simp [hx])) hs' (by simp only [List.length_cons] at hf; omega) hlim
      rw [numLoop_step _ _ _ _ _ _ _ (by rw [hk, digB_isDg]; exact hc) (by
        rw [hk]
        cases neg with
        | true => have := hn rfl; simp only [true_and, false_and, or_false, Bool.true_eq_false]; omega
        | false => have := hp rfl; simp only [true_and, false_and, false_or, Bool.false_eq_true]; omega), hk, show 10 * -(a : Int) - ((c.toNat : Int) - 48) = -((a * 10 + dg1 c : Nat) : Int) by omega,
        show i + (c :: t).length = i + 1 + t.length by rw [List.length_cons]; omega]
      exact ih
    · rw [if_neg (by omega)]
      refine ⟨i, numLoop_bad _ _ _ _ _ _ _ (by rw [hk, digB_isDg]; exact hc) ?_⟩
      rw [hk]
      cases neg with
      | true => have := hn rfl; simp only [true_and, false_and, or_false, Bool.true_eq_false]; omega
      | false => have := hp rfl; simp only [true_and, false_and, false_or, Bool.false_eq_true]; omega

/-- A numeral at a place: the number, where it lies within the bounds. -/
theorem numSp_itoa (s : ByteArray) (lo hi : Nat) (hlo : lo ≤ 9223372036854775808) (hhi : hi ≤ 9223372036854775807) (v : Int) (r : List UInt8) (hr : NoDg r) (i : Nat) (hs : s.data.toList.drop i = itoa v ++ r) :
    if -(lo : Int) ≤ v ∧ v ≤ hi then numSp s (-(lo : Int)) hi i = (i + (itoa v).length, true, v) else ∃ j n, numSp s (-(lo : Int)) hi i = (j, false, n) := by
  have hlen : (itoa v ++ r).length ≤ s.size := by rw [← hs, List.length_drop, Array.length_toList]; exact Nat.sub_le _ _
  rw [List.length_append] at hlen
  by_cases hv : v < 0
  · obtain ⟨u, rfl⟩ : ∃ u : Nat, v = -(u : Int) := ⟨v.natAbs, by omega⟩
    have hu : 1 ≤ u := by omega
    rw [itoa_neg u hu] at hs hlen ⊢
    obtain ⟨⟨hne, hd, hz⟩, hval, hp⟩ := canon_dec u
    obtain ⟨hk, hs'⟩ := pk_drop hs
    have run := numLoop_run s (-(lo : Int)) hi true lo (fun _ => rfl) (fun h => by cases h) hlo r hr (decDigits u) (s.size + 1) (i + 1) 0 hd hs' (by simp only [List.length_cons] at hlen; omega) (Nat.zero_le _)
    rw [hval] at run
    have hfirst : ¬ (digB (pk s (i + 1)) = false ∨ pk s (i + 1) = 48) := by
      cases hq : decDigits u with
      | nil => exact absurd hq hne
      | cons a t =>
        rw [hq] at hs'
        obtain ⟨hk1, _⟩ := pk_drop hs'
        rw [hk1, digB_isDg, hd a (by rw [hq]; simp)]
        rintro (h | h)
        · cases h
        · exact hp hu (by rw [hq, h]; rfl)
    have hsp : numSp s (-(lo : Int)) hi i = numLoop s (-(lo : Int)) hi true (s.size + 1) (i + 1) 0 := by unfold numSp; rw [if_pos hk, if_neg hfirst]
    rw [hsp]
    by_cases hin : u ≤ lo
    · rw [if_pos hin] at run
      rw [if_pos (by omega)]
      rw [show (0 : Int) = -((0 : Nat) : Int) from rfl, run, List.length_cons]
      simp only [Prod.mk.injEq, and_true]; omega
    · rw [if_neg hin] at run
      rw [if_neg (by omega)]
      obtain ⟨j, hj⟩ := run
      exact ⟨j, 0, hj⟩
  · obtain ⟨u, rfl⟩ : ∃ u : Nat, v = (u : Int) := ⟨v.toNat, by omega⟩
    rw [itoa_nonneg] at hs hlen ⊢
    obtain ⟨⟨hne, hd, hz⟩, hval, hp⟩ := canon_dec u
    have run := numLoop_run s (-(lo : Int)) hi false hi (fun h => by cases h) (fun _ => rfl) (by omega) r hr (decDigits u) (s.size + 1) i 0 hd hs (by omega) (Nat.zero_le _)
    rw [hval] at run
    cases hq : decDigits u with
    | nil => exact absurd hq hne
    | cons a t =>
      rw [hq] at hs
      obtain ⟨hk, _⟩ := pk_drop hs
      have had := hd a (by rw [hq]; simp)
      have har := isDg_iff.1 had
      have hn45 : ¬ pk s i = 45 := by
        rw [hk]; intro e; rw [e] at had; exact absurd had (by decide)
      rw [← hq]
      by_cases h48 : a = 48
      · have hl1 := hz (by rw [hq, h48]; rfl)
        have ht : t = [] := by rw [hq] at hl1; simpa using hl1
        have hu0 : u = 0 := by rw [← hval, hq, ht, h48, dval_cons, dval_nil, dg1_eq]; rfl
        subst hu0
        rw [if_pos (by omega), hl1]
        unfold numSp
        rw [if_neg hn45, if_pos (by rw [hk, h48])]; rfl
      · have hsp : numSp s (-(lo : Int)) hi i = negR (numLoop s (-(lo : Int)) hi false (s.size + 1) i 0) := by
          unfold numSp; rw [if_neg hn45, if_neg (by rw [hk]; exact h48), if_neg (by rw [hk, digB_isDg, had]; decide)]
        rw [hsp]
        by_cases hin : u ≤ hi
        · rw [if_pos hin] at run
          rw [if_pos (by omega), show (0 : Int) = -((0 : Nat) : Int) from rfl, run]
          unfold negR; simp
        · rw [if_neg hin] at run
          rw [if_neg (by omega)]
          obtain ⟨j, hj⟩ := run
          refine ⟨j, 0, ?_⟩
          rw [show (0 : Int) = -((0 : Nat) : Int) from rfl, hj]; rfl

theorem itoa_ne (v : Int) : itoa v ≠ [] := by
  by_cases hv : v < 0
  · obtain ⟨u, rfl⟩ : ∃ u : Nat, v = -(u : Int) := ⟨v.natAbs, by omega⟩
    rw [itoa_neg u (by omega)]; simp
  · obtain ⟨u, rfl⟩ : ∃ u : Nat, v = (u : Int) := ⟨v.toNat, by omega⟩
    rw [itoa_nonneg]; exact (canon_dec u).1.1
theorem refNum_zero {l : List UInt8} (h : l ≠ []) : refNum (48 :: l) = none := by
  unfold refNum
  have : ¬ ((48 : UInt8) :: l).head? = some 45 := by simp
  simp only [this, decide_false, Bool.false_eq_true, if_false]
  rw [if_pos]
  refine .inr (.inr ⟨rfl, .inl ?_⟩)
  cases l with
  | nil => exact absurd rfl h
  | cons a r => simp
theorem refNum_bad {l : List UInt8} (c : UInt8) (hc : c ∈ l) (h1 : isDg c = false) (h2 : c ≠ 45) : refNum l = none := by
  unfold refNum
  have hall : ∀ t : List UInt8, c ∈ t → t.all isDg = false := fun t ht => by
    rw [Bool.eq_false_iff]; intro e; rw [List.all_eq_true] at e; rw [e c ht] at h1; cases h1
  by_cases hn : l.head? = some 45
  · obtain ⟨t, rfl⟩ : ∃ t, l = 45 :: t := by
      cases l with
      | nil => simp at hn
      | cons a r => simp only [List.head?_cons, Option.some.injEq] at hn; exact ⟨r, by rw [hn]⟩
    simp only [List.head?_cons, decide_true, if_true, List.tail_cons]
    split
    · rfl
    · rw [if_pos (hall t (by rcases List.mem_cons.1 hc with h | h; exact absurd h h2; exact h))]
  · simp only [hn, decide_false, Bool.false_eq_true, if_false]
    split
    · rfl
    · rw [if_pos (hall l hc)]
end Go.Proofs.YtoemnccklakkeaaDoor
