/- Contracts of the functions that the statement reaches, and the plain mathematics beneath: several texts joined. -/
import Derived.Test.YtjibjgokloondaaGreatDoorParP
import Derived.Test.YtjibjgokloondaaGreatDoorParA
import Derived.Test.YtjibjgokloondaaGreatDoorParB
import Derived.Test.YtjibjgokloondaaGreatDoorParC
import Derived.Test.YtjibjgokloondaaGreatDoorParD
import Derived.Test.YtjibjgokloondaaGreatDoorParE
import Derived.Test.YtjibjgokloondaaGreatDoorParF
import Derived.Test.YtjibjgokloondaaGreatDoorParG
import Derived.Test.YtjibjgokloondaaGreatDoorParH
import Derived.Test.YtjibjgokloondaaGreatDoorParI
import Derived.Test.YtjibjgokloondaaGreatDoorParJ
import Derived.Test.YtjibjgokloondaaGreatDoorParK
import Derived.Test.YtjibjgokloondaaGreatDoorParL
import Derived.Test.YtjibjgokloondaaGreatDoorParM
import Derived.Test.YtjibjgokloondaaGreatDoorParN
import Derived.Test.YtjibjgokloondaaGreatDoorParO
namespace Go.Proofs.YtjibjgokloondaaGreatDoor
open Go.RowKit Go.Lib
set_option linter.unusedVariables false

/-- None of a sort goes on. -/
def NoP (p : UInt8 → Bool) (r : List UInt8) : Prop := ∀ c t, r = c :: t → p c = false
theorem runN_split {s : ByteArray} {p : UInt8 → Bool} {r : List UInt8} (hr : NoP p r) : ∀ (a : List UInt8) (f i : Nat), (∀ c ∈ a, p c = true) → s.data.toList.drop i = a ++ r → a.length < f → runN s p f i = a.length
  | a, 0, i, _, _, hf => absurd hf (Nat.not_lt_zero _)
  | [], f + 1, i, _, hd, _ => by
    unfold runN
    rw [if_neg]
    · rfl
    · rintro ⟨h1, h2⟩
      rw [drop_pk h1] at hd
      have := hr _ _ hd.symm
      rw [h2] at this; cases this
  | c :: t, f + 1, i, ha, hd, hf => by
    obtain ⟨k1, d1⟩ := pk_drop hd
    have hlt : i < s.size := by
      rcases Nat.lt_or_ge i s.size with h | h
      · exact h
      · exfalso
        have hs : s.data.toList.length = s.size := by rw [Array.length_toList]; rfl
        rw [List.drop_of_length_le (by omega)] at hd; cases hd
    unfold runN
    rw [if_pos ⟨hlt, by rw [k1]; exact ha c (by simp)⟩, runN_split hr t f (i + 1) (fun x hx => ha x (by simp [hx])) d1 (by rw [List.length_cons] at hf; omega)]; rfl
theorem drop_len_le {s : ByteArray} {i : Nat} {a r : List UInt8} (h : s.data.toList.drop i = a ++ r) (ha : a ≠ []) : i + a.length + r.length = s.size := by
  have hs : s.data.toList.length = s.size := by rw [Array.length_toList]; rfl
  have := congrArg List.length h
  rw [List.length_drop, List.length_append, hs] at this
  have hl : 0 < a.length := List.length_pos_iff.2 ha
  omega
theorem run_split {s : ByteArray} {p : UInt8 → Bool} {a r : List UInt8} {i : Nat} (hr : NoP p r) (ha : ∀ c ∈ a, p c = true) (hd : s.data.toList.drop i = a ++ r) (hne : a ≠ []) : run s p i = a.length := by
  have := drop_len_le hd hne
  unfold run
  exact runN_split hr a _ i ha hd (by omega)
theorem ext_split {s : ByteArray} {a r : List UInt8} {i : Nat} (hd : s.data.toList.drop i = a ++ r) : (s.extract i (i + a.length)).data.toList = a := by
  rw [ByteArray.data_extract, Array.toList_extract, List.extract_eq_take_drop, hd, show i + a.length - i = a.length by omega, List.take_left]
theorem pk_behind {s : ByteArray} {a r : List UInt8} {i : Nat} (hd : s.data.toList.drop i = a ++ r) : s.data.toList.drop (i + a.length) = r := drop_add hd
/-- No letter and no digit goes on. -/
def Stop (r : List UInt8) : Prop := ∀ c t, r = c :: t → smB c = false ∧ gtB c = false ∧ digB c = false
theorem stop_next {s : ByteArray} {r : List UInt8} {j : Nat} (hd : s.data.toList.drop j = r) (hr : Stop r) : smB (pk s j) = false ∧ gtB (pk s j) = false ∧ digB (pk s j) = false := by
  cases r with
  | nil => rw [pk_end hd]; decide
  | cons c t => rw [(pk_drop hd).1]; exact hr c t rfl
theorem dig_dg {l : List UInt8} (h : ∀ c ∈ l, isDg c = true) : ∀ c ∈ l, digB c = true := fun c hc => by rw [digB_isDg]; exact h c hc

/-- The digits of a number, as the words have it. -/
theorem dgs_ok {s : ByteArray} {i u : Nat} {r : List UInt8} (hd : s.data.toList.drop i = decDigits u ++ r) (hr : Stop r) : dgsSp s i = if 9223372036854775807 < u then .inl 105 else .inr ((u : Int), (decDigits u).length) := by
  obtain ⟨⟨hne, hdg, hz⟩, hval, hpos⟩ := canon_dec u
  have hrun : run s digB i = (decDigits u).length := run_split (fun c t e => (hr c t e).2.2) (dig_dg hdg) hd hne
  have hnext := stop_next (pk_behind hd) hr
  have hl : 0 < (decDigits u).length := List.length_pos_iff.2 hne
  unfold dgsSp
  simp only [hrun, ext_split hd, hval]
  rw [if_neg]
  rintro (h | ⟨h1, h2⟩ | ⟨h1, h2 | h2⟩)
  · omega
  · have : (decDigits u).head? = some 48 := by
      cases hq : decDigits u with
      | nil => exact absurd hq hne
      | cons a t =>
        rw [hq] at hd
        rw [(pk_drop hd).1] at h2
        rw [h2]; rfl
    have := hz this
    omega
  · rw [hnext.1] at h2; cases h2
  · rw [hnext.2.1] at h2; cases h2
theorem dec_head (u : Nat) : ∃ c t, decDigits u = c :: t ∧ digB c = true := by
  obtain ⟨⟨hne, hdg, hz⟩, hval, hpos⟩ := canon_dec u
  cases hq : decDigits u with
  | nil => exact absurd hq hne
  | cons c t => exact ⟨c, t, rfl, by rw [digB_isDg]; exact hdg c (by rw [hq]; simp)⟩
theorem dig_not {c : UInt8} (h : digB c = true) : smB c = false ∧ gtB c = false ∧ c ≠ 35 ∧ c ≠ 34 ∧ c ≠ 45 := by
  unfold digB at h
  rw [decide_eq_true_eq] at h
  refine ⟨?_, ?_, ?_, ?_, ?_⟩
  · unfold smB
    rw [Bool.or_eq_false_iff, decide_eq_false_iff_not, beq_eq_false_iff_ne]
    exact ⟨by omega, fun e => by rw [e] at h; exact absurd h (by decide)⟩
  · unfold gtB; rw [decide_eq_false_iff_not]; omega
  · intro e; rw [e] at h; exact absurd h (by decide)
  · intro e; rw [e] at h; exact absurd h (by decide)
  · intro e; rw [e] at h; exact absurd h (by decide)

/-- An Int that is not below 0, as a word. -/
theorem int_word {s : ByteArray} {i u : Nat} {r : List UInt8} {line : Int} (hd : s.data.toList.drop i = decDigits u ++ r) (hr : Stop r) : wordR s i line = if 9223372036854775807 < u then .bad 105 else .word (decDigits u).length ⟨3, line, ⟨#[]⟩, 0, u, ⟨#[]⟩⟩ := by
  obtain ⟨c, t, hq, hc⟩ := dec_head u
  have hp : pk s i = c := by rw [hq] at hd; exact (pk_drop hd).1
  have hn := dig_not hc
  unfold wordR
  simp only [hp, hn.1, hc, Bool.false_eq_true, if_false, if_true, dgs_ok hd hr]
  by_cases hb : 9223372036854775807 < u
  · simp only [if_pos hb]
  · simp only [if_neg hb]
end Go.Proofs.YtjibjgokloondaaGreatDoor
namespace Go.Proofs.YtjibjgokloondaaGreatDoor
open Go.RowKit Go.Lib
set_option linter.unusedVariables false

theorem allSp_end {s : ByteArray} {i : Nat} {line : Int} {out : List Tok} (h : ¬ i < s.size) : ∀ f, allSp s f i line out = .inr out
  | 0 => rfl
  | f + 1 => by rw [allSp, if_neg h]
theorem allSp_word {s : ByteArray} {f i n : Nat} {line : Int} {out : List Tok} {t : Tok} (h : i < s.size) (h10 : pk s i ≠ 10) (h32 : pk s i ≠ 32) (hw : wordR s i line = .word n t) : allSp s (f + 1) i line out = allSp s f (i + n) line (out ++ [t]) := by
  rw [allSp, if_pos h, if_neg h10, if_neg h32, hw]
theorem allSp_bad {s : ByteArray} {f i c : Nat} {line : Int} {out : List Tok} (h : i < s.size) (h10 : pk s i ≠ 10) (h32 : pk s i ≠ 32) (hw : wordR s i line = .bad c) : allSp s (f + 1) i line out = .inl (c, line) := by
  rw [allSp, if_pos h, if_neg h10, if_neg h32, hw]
/-- A literal that a word may be. -/
def LitOk (k n : Int) (t : ByteArray) : Prop := ownE k n t 0 = 0 ∧ k ≠ 4 ∧ (k = 0 → 0 ≤ n) ∧ t.size < 4096 ∧ -9223372036854775808 ≤ n ∧ n ≤ 9223372036854775807
end Go.Proofs.YtjibjgokloondaaGreatDoor
namespace Go.Proofs.YtjibjgokloondaaGreatDoor
open Go.RowKit Go.Lib
set_option linter.unusedVariables false

/-- A name's letters. -/
def nameL (l : List UInt8) : Prop := ∃ c r, l = c :: r ∧ smB c = true ∧ (∀ x ∈ l, (smB x || digB x) = true) ∧ l.length ≤ 32
/-- A word that lex may have read. -/
def TokOk (t : Tok) : Prop :=
  (t.kind = 3 ∧ t.s = ⟨#[]⟩ ∧ LitOk t.k t.n t.t) ∨
  ((t.kind = if keysL.contains t.s then 2 else 1) ∧ nameL t.s.data.toList ∧ t.k = 0 ∧ t.n = 0 ∧ t.t = ⟨#[]⟩) ∨
  (t.kind = 4 ∧ t.s ∈ signsL ∧ t.k = 0 ∧ t.n = 0 ∧ t.t = ⟨#[]⟩)
end Go.Proofs.YtjibjgokloondaaGreatDoor
namespace Go.Proofs.YtjibjgokloondaaGreatDoor
open Go.RowKit Go.Lib
set_option linter.unusedVariables false

end Go.Proofs.YtjibjgokloondaaGreatDoor
namespace Go.Proofs.YtjibjgokloondaaGreatDoor
open Go.RowKit Go.Lib
set_option linter.unusedVariables false

end Go.Proofs.YtjibjgokloondaaGreatDoor
namespace Go.Proofs.YtjibjgokloondaaGreatDoor
open Go.RowKit Go.Lib
set_option linter.unusedVariables false

theorem runN_drop (s : ByteArray) (p : UInt8 → Bool) : ∀ (f i : Nat), i ≤ s.size → ∃ a r, s.data.toList.drop i = a ++ r ∧ a.length = runN s p f i ∧ ∀ c ∈ a, p c = true
  | 0, i, h => ⟨[], _, rfl, rfl, fun c hc => by cases hc⟩
  | f + 1, i, h => by
    by_cases hc : i < s.size ∧ p (pk s i) = true
    · obtain ⟨a, r, h1, h2, h3⟩ := runN_drop s p f (i + 1) (by omega)
      have hz : s.data.toList.length = s.size := by rw [Array.length_toList]; rfl
      have hd : s.data.toList.drop i = s.data.toList[i]'(by rw [hz]; exact hc.1) :: s.data.toList.drop (i + 1) := List.drop_eq_getElem_cons (by rw [hz]; exact hc.1)
      have hp := (pk_drop hd).1
      refine ⟨pk s i :: a, r, ?_, ?_, ?_⟩
      · rw [hd, ← hp, h1]; rfl
      · rw [runN, if_pos hc, List.length_cons, h2]
      · intro c hm
        rcases List.mem_cons.1 hm with rfl | hm
        · exact hc.2
        · exact h3 c hm
    · exact ⟨[], _, rfl, by rw [runN, if_neg hc]; rfl, fun c hc => by cases hc⟩
theorem quoEnd_le (s : ByteArray) : ∀ (f i j : Nat), quoEnd s f i = some j → i < j ∧ j ≤ s.size
  | 0, i, j, h => by cases h
  | f + 1, i, j, h => by
    rw [quoEnd] at h
    split at h
    · rename_i hc
      split at h
      · injection h with h; omega
      · split at h
        · have := quoEnd_le s f _ _ h; omega
        · have := quoEnd_le s f _ _ h; omega
    · cases h
end Go.Proofs.YtjibjgokloondaaGreatDoor
