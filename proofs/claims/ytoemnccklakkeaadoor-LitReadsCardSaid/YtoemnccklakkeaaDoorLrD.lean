/-
  The reference's reader: the names of errors, plain: how far a text goes along with any of them.
-/
import Derived.Test.YtoemnccklakkeaaDoorBkC
import Derived.Test.YtoemnccklakkeaaDoorCtP
import Derived.Test.YtoemnccklakkeaaDoorLrC
namespace Go.Proofs.YtoemnccklakkeaaDoor
open Go.RowKit Go.Lib
set_option linter.unusedVariables false

theorem ba_ext2 {a b : ByteArray} (h : a.data.toList = b.data.toList) : a = b := by
  rcases a with ⟨⟨a⟩⟩; rcases b with ⟨⟨b⟩⟩
  simp only at h; rw [h]
theorem cpl_match (s : ByteArray) (i : Nat) (n : ByteArray) : ∀ (f k j : Nat), k ≤ j → j < cpl s i n f k → i + j < s.size ∧ j < n.size ∧ pk s (i + j) = pk n j
  | 0, k, j, h, hj => by unfold cpl at hj; omega
  | f + 1, k, j, h, hj => by
    unfold cpl at hj
    by_cases hc : k < n.size ∧ i + k < s.size ∧ pk s (i + k) = pk n k
    · rw [if_pos hc] at hj
      by_cases e : j = k
      · subst e; exact ⟨hc.2.1, hc.1, hc.2.2⟩
      · exact cpl_match s i n f (k + 1) j (by omega) hj
    · rw [if_neg hc] at hj; omega
theorem cp_ge_iff {s : ByteArray} {i : Nat} {n : ByteArray} {m : Nat} : m ≤ cp s i n ↔ ∀ j, j < m → i + j < s.size ∧ j < n.size ∧ pk s (i + j) = pk n j := by
  constructor
  · intro h j hj
    exact cpl_match s i n (n.size + 1) 0 j (Nat.zero_le _) (Nat.lt_of_lt_of_le hj h)
  · intro h
    rcases Nat.eq_zero_or_pos m with rfl | hm
    · exact Nat.zero_le _
    · have hm2 : m ≤ n.size := by have := h (m - 1) (by omega); omega
      rcases cpl_lower s i n m hm2 (n.size + 1) 0 (by omega) (fun j _ hj => ⟨(h j hj).1, (h j hj).2.2⟩) with e | e
      · exact e
      · omega
theorem pk_some {s : ByteArray} {j : Nat} (h : j < s.size) : s.data.toList[j]? = some (pk s j) := by
  unfold pk
  have hs : s.data.toList.length = s.size := by rw [Array.length_toList]; rfl
  rw [List.getD_eq_getElem?_getD, List.getElem?_eq_getElem (by omega)]; rfl
theorem ext_list (s : ByteArray) (a b : Nat) : (s.extract a b).data.toList = (s.data.toList.drop a).take (b - a) := by
  rw [ByteArray.data_extract, Array.toList_extract]
/-- The reference's test: does a name go along with the text for one letter more? -/
theorem cmp_iff {s : ByteArray} {i m : Nat} {n : ByteArray} (h1 : m < n.size) (h2 : i + m < s.size) : ((n.extract 0 (m + 1)).toList == (s.extract i (i + m + 1)).toList) = decide (m + 1 ≤ cp s i n) := by
  have hs : s.data.toList.length = s.size := by rw [Array.length_toList]; rfl
  have hn : n.data.toList.length = n.size := by rw [Array.length_toList]; rfl
  rw [Bool.eq_iff_iff, beq_iff_eq, decide_eq_true_eq, cp_ge_iff, Lib.toList_data, Lib.toList_data, ext_list, ext_list]
  rw [List.drop_zero, show m + 1 - 0 = m + 1 from rfl, show i + m + 1 - i = m + 1 by omega]
  constructor
  · intro h j hj
    refine ⟨by omega, by omega, ?_⟩
    have h3 := congrArg (fun l => l[j]?) h
    simp only [List.getElem?_take, if_pos hj, List.getElem?_drop] at h3
    rw [pk_some (by omega), pk_some (by omega)] at h3
    exact (Option.some.inj h3).symm
  · intro h
    apply List.ext_getElem?
    intro j
    simp only [List.getElem?_take, List.getElem?_drop]
    by_cases hj : j < m + 1
    · rw [if_pos hj, if_pos hj, pk_some (by omega), pk_some (by omega), (h j hj).2.2]
    · rw [if_neg hj, if_neg hj]

/-- Does any of the first names go along for one letter more? -/
def grB (s : ByteArray) (i m : Nat) : Nat → Bool
  | 0 => false
  | c + 1 => grB s i m c || decide (m + 1 ≤ cp s i (nmAt c))
theorem far_has (s : ByteArray) (i : Nat) : ∀ c, (codeTo s i c).2.2 = 0 ∨ ∃ a, a < c ∧ (codeTo s i c).2.2 = (cp s i (nmAt a) : Int)
  | 0 => .inl rfl
  | c + 1 => by
    have ih := far_has s i c
    have e : (codeTo s i (c + 1)).2.2 = max (codeTo s i c).2.2 (cp s i (nmAt c) : Int) := by
      rw [codeTo, codeStep]
      show _ = max _ ((cp s i (nmL.getD c ByteArray.empty) : Nat) : Int)
      split <;> rfl
    rw [e]
    rcases Int.le_total (codeTo s i c).2.2 (cp s i (nmAt c) : Int) with h | h
    · exact .inr ⟨c, by omega, by omega⟩
    · rcases ih with h0 | ⟨a, ha, h0⟩
      · exact .inl (by omega)
      · exact .inr ⟨a, by omega, by omega⟩
theorem grB_far (s : ByteArray) (i m : Nat) : grB s i m 15 = decide ((m : Int) < (codeTo s i 15).2.2) := by
  have h1 : ∀ c, grB s i m c = true ↔ ∃ a, a < c ∧ m + 1 ≤ cp s i (nmAt a) := by
    intro c
    induction c with
    | zero => simp [grB]
    | succ c ih =>
      rw [grB, Bool.or_eq_true, ih, decide_eq_true_eq]
      constructor
      · rintro (⟨a, ha, h⟩ | h)
        · exact ⟨a, by omega, h⟩
        · exact ⟨c, by omega, h⟩
      · rintro ⟨a, ha, h⟩
        by_cases e : a = c
        · subst e; exact .inr h
        · exact .inl ⟨a, by omega, h⟩
  rw [Bool.eq_iff_iff, h1, decide_eq_true_eq]
  constructor
  · rintro ⟨a, ha, h⟩
    have := codeTo_far s i a 15 ha
    omega
  · intro h
    rcases far_has s i 15 with h0 | ⟨a, ha, h0⟩
    · omega
    · exact ⟨a, ha, by omega⟩

/-- Where it goes no further: the name, if it is one. -/
theorem cp_le_full {s : ByteArray} {i a b : Nat} (ha : a < 15) (hb : b < 15) (h : NmAt s i (nmAt b) 0) : cp s i (nmAt a) ≤ (nmAt b).size := by
  by_cases e : a = b
  · subst e; exact cp_le _ _ _
  · rcases Nat.lt_or_ge (nmAt b).size (cp s i (nmAt a)) with hlt | hge
    · exfalso
      obtain ⟨j, hj1, hj2, hne⟩ := nm_apart ⟨a, ha⟩ ⟨b, hb⟩ (by simpa using e)
      simp only at hj1 hj2 hne
      have h1 := cp_ge_iff.1 (Nat.le_refl (cp s i (nmAt a))) j.val (by omega)
      have h2 := h j.val (Nat.zero_le _) hj2
      exact hne (h1.2.2.symm.trans h2.2)
    · exact hge
theorem err_end {s : ByteArray} {i F : Nat} (hi : i ≤ s.size) (hF : (codeTo s i 15).2.2 = (F : Int)) :
    codeSp s i = (i + F, decide (0 ≤ codeOf (s.extract i (i + F))), (codeSp s i).2.2) ∧ (0 ≤ codeOf (s.extract i (i + F)) → (codeSp s i).2.2 = codeOf (s.extract i (i + F))) := by
  have hroom := (codeTo_room s i hi 15).2
  have hn : ∀ b : ByteArray, b.data.toList.length = b.size := fun b => by rw [Array.length_toList]; rfl
  by_cases hex : ∃ b, b < 15 ∧ NmAt s i (nmAt b) 0
  · obtain ⟨b, hb, hm⟩ := hex
    have hsp := codeSp_of hb hm
    have hFb : F = (nmAt b).size := by
      have h1 : (nmAt b).size ≤ cp s i (nmAt b) := cp_ge_iff.2 (fun j hj => ⟨(hm j (Nat.zero_le _) hj).1, hj, (hm j (Nat.zero_le _) hj).2⟩)
      have h2 := codeTo_far s i b 15 hb
      rcases far_has s i 15 with h0 | ⟨a, ha, h0⟩
      · have := nm_size ⟨b, hb⟩; simp only at this; omega
      · have := cp_le_full ha hb hm; omega
    have hnow : s.extract i (i + F) = nmAt b := by
      apply ba_ext2
      rw [ext_list, show i + F - i = F by omega, drop_nm hm, hFb, ← hn (nmAt b), List.take_left]
    have hcode : codeOf (s.extract i (i + F)) = b := by
      rw [hnow]
      refine codeOf_hit _ b hb rfl (fun j hj e => ?_)
      have e' : nmAt j = nmAt b := e
      obtain ⟨k, hk1, hk2, hne⟩ := nm_apart ⟨j, by omega⟩ ⟨b, hb⟩ (by simp; omega)
      simp only at hk1 hk2 hne
      exact hne (by rw [e'])
    rw [hsp, hcode, hFb]
    refine ⟨?_, fun _ => rfl⟩
    rw [decide_eq_true (by omega)]
  · have hno : ∀ a, a < 15 → ¬ NmAt s i (nmAt a) 0 := fun a ha h => hex ⟨a, ha, h⟩
    obtain ⟨h1, h2⟩ := codeTo_none (s := s) (i := i) 15 hno
    have hsp : codeSp s i = (i + F, false, 0) := by
      unfold codeSp
      simp only [h1, h2, hF]
      rw [if_pos (by decide)]; rfl
    have hcode : codeOf (s.extract i (i + F)) = -1 := by
      refine codeOf_miss _ (fun j hj e => hno j hj ?_)
      have e2 : (s.data.toList.drop i).take F = (nmAt j).data.toList := by
        have := congrArg (fun b : ByteArray => b.data.toList) e
        simp only [ext_list] at this
        rw [show i + F - i = F by omega] at this
        exact this.symm
      refine nmAt_of (r := (s.data.toList.drop i).drop F) ?_
      rw [← e2, List.take_append_drop]
    rw [hsp, hcode]
    exact ⟨rfl, fun h => absurd h (by decide)⟩
end Go.Proofs.YtoemnccklakkeaaDoor
