/-
  val's own at any value.
-/
import Derived.Test.YtoemnccklakkeaaDoorVwA
import Derived.Lib.Strings
namespace Go.Proofs.YtoemnccklakkeaaDoor
open Go.RowKit Go.Lib
set_option linter.unusedVariables false

theorem empty_iff (s : ByteArray) : (s.toList.isEmpty = true ∧ s.toList = [] ∧ s.data.toList = []) ∨ (s.toList.isEmpty = false ∧ ¬s.toList = [] ∧ s.data.toList ≠ []) := by
  rw [Lib.toList_data]
  cases h : s.data.toList with
  | nil => exact .inl ⟨rfl, rfl, rfl⟩
  | cons a t => exact .inr ⟨rfl, by simp, by simp⟩

theorem own_c (k n : Int) (s : ByteArray) (sa : Option Addr) (len sc : Nat) (ea : Nat → Addr) (w : World) (he : ErrsAt w ea) (hs : s.size ≤ 140737488351232) :
    Calls Tryd.prog 88 #[.agg #[.int .i64 k, .int .i64 n, .string s, .slice sa len sc]] w fun e w' => e = .returned (errV ea (ownE k n s len)) ∧ Below w.heap.size w w' := by
  by_cases h0 : k < 0
  · rw [show ownE k n s len = 105 by unfold ownE; rw [if_pos (.inl h0)]]
    exact own_lo n s sa len sc ea w he k h0
  by_cases h4 : 4 < k
  · rw [show ownE k n s len = 105 by unfold ownE; rw [if_pos (.inr h4)]]
    exact own_hi n s sa len sc ea w he k h4
  have hk : k = 0 ∨ k = 1 ∨ k = 2 ∨ k = 3 ∨ k = 4 := by omega
  clear h0 h4
  have nz : ∀ m : Int, m ≠ 0 → (m != 0) = true ∧ (m == 0) = false := fun m hm => ⟨by rw [bne_iff_ne]; exact hm, by rw [beq_eq_false_iff_ne]; exact hm⟩
  have pe : s.data.toList = [] → prB s.data.toList = true := fun h => by rw [h]; rfl
  rcases hk with rfl | rfl | rfl | rfl | rfl
  · rcases empty_iff s with ⟨e1, e2, e3⟩ | ⟨e1, e2, e3⟩
    · by_cases hl : 0 < len
      · rw [show ownE 0 n s len = 103 by simp [ownE, e3, hl]]
        exact own_0l n s sa len sc ea w he e1 e2 hl
      · obtain rfl : len = 0 := by omega
        rw [show ownE 0 n s 0 = 0 by simp [ownE, e3, prB]]
        exact own_0ok n s sa 0 sc ea w he e1 e2 hs (pe e3)
    · rw [show ownE 0 n s len = 103 by unfold ownE; rw [if_neg (by omega), if_neg (by omega), if_neg (by omega), if_pos (.inl ⟨by omega, e3⟩)]]
      exact own_0s n s sa len sc ea w he e1 e2
  · by_cases hr : n < -2147483648
    · rw [show ownE 1 n s len = 105 by unfold ownE; rw [if_neg (by omega), if_pos ⟨rfl, .inl hr⟩]]
      exact own_1lo n s sa len sc ea w he hr
    by_cases hr2 : 2147483647 < n
    · rw [show ownE 1 n s len = 105 by unfold ownE; rw [if_neg (by omega), if_pos ⟨rfl, .inr hr2⟩]]
      exact own_1hi n s sa len sc ea w he hr2
    have q1 : -2147483648 ≤ n := by omega
    have q2 : n ≤ 2147483647 := by omega
    rcases empty_iff s with ⟨e1, e2, e3⟩ | ⟨e1, e2, e3⟩
    · by_cases hl : 0 < len
      · rw [show ownE 1 n s len = 103 by unfold ownE; rw [if_neg (by omega), if_neg (by omega), if_neg (by omega), if_pos (.inr (.inl ⟨by omega, hl⟩))]]
        exact own_1l n s sa len sc ea w he q1 q2 e1 e2 hl
      · obtain rfl : len = 0 := by omega
        rw [show ownE 1 n s 0 = 0 by unfold ownE; rw [if_neg (by omega), if_neg (by omega), if_neg (by omega), if_neg (by simp [e3]), if_neg (by rw [pe e3]; decide)]]
        exact own_1ok n s sa 0 sc ea w he q1 q2 e1 e2 hs (pe e3)
    · rw [show ownE 1 n s len = 103 by unfold ownE; rw [if_neg (by omega), if_neg (by omega), if_neg (by omega), if_pos (.inl ⟨by omega, e3⟩)]]
      exact own_1s n s sa len sc ea w he q1 q2 e1 e2
  · by_cases hl : 0 < len
    · rw [show ownE 2 n s len = 103 by unfold ownE; rw [if_neg (by omega), if_neg (by omega), if_neg (by omega), if_pos (.inr (.inl ⟨by omega, hl⟩))]]
      exact own_2l n s sa len sc ea w he hl
    obtain rfl : len = 0 := by omega
    by_cases hn : n = 0
    · subst hn
      cases hp : prB s.data.toList with
      | true =>
        rw [show ownE 2 0 s 0 = 0 by unfold ownE; rw [if_neg (by omega), if_neg (by omega), if_neg (by omega), if_neg (by omega), if_neg (by rw [hp]; decide)]]
        exact own_2ok 0 s sa 0 sc ea w he hs hp
      | false =>
        rw [show ownE 2 0 s 0 = 103 by unfold ownE; rw [if_neg (by omega), if_neg (by omega), if_neg (by omega), if_neg (by omega), if_pos hp]]
        exact own_2p 0 s sa 0 sc ea w he hs hp
    · rw [show ownE 2 n s 0 = 103 by unfold ownE; rw [if_neg (by omega), if_neg (by omega), if_neg (by omega), if_pos (.inr (.inr ⟨.inl rfl, hn⟩))]]
      exact own_2n n s sa 0 sc ea w he (nz n hn).1 (nz n hn).2
  · by_cases hr : n < 0
    · rw [show ownE 3 n s len = 105 by unfold ownE; rw [if_neg (by omega), if_neg (by omega), if_pos ⟨rfl, .inl hr⟩]]
      exact own_3lo n s sa len sc ea w he hr
    by_cases hr2 : 14 < n
    · rw [show ownE 3 n s len = 105 by unfold ownE; rw [if_neg (by omega), if_neg (by omega), if_pos ⟨rfl, .inr hr2⟩]]
      exact own_3hi n s sa len sc ea w he hr2
    have q1 : 0 ≤ n := by omega
    have q2 : n ≤ 14 := by omega
    rcases empty_iff s with ⟨e1, e2, e3⟩ | ⟨e1, e2, e3⟩
    · by_cases hl : 0 < len
      · rw [show ownE 3 n s len = 103 by unfold ownE; rw [if_neg (by omega), if_neg (by omega), if_neg (by omega), if_pos (.inr (.inl ⟨by omega, hl⟩))]]
        exact own_3l n s sa len sc ea w he q1 q2 e1 e2 hl
      · obtain rfl : len = 0 := by omega
        rw [show ownE 3 n s 0 = 0 by unfold ownE; rw [if_neg (by omega), if_neg (by omega), if_neg (by omega), if_neg (by simp [e3]), if_neg (by rw [pe e3]; decide)]]
        exact own_3ok n s sa 0 sc ea w he q1 q2 e1 e2 hs (pe e3)
    · rw [show ownE 3 n s len = 103 by unfold ownE; rw [if_neg (by omega), if_neg (by omega), if_neg (by omega), if_pos (.inl ⟨by omega, e3⟩)]]
      exact own_3s n s sa len sc ea w he q1 q2 e1 e2
  · rcases empty_iff s with ⟨e1, e2, e3⟩ | ⟨e1, e2, e3⟩
    · by_cases hn : n = 0
      · subst hn
        rw [show ownE 4 0 s len = 0 by unfold ownE; rw [if_neg (by omega), if_neg (by omega), if_neg (by omega), if_neg (by simp [e3]), if_neg (by rw [pe e3]; decide)]]
        exact own_4ok 0 s sa len sc ea w he e1 e2 hs (pe e3)
      · rw [show ownE 4 n s len = 103 by unfold ownE; rw [if_neg (by omega), if_neg (by omega), if_neg (by omega), if_pos (.inr (.inr ⟨.inr rfl, hn⟩))]]
        exact own_4n n s sa len sc ea w he e1 e2 (nz n hn).1 (nz n hn).2
    · rw [show ownE 4 n s len = 103 by unfold ownE; rw [if_neg (by omega), if_neg (by omega), if_neg (by omega), if_pos (.inl ⟨by omega, e3⟩)]]
      exact own_4s n s sa len sc ea w he e1 e2
end Go.Proofs.YtoemnccklakkeaaDoor
