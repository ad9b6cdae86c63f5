/-
  Values alike: plain.
-/
import Derived.Test.YtoemnccklakkeaaDoorVwD
namespace Go.Proofs.YtoemnccklakkeaaDoor
open Go.RowKit Go.Lib
set_option linter.unusedVariables false

/-- Are two lists of values alike? -/
def sameL : VL → VL → Bool
  | .nil, .nil => true
  | .cons k n s a r, .cons k' n' s' a' r' => (sameL a a' && decide (k = k') && decide (n = n') && decide (s = s')) && sameL r r'
  | _, _ => false
/-- Are two values alike? -/
def same1 (k n : Int) (s : ByteArray) (a : VL) (k' n' : Int) (s' : ByteArray) (a' : VL) : Bool := sameL a a' && decide (k = k') && decide (n = n') && decide (s = s')
theorem sameL_iff : ∀ a b : VL, sameL a b = true ↔ a = b
  | .nil, .nil => by simp [sameL]
  | .nil, .cons .. => by simp [sameL]
  | .cons .., .nil => by simp [sameL]
  | .cons k n s a r, .cons k' n' s' a' r' => by
    rw [sameL, Bool.and_eq_true, Bool.and_eq_true, Bool.and_eq_true, Bool.and_eq_true, sameL_iff a a', sameL_iff r r', decide_eq_true_eq, decide_eq_true_eq, decide_eq_true_eq]
    constructor
    · rintro ⟨⟨⟨⟨rfl, rfl⟩, rfl⟩, rfl⟩, rfl⟩; rfl
    · intro h; injection h with h1 h2 h3 h4 h5; exact ⟨⟨⟨⟨h4, h1⟩, h2⟩, h3⟩, h5⟩
theorem same1_iff {k n : Int} {s : ByteArray} {a : VL} {k' n' : Int} {s' : ByteArray} {a' : VL} : same1 k n s a k' n' s' a' = true ↔ k = k' ∧ n = n' ∧ s = s' ∧ a = a' := by
  unfold same1
  rw [Bool.and_eq_true, Bool.and_eq_true, Bool.and_eq_true, sameL_iff, decide_eq_true_eq, decide_eq_true_eq, decide_eq_true_eq]
  constructor
  · rintro ⟨⟨⟨rfl, rfl⟩, rfl⟩, rfl⟩; exact ⟨rfl, rfl, rfl, rfl⟩
  · rintro ⟨rfl, rfl, rfl, rfl⟩; exact ⟨⟨⟨rfl, rfl⟩, rfl⟩, rfl⟩
theorem sameL_len : ∀ a b : VL, a.len ≠ b.len → sameL a b = false
  | a, b, h => by
    cases hq : sameL a b with
    | false => rfl
    | true => rw [(sameL_iff a b).1 hq] at h; exact absurd rfl h
theorem sameL_drop {a b : VL} {i : Nat} {k n : Int} {s : ByteArray} {x : VL} {k' n' : Int} {s' : ByteArray} {x' : VL} (ha : a.drop i = .cons k n s x (a.drop (i + 1))) (hb : b.drop i = .cons k' n' s' x' (b.drop (i + 1))) :
    sameL (a.drop i) (b.drop i) = (same1 k n s x k' n' s' x' && sameL (a.drop (i + 1)) (b.drop (i + 1))) := by rw [ha, hb]; rfl
end Go.Proofs.YtoemnccklakkeaaDoor
