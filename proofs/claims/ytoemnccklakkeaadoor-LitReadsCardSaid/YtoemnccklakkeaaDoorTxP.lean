/-
  The text of a value, plain; replacing one byte is a change byte by byte.
-/
import Derived.Test.YtoemnccklakkeaaDoorNbP
import Derived.Lib.ReplaceLaws
import Derived.Lib.Join
namespace Go.Proofs.YtoemnccklakkeaaDoor
open Go.RowKit Go.Lib
set_option linter.unusedVariables false

/-- Each byte c as another text. -/
def repL (c : UInt8) (new : List UInt8) : List UInt8 → List UInt8
  | [] => []
  | x :: r => if x = c then new ++ repL c new r else x :: repL c new r
theorem replaceK_one (c : UInt8) (new : List UInt8) : ∀ l : List UInt8, replaceK [c] new (count l [c]) l = repL c new l
  | [] => by rw [show count [] [c] = 0 from by rw [count_one]; rfl]; rfl
  | x :: r => by
    by_cases h : x = c
    · subst h
      have hi : index (x :: r) [x] = ((0 : Nat) : Int) := by rw [index_one]; simp [indexByte]
      rw [count_cons_eq, Nat.add_comm, replaceK_hit _ _ _ _ 0 hi]
      simp only [List.take_zero, List.nil_append, Nat.zero_add, List.length_singleton, List.drop_succ_cons, List.drop_zero]
      rw [replaceK_one x new r, repL, if_pos rfl]
    · rw [count_cons_ne _ _ _ h, repL, if_neg h, ← replaceK_one c new r]
      cases hk : count r [c] with
      | zero => rfl
      | succ k =>
        obtain ⟨i, hi⟩ := index_of_count (s := r) (old := [c]) (by omega)
        have hi2 : index (x :: r) [c] = ((i + 1 : Nat) : Int) := by
          rw [index_one] at hi ⊢
          rw [indexByte, if_neg (by simpa using h), hi]
          split
          · rename_i e; have := beq_iff_eq.1 e; omega
          · rw [Int.natCast_add]; rfl
        rw [replaceK_hit _ _ _ _ i hi, replaceK_hit _ _ _ _ (i + 1) hi2]
        simp only [List.take_succ_cons, List.cons_append, List.length_singleton, List.drop_succ_cons, Nat.add_right_comm i 1 1]
theorem replaceAll_one (c : UInt8) (new l : List UInt8) (h : new ≠ [c]) : replaceAll l [c] new = repL c new l := by
  unfold replaceAll replace replaceNum
  rw [if_neg (by simpa using fun e => h e.symm), if_pos (.inl (by decide)), replaceK_one]
theorem repL_app (c : UInt8) (new : List UInt8) : ∀ a b : List UInt8, repL c new (a ++ b) = repL c new a ++ repL c new b
  | [], b => rfl
  | x :: r, b => by
    rw [List.cons_append, repL, repL, repL_app c new r b]
    split
    · rw [List.append_assoc]
    · rfl

/-- A text with its signs. -/
def escL : List UInt8 → List UInt8
  | [] => []
  | x :: r => if x = 34 ∨ x = 92 then 92 :: x :: escL r else x :: escL r
theorem esc_rep : ∀ l : List UInt8, repL 34 [92, 34] (repL 92 [92, 92] l) = escL l
  | [] => rfl
  | x :: r => by
    rw [escL, repL]
    by_cases h92 : x = 92
    · subst h92
      rw [if_pos rfl, if_pos (.inr rfl), repL_app, esc_rep r]; rfl
    · rw [if_neg h92, repL, esc_rep r]
      by_cases h34 : x = 34
      · subst h34; rw [if_pos rfl, if_pos (.inl rfl)]; rfl
      · rw [if_neg h34, if_neg (by rintro (e | e); exact h34 e; exact h92 e)]
theorem escL_len : ∀ l : List UInt8, l.length ≤ (escL l).length ∧ (escL l).length ≤ 2 * l.length
  | [] => ⟨Nat.le_refl _, Nat.le_refl _⟩
  | x :: r => by
    have := escL_len r
    rw [escL]
    split <;> simp only [List.length_cons] <;> omega
theorem rep92_len (l : List UInt8) : (repL 92 [92, 92] l).length ≤ 2 * l.length := by
  induction l with
  | nil => exact Nat.le_refl _
  | cons x r ih => rw [repL]; split <;> simp only [List.length_append, List.length_cons, List.length_nil] <;> omega
def quoL (l : List UInt8) : List UInt8 := 34 :: (escL l ++ [34])

/-- The text of one value, the texts of its items given. -/
def txt1 (k n : Int) (s : ByteArray) (l : List (List UInt8)) : List UInt8 :=
  if k = 0 then itoa n else if k = 1 then 35 :: itoa n else if k = 2 then quoL s.data.toList else if k = 3 then (nmS n).data.toList else 123 :: (join l [44, 32] ++ [125])
/-- The texts of values. -/
def txtL : VL → List (List UInt8)
  | .nil => []
  | .cons k n s sub rest => txt1 k n s (txtL sub) :: txtL rest
theorem txtL_app : ∀ a b : VL, txtL (a.app b) = txtL a ++ txtL b
  | .nil, b => rfl
  | .cons k n s sub r, b => by rw [VL.app, txtL, txtL, txtL_app r b]; rfl
theorem txtL_len : ∀ a : VL, (txtL a).length = a.len
  | .nil => rfl
  | .cons k n s sub r => by rw [txtL, List.length_cons, txtL_len r, VL.len]

/-- How much values take. -/
def cost : VL → Int
  | .nil => 0
  | .cons k n s sub rest => 1 + mOf k s + cost sub + cost rest
theorem cost_ge : ∀ l : VL, 0 ≤ cost l
  | .nil => Int.le_refl _
  | .cons k n s sub rest => by have := cost_ge sub; have := cost_ge rest; have := mOf_ge k s; rw [cost]; omega
theorem walkL_cost : ∀ (l : VL) (deep left : Int), 0 ≤ left → (walkL l deep left).1 = 0 → cost l ≤ left ∧ (walkL l deep left).2 = left - cost l
  | .nil, deep, left, h, _ => ⟨h, by rw [cost]; unfold walkL; simp only; omega⟩
  | .cons k n s sub rest, deep, left, h, hw => by
    have hm := mOf_ge k s
    rw [walkL_cons] at hw ⊢
    by_cases h1 : (walk1 k n s sub deep left).1 = 0
    · rw [if_pos h1] at hw ⊢
      have hx : 1 + mOf k s + cost sub ≤ left ∧ (walk1 k n s sub deep left).2 = left - (1 + mOf k s + cost sub) := by
        unfold walk1 at h1 ⊢
        by_cases g1 : 40 < deep
        · rw [if_pos g1] at h1; cases h1
        rw [if_neg g1] at h1 ⊢
        by_cases g2 : left ≤ mOf k s
        · rw [if_pos g2] at h1; cases h1
        rw [if_neg g2] at h1 ⊢
        by_cases g3 : ownE k n s sub.len = 0
        · rw [if_pos g3] at h1 ⊢
          have := walkL_cost sub (deep + 1) (left - (1 + mOf k s)) (by omega) h1
          omega
        · rw [if_neg g3] at h1; exact absurd h1 g3
      have := walkL_cost rest deep _ (by omega) hw
      rw [cost]; omega
    · rw [if_neg h1] at hw; exact absurd hw h1
theorem walk1_cost (k n : Int) (s : ByteArray) (sub : VL) (deep left : Int) (h : 0 ≤ left) (hw : (walk1 k n s sub deep left).1 = 0) : 1 + mOf k s + cost sub ≤ left := by
  have := walkL_cost (.cons k n s sub .nil) deep left h (by rw [walkL_cons, if_pos hw]; rfl)
  rw [cost, cost] at this; omega
/-- Values that are right, and what follows of each. -/
def OkL : VL → Int → Prop
  | .nil, _ => True
  | .cons k n s sub rest, d => ownE k n s sub.len = 0 ∧ d ≤ 40 ∧ OkL sub (d + 1) ∧ OkL rest d
theorem walkL_ok : ∀ (l : VL) (deep left : Int), (walkL l deep left).1 = 0 → OkL l deep
  | .nil, _, _, _ => trivial
  | .cons k n s sub rest, deep, left, hw => by
    rw [walkL_cons] at hw
    by_cases h1 : (walk1 k n s sub deep left).1 = 0
    · rw [if_pos h1] at hw
      have hr := walkL_ok rest deep _ hw
      unfold walk1 at h1
      by_cases g1 : 40 < deep
      · rw [if_pos g1] at h1; cases h1
      rw [if_neg g1] at h1
      by_cases g2 : left ≤ mOf k s
      · rw [if_pos g2] at h1; cases h1
      rw [if_neg g2] at h1
      by_cases g3 : ownE k n s sub.len = 0
      · rw [if_pos g3] at h1
        exact ⟨g3, by omega, walkL_ok sub (deep + 1) _ h1, hr⟩
      · rw [if_neg g3] at h1; exact absurd h1 g3
    · rw [if_neg h1] at hw; exact absurd hw h1
theorem OkL_one {k n : Int} {s : ByteArray} {sub : VL} {d : Int} (h : OkL (val1 k n s sub) d) : ownE k n s sub.len = 0 ∧ OkL sub (d + 1) := ⟨h.1, h.2.2.1⟩
theorem walk1_ok {k n : Int} {s : ByteArray} {sub : VL} {deep left : Int} (hw : (walk1 k n s sub deep left).1 = 0) : OkL (val1 k n s sub) deep :=
  walkL_ok (val1 k n s sub) deep left (by unfold val1; rw [walkL_cons, if_pos hw]; rfl)

/-- What own says where all is right. -/
theorem own_ok {k n : Int} {s : ByteArray} {len : Nat} (h : ownE k n s len = 0) :
    (k = 0 ∧ s.data.toList = [] ∧ len = 0) ∨ (k = 1 ∧ -2147483648 ≤ n ∧ n ≤ 2147483647 ∧ s.data.toList = [] ∧ len = 0) ∨ (k = 2 ∧ n = 0 ∧ len = 0 ∧ prB s.data.toList = true) ∨ (k = 3 ∧ 0 ≤ n ∧ n ≤ 14 ∧ s.data.toList = [] ∧ len = 0) ∨ (k = 4 ∧ n = 0 ∧ s.data.toList = []) := by
  unfold ownE at h
  by_cases h1 : k < 0 ∨ 4 < k
  · rw [if_pos h1] at h; cases h
  rw [if_neg h1] at h
  by_cases h2 : k = 1 ∧ (n < -2147483648 ∨ 2147483647 < n)
  · rw [if_pos h2] at h; cases h
  rw [if_neg h2] at h
  by_cases h3 : k = 3 ∧ (n < 0 ∨ 14 < n)
  · rw [if_pos h3] at h; cases h
  rw [if_neg h3] at h
  by_cases h4 : (k ≠ 2 ∧ s.data.toList ≠ []) ∨ (k ≠ 4 ∧ 0 < len) ∨ ((k = 2 ∨ k = 4) ∧ n ≠ 0)
  · rw [if_pos h4] at h; cases h
  rw [if_neg h4] at h
  by_cases h5 : prB s.data.toList = false
  · rw [if_pos h5] at h; cases h
  have hs : k ≠ 2 → s.data.toList = [] := fun hk => by
    by_cases e : s.data.toList = []
    · exact e
    · exact absurd (.inl ⟨hk, e⟩) h4
  have hl : k ≠ 4 → len = 0 := fun hk => by
    by_cases e : 0 < len
    · exact absurd (.inr (.inl ⟨hk, e⟩)) h4
    · omega
  have hn : (k = 2 ∨ k = 4) → n = 0 := fun hk => by
    by_cases e : n = 0
    · exact e
    · exact absurd (.inr (.inr ⟨hk, e⟩)) h4
  have hk : k = 0 ∨ k = 1 ∨ k = 2 ∨ k = 3 ∨ k = 4 := by omega
  rcases hk with rfl | rfl | rfl | rfl | rfl
  · exact .inl ⟨rfl, hs (by decide), hl (by decide)⟩
  · exact .inr (.inl ⟨rfl, by omega, by omega, hs (by decide), hl (by decide)⟩)
  · exact .inr (.inr (.inl ⟨rfl, hn (.inl rfl), hl (by decide), by simpa using h5⟩))
  · exact .inr (.inr (.inr (.inl ⟨rfl, by omega, by omega, hs (by decide), hl (by decide)⟩)))
  · exact .inr (.inr (.inr (.inr ⟨rfl, hn (.inr rfl), hs (by decide)⟩)))

theorem nmS_len (n : Int) (h0 : 0 ≤ n) (h1 : n ≤ 14) : (nmS n).data.toList.length ≤ 20 := by
  obtain ⟨j, rfl⟩ : ∃ j : Nat, n = j := ⟨n.toNat, by omega⟩
  have hj : j < 15 := by omega
  rw [nmS_at j hj]
  have : ∀ j : Fin 15, (nmL.getD j.val ByteArray.empty).data.toList.length ≤ 20 := by decide +kernel
  exact this ⟨j, hj⟩
theorem itoa_len {v : Int} (h0 : -9223372036854775808 ≤ v) (h1 : v ≤ 9223372036854775807) : (itoa v).length ≤ 20 := by
  by_cases hv : v < 0
  · obtain ⟨u, rfl⟩ : ∃ u : Nat, v = -(u : Int) := ⟨v.natAbs, by omega⟩
    rw [itoa_neg u (by omega), List.length_cons]
    have := dec_len (show u ≤ 9223372036854775808 by omega); omega
  · obtain ⟨u, rfl⟩ : ∃ u : Nat, v = (u : Int) := ⟨v.toNat, by omega⟩
    rw [itoa_nonneg]
    have := dec_len (show u ≤ 9223372036854775808 by omega); omega
/-- All numbers are of 64 bits. -/
def VL.i64 : VL → Prop
  | .nil => True
  | .cons _ n _ sub rest => -9223372036854775808 ≤ n ∧ n ≤ 9223372036854775807 ∧ sub.i64 ∧ rest.i64
theorem join_len (l : List (List UInt8)) : (join l [44, 32]).length ≤ (l.map fun x => x.length + 2).sum := by
  cases l with
  | nil => exact Nat.le_refl _
  | cons x r =>
    rw [join_length]
    have : ∀ l : List (List UInt8), (l.map fun x => x.length + 2).sum = lens l + 2 * l.length := by
      intro l
      induction l with
      | nil => rfl
      | cons a t ih => simp only [List.map_cons, List.sum_cons, ih, lens, List.length_cons]; omega
    rw [this]
    simp only [List.length_cons, List.length_nil]; omega
theorem txtL_len_le : ∀ (l : VL) (d : Int), OkL l d → l.i64 → ((((txtL l).map fun x => x.length + 2).sum : Nat) : Int) ≤ 24 * cost l
  | .nil, _, _, _ => Int.le_refl _
  | .cons k n s sub rest, d, h, h64 => by
    have ihs := txtL_len_le sub (d + 1) h.2.2.1 h64.2.2.1
    have ihr := txtL_len_le rest d h.2.2.2 h64.2.2.2
    have hc := cost_ge sub
    have hit := itoa_len h64.1 h64.2.1
    have hj := join_len (txtL sub)
    have he := escL_len s.data.toList
    have hsz : s.data.toList.length = s.size := by rw [Array.length_toList]; rfl
    rw [txtL, List.map_cons, List.sum_cons, cost]
    have h1 : ((txt1 k n s (txtL sub)).length : Int) ≤ 22 + 24 * (mOf k s + cost sub) := by
      rcases own_ok h.1 with ⟨rfl, _⟩ | ⟨rfl, _⟩ | ⟨rfl, _⟩ | ⟨rfl, h0, h1, _⟩ | ⟨rfl, _⟩
      · have : mOf 0 s = 0 := rfl
        show ((itoa n).length : Int) ≤ _
        omega
      · have : mOf 1 s = 0 := rfl
        show ((35 :: itoa n).length : Int) ≤ _
        rw [List.length_cons]; omega
      · have : mOf 2 s = s.size := rfl
        show ((quoL s.data.toList).length : Int) ≤ _
        unfold quoL
        rw [List.length_cons, List.length_append, List.length_singleton]; omega
      · have : mOf 3 s = 0 := rfl
        have := nmS_len n h0 h1
        show (((nmS n).data.toList).length : Int) ≤ _
        omega
      · have : mOf 4 s = 0 := rfl
        show ((123 :: (join (txtL sub) [44, 32] ++ [125])).length : Int) ≤ _
        rw [List.length_cons, List.length_append, List.length_singleton]; omega
    omega
end Go.Proofs.YtoemnccklakkeaaDoor
