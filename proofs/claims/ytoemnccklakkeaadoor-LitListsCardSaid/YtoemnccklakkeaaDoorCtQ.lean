/-
  LitLists, plain: items that are right, and that fit together, are right together; the text of a list, item by item.
-/
import Derived.Test.YtoemnccklakkeaaDoorFtB
import Derived.Test.YtoemnccklakkeaaDoorCtP
namespace Go.Proofs.YtoemnccklakkeaaDoor
open Go.RowKit Go.Lib
set_option linter.unusedVariables false

/-- Each value is right by itself, whatever its depth. -/
def OwnL : VL → Prop
  | .nil => True
  | .cons k n s sub rest => ownE k n s sub.len = 0 ∧ OwnL sub ∧ OwnL rest
theorem ownL_of : ∀ (l : VL) (d : Int), OkL l d → OwnL l
  | .nil, _, _ => trivial
  | .cons k n s sub rest, d, h => ⟨h.1, ownL_of sub (d + 1) h.2.2.1, ownL_of rest d h.2.2.2⟩
theorem ownL_rights : ∀ l : VL, rightsL l = true → OwnL l
  | .nil, _ => trivial
  | .cons k n s sub rest, h => by
    rw [rightsL, Bool.and_eq_true] at h
    have h1 := walk1_ok (of_decide_eq_true h.1)
    exact ⟨(OkL_one h1).1, ownL_of sub _ (OkL_one h1).2, ownL_rights rest h.2⟩
theorem own_leaf {k n : Int} {s : ByteArray} {sub : VL} (h : ownE k n s sub.len = 0) (hk : k ≠ 4) : sub = .nil := by
  have h0 : sub.len = 0 := by
    rcases own_ok h with ⟨_, _, e⟩ | ⟨_, _, _, _, e⟩ | ⟨_, _, e, _⟩ | ⟨_, _, _, _, e⟩ | ⟨e, _⟩
    · exact e
    · exact e
    · exact e
    · exact e
    · exact absurd e hk
  cases sub with
  | nil => rfl
  | cons _ _ _ _ _ => exact absurd h0 (Nat.succ_ne_zero _)
theorem deepF_max : ∀ (l : VL) (a : Int), 0 ≤ a → deepF l a = max a (deepF l 0)
  | .nil, a, h => by rw [deepF, deepF]; omega
  | .cons k n s sub rest, a, h => by
    rw [deepF_cons, deepF_cons, deepF_max rest (max a (dp k sub)) (by omega), deepF_max rest (max 0 (dp k sub)) (by omega)]
    omega
theorem szF_cost : ∀ (l : VL) (a : Int), OwnL l → szF l a = a + cost l
  | .nil, a, _ => by rw [szF, cost]; omega
  | .cons k n s sub rest, a, h => by
    have h1 : sz1 k s sub = 1 + mOf k s + cost sub := by
      unfold sz1 mOf
      by_cases k2 : k = 2
      · have := own_leaf h.1 (by omega)
        subst this
        rw [if_pos k2, if_pos k2, cost]; omega
      · rw [if_neg k2, if_neg k2]
        by_cases k4 : k = 4
        · rw [if_pos k4, szF_cost sub 1 h.2.1]; omega
        · have := own_leaf h.1 k4
          subst this
          rw [if_neg k4, cost]; omega
    rw [szF_cons, szF_cost rest _ h.2.2, h1, cost]; omega
theorem walkL_conv : ∀ (l : VL) (d left : Int), OwnL l → cost l ≤ left → deepF l 0 + d ≤ 41 → (walkL l d left).1 = 0 ∧ (walkL l d left).2 = left - cost l
  | .nil, d, left, _, h, _ => ⟨rfl, by rw [cost]; unfold walkL; simp⟩
  | .cons k n s sub rest, d, left, ho, h, hd => by
    rw [deepF_cons, deepF_max rest _ (by omega)] at hd
    rw [cost] at h ⊢
    have hm := mOf_ge k s
    have hc1 := cost_ge sub
    have hc2 := cost_ge rest
    have hsub0 : 0 ≤ deepF sub 0 := (deepF_bound sub 0).1
    have hdp : 1 ≤ dp k sub := by unfold dp; split <;> omega
    have hdsub : deepF sub 0 + 1 = dp k sub := by
      unfold dp
      by_cases k4 : k = 4
      · rw [if_pos k4]
      · have := own_leaf ho.1 k4
        subst this
        rw [if_neg k4, deepF]
    have h1 : (walk1 k n s sub d left).1 = 0 ∧ (walk1 k n s sub d left).2 = left - (1 + mOf k s + cost sub) := by
      unfold walk1
      rw [if_neg (by omega), if_neg (by omega), if_pos ho.1]
      have := walkL_conv sub (d + 1) (left - (1 + mOf k s)) ho.2.1 (by omega) (by omega)
      exact ⟨this.1, by rw [this.2]; omega⟩
    rw [walkL_cons, if_pos h1.1, h1.2]
    have := walkL_conv rest d (left - (1 + mOf k s + cost sub)) ho.2.2 (by omega) (by omega)
    exact ⟨this.1, by rw [this.2]; omega⟩
/-- A list of right items that fits is right. -/
theorem fits_right {l : VL} (h : rightsL l = true) (hf : fitsV 4 ⟨#[]⟩ l = 0) : (walk1 4 0 ⟨#[]⟩ l 1 4096).1 = 0 := by
  have ho := ownL_rights l h
  unfold fitsV at hf
  by_cases h1 : 40 < dp 4 l
  · rw [if_pos h1] at hf; cases hf
  rw [if_neg h1] at hf
  by_cases h2 : 4096 < sz1 4 ⟨#[]⟩ l
  · rw [if_pos h2] at hf; cases hf
  have hd : dp 4 l = deepF l 0 + 1 := by unfold dp; rw [if_pos rfl]
  have hs : sz1 4 ⟨#[]⟩ l = 1 + cost l := by unfold sz1; rw [if_neg (by decide), if_pos rfl, szF_cost l 1 ho]
  have hm : mOf 4 ⟨#[]⟩ = 0 := rfl
  have hown : ownE 4 0 ⟨#[]⟩ l.len = 0 := by unfold ownE; simp [prB]
  unfold walk1
  rw [if_neg (by decide), if_neg (by rw [hm]; decide), if_pos hown, hm]
  exact (walkL_conv l 2 _ ho (by omega) (by omega)).1

theorem join_snoc (x sep : List UInt8) : ∀ (a : List (List UInt8)), a ≠ [] → join (a ++ [x]) sep = join a sep ++ sep ++ x
  | [], h => absurd rfl h
  | c :: t, _ => by
    rw [List.cons_append, join_cons, join_cons]
    simp [joinTail]
/-- The text of a list up to an item. -/
def accT (l : VL) (i : Nat) : List UInt8 := 123 :: join (txtL (l.take i)) [44, 32]
theorem accT_zero (l : VL) : accT l 0 = [123] := rfl
theorem accT_first {l : VL} {k n : Int} {s : ByteArray} {sub : VL} (h : l.drop 0 = .cons k n s sub (l.drop 1)) : accT l 1 = accT l 0 ++ txt1 k n s (txtL sub) := by
  unfold accT
  rw [VL.take_succ 0 l k n s sub h, VL.take]
  simp [VL.app, txtL, join_one, join_nil]
theorem accT_next {l : VL} {i : Nat} {k n : Int} {s : ByteArray} {sub : VL} (hi : 0 < i) (hl : i < l.len) (h : l.drop i = .cons k n s sub (l.drop (i + 1))) : accT l (i + 1) = accT l i ++ [44, 32] ++ txt1 k n s (txtL sub) := by
  unfold accT
  rw [VL.take_succ i l k n s sub h, txtL_app, txtL, txtL, join_snoc]
  · simp
  · intro e
    have h1 := congrArg List.length e
    rw [txtL_len] at h1
    have h2 := congrArg VL.len (VL.take_app_drop i l)
    rw [VL.len_app, VL.len_drop] at h2
    simp only [List.length_nil] at h1
    omega
theorem accT_end (l : VL) : accT l l.len ++ [125] = txt1 4 0 ⟨#[]⟩ (txtL l) := by
  unfold accT; rw [VL.take_len]; rfl
theorem join_grow (sep : List UInt8) : ∀ (a b : List (List UInt8)), (join a sep).length ≤ (join (a ++ b) sep).length
  | [], b => by rw [join_nil]; exact Nat.zero_le _
  | c :: t, b => by rw [List.cons_append, join_cons, join_cons]; simp [joinTail]
theorem accT_len (l : VL) (i : Nat) : (accT l i).length + 1 ≤ (txt1 4 0 ⟨#[]⟩ (txtL l)).length := by
  rw [← accT_end, List.length_append, List.length_singleton]
  unfold accT
  rw [VL.take_len]
  have h := join_grow [44, 32] (txtL (l.take i)) (txtL (l.drop i))
  rw [← txtL_app, VL.take_app_drop] at h
  simp only [List.length_cons]; omega
theorem rights_at {k n : Int} {s : ByteArray} {sub rest : VL} : ∀ (i : Nat) (l : VL), rightsL l = true → l.drop i = .cons k n s sub rest → rightB k n s sub = true
  | 0, .nil, _, h => by simp [VL.drop] at h
  | 0, .cons k' n' s' sub' r', hr, h => by
    rw [VL.drop] at h
    injection h with h1 h2 h3 h4 _
    subst h1; subst h2; subst h3; subst h4
    rw [rightsL, Bool.and_eq_true] at hr; exact hr.1
  | i + 1, .nil, _, h => by simp [VL.drop] at h
  | i + 1, .cons k' n' s' sub' r', hr, h => by
    rw [VL.drop] at h
    rw [rightsL, Bool.and_eq_true] at hr
    exact rights_at i r' hr.2 h
end Go.Proofs.YtoemnccklakkeaaDoor
