/-
  What lit's reader reads, as a plain function; its places lie within the text.
-/
import Derived.Test.YtoemnccklakkeaaDoorRdG
namespace Go.Proofs.YtoemnccklakkeaaDoor
open Go.RowKit Go.Lib

def val1 (k n : Int) (s : ByteArray) (sub : VL) : VL := .cons k n s sub .nil

mutual
/-- A value at a place: the place behind it, whether all is right, the value. -/
def valSp (s : ByteArray) : Nat → Nat → Nat × Bool × VL
  | 0, i => (i, false, .nil)
  | f + 1, i =>
    if pk s i = 35 then ((numSp s (-2147483648) 2147483647 (i + 1)).1, (numSp s (-2147483648) 2147483647 (i + 1)).2.1, val1 1 (numSp s (-2147483648) 2147483647 (i + 1)).2.2 ByteArray.empty .nil)
    else if pk s i = 45 ∨ digB (pk s i) = true then ((numSp s (-9223372036854775808) 9223372036854775807 i).1, (numSp s (-9223372036854775808) 9223372036854775807 i).2.1, val1 0 (numSp s (-9223372036854775808) 9223372036854775807 i).2.2 ByteArray.empty .nil)
    else if pk s i = 34 then ((strSp s i).1, (strSp s i).2.1, val1 2 0 ⟨(strSp s i).2.2.toArray⟩ .nil)
    else if pk s i = 123 then
      if pk s (i + 1) = 125 then (i + 2, true, val1 4 0 ByteArray.empty .nil)
      else ((lstSp s f (i + 1) .nil).1, (lstSp s f (i + 1) .nil).2.1, val1 4 0 ByteArray.empty (lstSp s f (i + 1) .nil).2.2)
    else ((codeSp s i).1, (codeSp s i).2.1, val1 3 (codeSp s i).2.2 ByteArray.empty .nil)
/-- The items of a list, from one of them on. -/
def lstSp (s : ByteArray) : Nat → Nat → VL → Nat × Bool × VL
  | 0, i, acc => (i, false, acc)
  | f + 1, i, acc =>
    if (valSp s f i).2.1 = false then ((valSp s f i).1, false, acc)
    else if pk s (valSp s f i).1 = 44 then
      if pk s ((valSp s f i).1 + 1) = 32 then lstSp s f ((valSp s f i).1 + 2) (acc.app (valSp s f i).2.2)
      else ((valSp s f i).1 + 1, false, acc.app (valSp s f i).2.2)
    else if pk s (valSp s f i).1 = 125 then ((valSp s f i).1 + 1, true, acc.app (valSp s f i).2.2)
    else ((valSp s f i).1, false, acc.app (valSp s f i).2.2)
end

theorem numLoop_place (s : ByteArray) (low high : Int) (neg : Bool) : ∀ (f i : Nat) (n : Int), i ≤ s.size → i ≤ (numLoop s low high neg f i n).1 ∧ (numLoop s low high neg f i n).1 ≤ s.size
  | 0, i, n, h => ⟨Nat.le_refl _, h⟩
  | f + 1, i, n, h => by
    cases hd : digB (pk s i) with
    | false => rw [numLoop_end _ _ _ _ _ _ _ hd]; exact ⟨Nat.le_refl _, h⟩
    | true =>
      have hi := digB_in hd
      by_cases hg : n < -922337203685477580 ∨ 10 * n < -9223372036854775808 + ((pk s i).toNat - 48 : Int) ∨ (neg = true ∧ 10 * n - ((pk s i).toNat - 48 : Int) < low) ∨ (neg = false ∧ 10 * n - ((pk s i).toNat - 48 : Int) < -high)
      · rw [numLoop_bad _ _ _ _ _ _ _ hd hg]; exact ⟨Nat.le_refl _, h⟩
      · rw [numLoop_step _ _ _ _ _ _ _ hd hg]
        have := numLoop_place s low high neg f (i + 1) (10 * n - ((pk s i).toNat - 48 : Int)) (by omega)
        omega

theorem numSp_place (s : ByteArray) (low high : Int) (i : Nat) (h : i ≤ s.size) : i ≤ (numSp s low high i).1 ∧ (numSp s low high i).1 ≤ s.size := by
  unfold numSp
  split
  · rename_i h45
    have hi : i < s.size := pk_lt (by rw [h45]; decide)
    split
    · simp only; omega
    · have := numLoop_place s low high true (s.size + 1) (i + 1) 0 (by omega)
      omega
  · split
    · rename_i h48
      have hi : i < s.size := pk_lt (by rw [h48]; decide)
      simp only; omega
    · split
      · exact ⟨Nat.le_refl _, h⟩
      · exact numLoop_place s low high false (s.size + 1) i 0 h

theorem strLoop_place (s : ByteArray) : ∀ (f i : Nat) (l : List UInt8), i ≤ s.size → i ≤ (strLoop s f i l).1 ∧ (strLoop s f i l).1 ≤ s.size ∧ (0 < f → s.size < i + f → (strLoop s f i l).2.1 = true → pk s (strLoop s f i l).1 = 34)
  | 0, i, l, h => ⟨Nat.le_refl _, h, fun h0 => absurd h0 (by omega)⟩
  | f + 1, i, l, h => by
    by_cases h34 : pk s i = 34
    · rw [strLoop_end _ _ _ _ h34]; exact ⟨Nat.le_refl _, h, fun _ _ _ => h34⟩
    by_cases h92 : pk s i = 92
    · have hi : i < s.size := pk_lt (by rw [h92]; decide)
      by_cases hy : pk s (i + 1) = 34 ∨ pk s (i + 1) = 92
      · rw [strLoop_esc _ _ _ _ h92 hy]
        have hi2 : i + 1 < s.size := pk_lt (by rcases hy with e | e <;> rw [e] <;> decide)
        have := strLoop_place s f (i + 2) (l ++ [pk s (i + 1)]) (by omega)
        exact ⟨by omega, this.2.1, fun _ hb hc => this.2.2 (by omega) (by omega) hc⟩
      · rw [strLoop_esc_bad _ _ _ _ h92 hy]; exact ⟨by simp, by simp only; omega, fun _ _ hc => by cases hc⟩
    cases hp : prC (pk s i) with
    | false => rw [strLoop_bad _ _ _ _ h34 h92 hp]; exact ⟨Nat.le_refl _, h, fun _ _ hc => by cases hc⟩
    | true =>
      have hi : i < s.size := pk_lt (fun e => by rw [e] at hp; exact absurd hp (by decide))
      rw [strLoop_next _ _ _ _ h34 h92 hp]
      have := strLoop_place s f (i + 1) (l ++ [pk s i]) (by omega)
      exact ⟨by omega, this.2.1, fun _ hb hc => this.2.2 (by omega) (by omega) hc⟩

theorem strSp_place (s : ByteArray) (i : Nat) (h : i < s.size) : i ≤ (strSp s i).1 ∧ (strSp s i).1 ≤ s.size := by
  have := strLoop_place s (s.size + 1) (i + 1) [] (by omega)
  unfold strSp
  simp only
  split
  · rename_i hok
    have h34 := this.2.2 (by omega) (by omega) hok
    have := pk_lt (s := s) (i := (strLoop s (s.size + 1) (i + 1) []).1) (by rw [h34]; decide)
    omega
  · omega

theorem cpl_room (s : ByteArray) (i : Nat) (n : ByteArray) : ∀ (f k : Nat), i + k ≤ s.size → i + cpl s i n f k ≤ s.size
  | 0, k, h => h
  | f + 1, k, h => by
    unfold cpl
    split
    · rename_i hc
      exact cpl_room s i n f (k + 1) (by omega)
    · exact h

theorem codeTo_room (s : ByteArray) (i : Nat) (h : i ≤ s.size) : ∀ c, (i : Int) + (codeTo s i c).2.1 ≤ s.size ∧ (i : Int) + (codeTo s i c).2.2 ≤ s.size
  | 0 => by simp [codeTo]; omega
  | c + 1 => by
    obtain ⟨h1, h2⟩ := codeTo_room s i h c
    have h3 := cpl_room s i (nmL.getD c ByteArray.empty) ((nmL.getD c ByteArray.empty).size + 1) 0 (by omega)
    have h4 : i + cp s i (nmL.getD c ByteArray.empty) ≤ s.size := h3
    rw [codeTo, codeStep]
    split <;> simp only <;> omega

theorem codeSp_place (s : ByteArray) (i : Nat) (h : i ≤ s.size) : i ≤ (codeSp s i).1 ∧ (codeSp s i).1 ≤ s.size := by
  have h1 := codeTo_room s i h 15
  have h2 := codeTo_range s i 15 (Nat.le_refl _)
  unfold codeSp
  simp only
  split
  · simp only; omega
  · simp only; omega

mutual
theorem valSp_place (s : ByteArray) : ∀ (f i : Nat), i ≤ s.size → i ≤ (valSp s f i).1 ∧ (valSp s f i).1 ≤ s.size
  | 0, i, h => by rw [valSp]; exact ⟨Nat.le_refl _, h⟩
  | f + 1, i, h => by
    rw [valSp]
    split
    · rename_i e
      have hi : i < s.size := pk_lt (by rw [e]; decide)
      have := numSp_place s (-2147483648) 2147483647 (i + 1) (by omega)
      simp only; omega
    · split
      · exact numSp_place s _ _ i h
      · split
        · rename_i e
          exact strSp_place s i (pk_lt (by rw [e]; decide))
        · split
          · rename_i e
            have hi : i < s.size := pk_lt (by rw [e]; decide)
            split
            · rename_i e2
              have hi2 : i + 1 < s.size := pk_lt (by rw [e2]; decide)
              simp only; omega
            · have := lstSp_place s f (i + 1) .nil (by omega)
              simp only; omega
          · exact codeSp_place s i h
theorem lstSp_place (s : ByteArray) : ∀ (f i : Nat) (acc : VL), i ≤ s.size → i ≤ (lstSp s f i acc).1 ∧ (lstSp s f i acc).1 ≤ s.size
  | 0, i, acc, h => by rw [lstSp]; exact ⟨Nat.le_refl _, h⟩
  | f + 1, i, acc, h => by
    have hv := valSp_place s f i h
    rw [lstSp]
    split
    · exact hv
    · split
      · rename_i e
        have hi : (valSp s f i).1 < s.size := pk_lt (by rw [e]; decide)
        split
        · rename_i e2
          have hi2 : (valSp s f i).1 + 1 < s.size := pk_lt (by rw [e2]; decide)
          have := lstSp_place s f ((valSp s f i).1 + 2) (acc.app (valSp s f i).2.2) (by omega)
          omega
        · simp only; omega
      · split
        · rename_i e
          have hi : (valSp s f i).1 < s.size := pk_lt (by rw [e]; decide)
          simp only; omega
        · exact hv
end

/-- One value comes out. -/
theorem valSp_one (s : ByteArray) (f i : Nat) (h : (valSp s f i).2.1 = true) : ∃ k n t sub, (valSp s f i).2.2 = val1 k n t sub := by
  cases f with
  | zero => rw [valSp] at h; cases h
  | succ f =>
    rw [valSp] at h ⊢
    split
    · exact ⟨_, _, _, _, rfl⟩
    · split
      · exact ⟨_, _, _, _, rfl⟩
      · split
        · exact ⟨_, _, _, _, rfl⟩
        · split
          · split <;> exact ⟨_, _, _, _, rfl⟩
          · exact ⟨_, _, _, _, rfl⟩
end Go.Proofs.YtoemnccklakkeaaDoor
