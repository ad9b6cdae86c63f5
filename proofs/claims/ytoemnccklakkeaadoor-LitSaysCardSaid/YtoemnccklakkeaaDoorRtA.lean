/-
  The reference's Quoted: the walk.
-/
import Derived.Test.YtoemnccklakkeaaDoorTxT
namespace Go.Proofs.YtoemnccklakkeaaDoor
open Go.RowKit Go.Lib
set_option linter.unusedVariables false

theorem escL_snoc (l : List UInt8) (c : UInt8) : escL (l ++ [c]) = escL l ++ (if c = 34 ∨ c = 92 then [92, c] else [c]) := by
  induction l with
  | nil => rw [List.nil_append, escL, escL]; rfl
  | cons x r ih => rw [List.cons_append, escL, escL, ih]; split <;> rfl
theorem ext_one (s : ByteArray) (i : Nat) (h : i < s.size) : s.extract i (i + 1) = ⟨#[s[i]]⟩ := by
  have : (s.extract i (i + 1)).data.toList = [s[i]] := by
    rw [ByteArray.data_extract, Array.toList_extract, List.extract_eq_take_drop, show i + 1 - i = 1 by omega, List.drop_eq_getElem_cons (by rw [Array.length_toList]; exact h), List.take_succ_cons, List.take_zero]
    rfl
  apply ByteArray.ext
  rw [← Array.toArray_toList (xs := (s.extract i (i + 1)).data), this]

set_option maxHeartbeats 2000000 in
theorem quoted_c (s : ByteArray) (w : World) (hs : s.size ≤ 1000000) :
    Calls Tryd.prog 75 #[.string s] w fun e w' => e = .returned (.string ⟨(quoL s.data.toList).toArray⟩) ∧ w = w' := by
  go_enter Tryd.func75, Tryd.ntmps75
  go_wp2_with fail
  go_loopg [3, 4] s.size (fun kk v3 v4 wr => ∃ (X : ByteArray) (i : Nat), v3 = .string X ∧ v4 = .int .i64 i ∧ i + kk = s.size ∧ Hid (X.data.toList = 34 :: escL (s.data.toList.take i)) ∧ w = wr)
  case atStart => exact ⟨⟨#[34]⟩, 0, rfl, rfl, by omega, rfl, rfl⟩
  case round =>
    obtain ⟨X, i, rfl, rfl, hik, hX, rfl⟩ := hrel
    have hXz : X.size = 1 + (escL (s.data.toList.take i)).length := by
      have h1 : X.size = X.data.toList.length := by rw [Array.length_toList]; rfl
      rw [h1, hX.out, List.length_cons]; omega
    have hel := (escL_len (s.data.toList.take i)).2
    have htl : (s.data.toList.take i).length ≤ i := by rw [List.length_take]; omega
    have hXb : X.size ≤ 3000000 := by omega
    by_cases hi : i < s.size
    · obtain ⟨g, rfl⟩ : ∃ g, gk = g + 1 := ⟨gk - 1, by omega⟩
      have hts := Lib.hid (take_snoc s i hi)
      have hx := ext_one s i hi
      clear hXz hel htl
      by_cases c34 : s[i] = 34
      · have c1 : (((s[i]'hi).toNat : Int) == 34) = true := by rw [c34]; rfl
        have HN := Lib.hid (show (X ++ ⟨#[92]⟩ ++ ⟨#[s[i]]⟩ : ByteArray).data.toList = 34 :: escL (s.data.toList.take (i + 1)) by rw [hts.out, escL_snoc, if_pos (.inl c34)]; simp [hX.out])
        clear c34
        go_wp2_with fail
        go_roundg g
        case measure => omega
        case rel => exact ⟨_, i + 1, rfl, by go_num, by omega, HN.out, rfl⟩
      · by_cases c92 : s[i] = 92
        · have c1 : (((s[i]'hi).toNat : Int) == 34) = false := by rw [c92]; rfl
          have c2 : (((s[i]'hi).toNat : Int) == 92) = true := by rw [c92]; rfl
          have HN := Lib.hid (show (X ++ ⟨#[92]⟩ ++ ⟨#[s[i]]⟩ : ByteArray).data.toList = 34 :: escL (s.data.toList.take (i + 1)) by rw [hts.out, escL_snoc, if_pos (.inr c92)]; simp [hX.out])
          clear c34 c92
          go_wp2_with fail
          go_roundg g
          case measure => omega
          case rel => exact ⟨_, i + 1, rfl, by go_num, by omega, HN.out, rfl⟩
        · have c1 := (ne_byte (x := s[i]) 34 34 rfl c34).1
          have c2 := (ne_byte (x := s[i]) 92 92 rfl c92).1
          have HN := Lib.hid (show (X ++ ⟨#[s[i]]⟩ : ByteArray).data.toList = 34 :: escL (s.data.toList.take (i + 1)) by
            rw [hts.out, escL_snoc, if_neg (by rintro (h | h); exact c34 h; exact c92 h)]; simp [hX.out])
          clear c34 c92
          go_wp2_with fail
          go_roundg g
          case measure => omega
          case rel => exact ⟨_, i + 1, rfl, by go_num, by omega, HN.out, rfl⟩
    · obtain rfl : i = s.size := by omega
      have HN := Lib.hid (show (X ++ ⟨#[34]⟩ : ByteArray) = ⟨(quoL s.data.toList).toArray⟩ by
        apply ByteArray.ext
        have h1 := hX.out
        rw [List.take_of_length_le (by rw [Array.length_toList]; exact Nat.le_refl _)] at h1
        have h2 : (X ++ ⟨#[34]⟩ : ByteArray).data.toList = quoL s.data.toList := by simp [h1, quoL]
        rw [← h2])
      clear hXz hel htl
      go_wp2_with fail
      go_ret
      exact ⟨ret_str HN.out, rfl⟩
end Go.Proofs.YtoemnccklakkeaaDoor
