/-
  LitNames: the walk of the law.
-/
import Derived.Test.YtoemnccklakkeaaDoorNumR
namespace Go.Proofs.YtoemnccklakkeaaDoor
open Go.RowKit Go.Lib
set_option linter.unusedVariables false

theorem extract_one (s : ByteArray) (h : 0 < s.size) : s.data.toList = pk s 0 :: (s.extract 1 s.size).data.toList := by
  have h2 : (s.extract 1 s.size).data.toList = s.data.toList.drop 1 := by
    rw [ByteArray.data_extract, Array.toList_extract, List.extract_eq_take_drop, List.take_of_length_le]
    rw [List.length_drop, Array.length_toList]; exact Nat.le_refl _
  rw [h2]
  unfold pk
  cases hq : s.data.toList with
  | nil => have : s.size = 0 := by rw [ByteArray.size, ← Array.length_toList, hq]; rfl
           omega
  | cons a r => rfl

set_option maxHeartbeats 1000000 in
theorem number_r_nil (w : World) :
    Calls Tryd.prog 14 #[.string ⟨#[]⟩] w fun e w' => e = .returned (.tuple #[.int .i64 0, .bool false]) ∧ w = w' := by
  go_enter Tryd.func14, Tryd.ntmps14
  go_wp2_with fail
  go_returns
  exact ⟨rfl, rfl⟩

theorem number_r (s : ByteArray) (w : World) (hs : s.size ≤ 1000000000) :
    Calls Tryd.prog 14 #[.string s] w fun e w' => e = .returned (.tuple #[.int .i64 (numV s), .bool (numB s)]) ∧ w = w' := by
  rcases Nat.eq_zero_or_pos s.size with h | h
  · obtain rfl : s = ⟨#[]⟩ := by
      rcases s with ⟨⟨l⟩⟩
      cases l with
      | nil => rfl
      | cons a r => exact absurd h (Nat.succ_ne_zero _)
    exact number_r_nil w
  · by_cases hh : pk s 0 = 45
    · exact number_r_neg s _ w h hh hs rfl (by rw [← hh]; exact extract_one s h)
    · exact number_r_pos s w h hh hs

theorem code_name (c : Int) : codeOf (nmS c) = if 0 ≤ c ∧ c ≤ 14 then c else -1 := by
  by_cases hin : 0 ≤ c ∧ c ≤ 14
  · rw [if_pos hin]
    obtain ⟨j, rfl⟩ : ∃ j : Nat, c = j := ⟨c.toNat, by omega⟩
    have hj : j < 15 := by omega
    rw [nmS_at j hj]
    have : ∀ j : Fin 15, codeOf (nmL.getD j.val ByteArray.empty) = (j.val : Int) := by decide +kernel
    exact this ⟨j, hj⟩
  · rw [if_neg hin]
    unfold nmS
    rw [if_neg hin]
    decide +kernel

set_option maxRecDepth 100000 in
set_option maxHeartbeats 2000000 in
theorem litNames_c (c : Int) (s : ByteArray) (ea : Nat → Addr) (w : World) (h0 : -9223372036854775808 ≤ c) (h1 : c ≤ 9223372036854775807) (he : ErrsAt w ea) (hst : StrcAt w) :
    Calls Tryd.prog 3 #[.int .i64 c, .string s] w fun e w' => e = .returned (.bool true) ∧ Below w.heap.size w w' := by
  have F := Lib.hid (first_c ea w he)
  by_cases h100 : 100 < s.size
  · have hd : decide (100 < (s.size : Int)) = true := by simp; omega
    go_enter Tryd.func3, Tryd.ntmps3
    go_wp2_with fail
    refine F.out.mono ?_
    rintro e w2 ⟨rfl, hb⟩
    have HB := Lib.hid hb
    clear hb
    go_wp2_with fail
    go_returns
    exact ⟨rfl, HB.out⟩
  have hd : decide (100 < (s.size : Int)) = false := by simp; omega
  obtain ⟨cv, hcv⟩ : ∃ cv : Int, cv = if codeOf s < 0 then 0 else codeOf s := ⟨_, rfl⟩
  obtain ⟨cb, hcb⟩ : ∃ cb : Bool, cb = decide (0 ≤ codeOf s) := ⟨_, rfl⟩
  obtain ⟨nv, hnv⟩ : ∃ nv : Int, nv = numV s := ⟨_, rfl⟩
  obtain ⟨nb, hnb⟩ : ∃ nb : Bool, nb = numB s := ⟨_, rfl⟩
  obtain ⟨m, hm⟩ : ∃ m : ByteArray, m = nmS c := ⟨_, rfl⟩
  have C1 := fun W => code_l s W
  have C2 := fun W => code_r s W
  rw [← hcv, ← hcb] at C1 C2
  have N1 := fun W (hW : StrcAt W) => number_l s W (by omega) hW
  have N2 := fun W => number_r s W (by omega)
  rw [← hnv, ← hnb] at N1 N2
  have M1 := fun W => name_l c W h0 h1
  have M2 := fun W => name_r c W h0 h1
  have C3 := fun W => code_l (nmS c) W
  rw [code_name c, ← hm] at C3
  rw [← hm] at M1 M2
  have HC1 := Lib.hid C1
  have HC2 := Lib.hid C2
  have HN1 := Lib.hid N1
  have HN2 := Lib.hid N2
  have HM1 := Lib.hid M1
  have HM2 := Lib.hid M2
  have HST := Lib.hid hst
  have hse := str_eq m
  clear C1 C2 N1 N2 M1 M2 hcv hcb hnv hnb hm hst he
  by_cases hin : 0 ≤ c ∧ c ≤ 14
  · rw [if_pos hin, if_neg (by omega), show decide (0 ≤ c) = true by simp; omega] at C3
    have HC3 := Lib.hid C3
    clear C3
    have g0 : decide (0 ≤ c) = true := by simp; omega
    have g1 : decide (c ≤ 14) = true := by simp; omega
    go_enter Tryd.func3, Tryd.ntmps3
    go_wp2_with fail
    refine F.out.mono ?_
    rintro e w2 ⟨rfl, hb2⟩
    have HB2 := Lib.hid hb2
    clear hb2
    go_wp2_with fail
    refine (HC1.out _).mono ?_
    rintro e w3 ⟨rfl, hb3⟩
    have HB3 := Lib.hid (HB2.out.trans (below_le' hb3 HB2.out.size))
    clear hb3
    go_wp2_with fail
    refine (HC2.out _).mono ?_
    rintro e w' ⟨rfl, rfl⟩
    go_wp2_with fail
    refine (HN1.out _ (HST.out.below HB3.out (Nat.le_refl _))).mono ?_
    rintro e w4 ⟨rfl, hb4⟩
    have HB4 := Lib.hid (HB3.out.trans (below_le' hb4 HB3.out.size))
    clear hb4
    go_wp2_with fail
    refine (HN2.out _).mono ?_
    rintro e w' ⟨rfl, rfl⟩
    go_wp2_with fail
    refine (HM1.out _).mono ?_
    rintro e w5 ⟨rfl, hb5⟩
    have HB5 := Lib.hid (HB4.out.trans (below_le' hb5 HB4.out.size))
    clear hb5
    go_wp2_with fail
    refine (HC3.out _).mono ?_
    rintro e w6 ⟨rfl, hb6⟩
    have HB6 := Lib.hid (HB5.out.trans (below_le' hb6 HB5.out.size))
    clear hb6
    go_wp2_with fail
    refine (HM1.out _).mono ?_
    rintro e w7 ⟨rfl, hb7⟩
    have HB7 := Lib.hid (HB6.out.trans (below_le' hb7 HB6.out.size))
    clear hb7
    go_wp2_with fail
    refine (HM2.out _).mono ?_
    rintro e w' ⟨rfl, rfl⟩
    go_wp2_with fail
    go_returns
    exact ⟨rfl, HB7.out⟩
  · rw [if_neg hin, show (if (-1 : Int) < 0 then (0 : Int) else -1) = 0 from rfl, show decide ((0 : Int) ≤ -1) = false from rfl] at C3
    have HC3 := Lib.hid C3
    clear C3
    by_cases hlow : 0 ≤ c
    · have g0 : decide (0 ≤ c) = true := by simp; omega
      have g1 : decide (c ≤ 14) = false := by simp; omega
      go_enter Tryd.func3, Tryd.ntmps3
      go_wp2_with fail
      refine F.out.mono ?_
      rintro e w2 ⟨rfl, hb2⟩
      have HB2 := Lib.hid hb2
      clear hb2
      go_wp2_with fail
      refine (HC1.out _).mono ?_
      rintro e w3 ⟨rfl, hb3⟩
      have HB3 := Lib.hid (HB2.out.trans (below_le' hb3 HB2.out.size))
      clear hb3
      go_wp2_with fail
      refine (HC2.out _).mono ?_
      rintro e w' ⟨rfl, rfl⟩
      go_wp2_with fail
      refine (HN1.out _ (HST.out.below HB3.out (Nat.le_refl _))).mono ?_
      rintro e w4 ⟨rfl, hb4⟩
      have HB4 := Lib.hid (HB3.out.trans (below_le' hb4 HB3.out.size))
      clear hb4
      go_wp2_with fail
      refine (HN2.out _).mono ?_
      rintro e w' ⟨rfl, rfl⟩
      go_wp2_with fail
      refine (HM1.out _).mono ?_
      rintro e w5 ⟨rfl, hb5⟩
      have HB5 := Lib.hid (HB4.out.trans (below_le' hb5 HB4.out.size))
      clear hb5
      go_wp2_with fail
      refine (HC3.out _).mono ?_
      rintro e w6 ⟨rfl, hb6⟩
      have HB6 := Lib.hid (HB5.out.trans (below_le' hb6 HB5.out.size))
      clear hb6
      go_wp2_with fail
      refine (HM1.out _).mono ?_
      rintro e w7 ⟨rfl, hb7⟩
      have HB7 := Lib.hid (HB6.out.trans (below_le' hb7 HB6.out.size))
      clear hb7
      go_wp2_with fail
      refine (HM2.out _).mono ?_
      rintro e w' ⟨rfl, rfl⟩
      go_wp2_with fail
      go_returns
      exact ⟨rfl, HB7.out⟩
    · have g0 : decide (0 ≤ c) = false := by simp; omega
      go_enter Tryd.func3, Tryd.ntmps3
      go_wp2_with fail
      refine F.out.mono ?_
      rintro e w2 ⟨rfl, hb2⟩
      have HB2 := Lib.hid hb2
      clear hb2
      go_wp2_with fail
      refine (HC1.out _).mono ?_
      rintro e w3 ⟨rfl, hb3⟩
      have HB3 := Lib.hid (HB2.out.trans (below_le' hb3 HB2.out.size))
      clear hb3
      go_wp2_with fail
      refine (HC2.out _).mono ?_
      rintro e w' ⟨rfl, rfl⟩
      go_wp2_with fail
      refine (HN1.out _ (HST.out.below HB3.out (Nat.le_refl _))).mono ?_
      rintro e w4 ⟨rfl, hb4⟩
      have HB4 := Lib.hid (HB3.out.trans (below_le' hb4 HB3.out.size))
      clear hb4
      go_wp2_with fail
      refine (HN2.out _).mono ?_
      rintro e w' ⟨rfl, rfl⟩
      go_wp2_with fail
      refine (HM1.out _).mono ?_
      rintro e w5 ⟨rfl, hb5⟩
      have HB5 := Lib.hid (HB4.out.trans (below_le' hb5 HB4.out.size))
      clear hb5
      go_wp2_with fail
      refine (HC3.out _).mono ?_
      rintro e w6 ⟨rfl, hb6⟩
      have HB6 := Lib.hid (HB5.out.trans (below_le' hb6 HB5.out.size))
      clear hb6
      go_wp2_with fail
      refine (HM1.out _).mono ?_
      rintro e w7 ⟨rfl, hb7⟩
      have HB7 := Lib.hid (HB6.out.trans (below_le' hb7 HB6.out.size))
      clear hb7
      go_wp2_with fail
      refine (HM2.out _).mono ?_
      rintro e w' ⟨rfl, rfl⟩
      go_wp2_with fail
      go_returns
      exact ⟨rfl, HB7.out⟩
end Go.Proofs.YtoemnccklakkeaaDoor
