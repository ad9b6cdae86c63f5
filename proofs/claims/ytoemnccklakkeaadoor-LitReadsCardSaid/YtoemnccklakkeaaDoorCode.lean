/-
  The names of errors and back: lit.Name, lit.Code and the reference's.
-/
import Derived.Test.YtoemnccklakkeaaDoorFirst
import Derived.Test.YtoemnccklakkeaaDoorShelf
namespace Go.Proofs.YtoemnccklakkeaaDoor
open Go.RowKit Go.Lib
set_option linter.unusedVariables false

/-- The name of a code; empty: there is none. -/
def nmS (c : Int) : ByteArray := if 0 ≤ c ∧ c ≤ 14 then nmL.getD c.toNat ByteArray.empty else ⟨#[]⟩
/-- The code of a name. -/
def codeOf (s : ByteArray) : Int := idxOfS nmL s
theorem ret_two {a b c d : Value} (h : a = c) (h2 : b = d) : Ending.returned (.tuple #[a, b]) = .returned (.tuple #[c, d]) := by rw [h, h2]
set_option maxHeartbeats 1000000 in
theorem code_l (s : ByteArray) (w : World) :
    Calls Tryd.prog 11 #[.string s] w fun e w' => e = .returned (.tuple #[.int .i64 (if codeOf s < 0 then 0 else codeOf s), .bool (decide (0 ≤ codeOf s))]) ∧ Below w.heap.size w w' := by
  have NC := Lib.hid (names_c w)
  have hb : Below w.heap.size w (w.alloc (.cells (nmL.map Value.string).toArray 9)) := (Below.refl _ _).alloc (Nat.le_refl _) _
  have IC := Lib.hid (Tryd.slices_Index_string w.heap.size 0 15 15 nmL s (w.alloc (.cells (nmL.map Value.string).toArray 9)) (by rw [nmL_len]; exact Nat.le_refl _) (by decide)
    (fun j hj => by rw [Nat.zero_add]; exact names_cell w j (by rw [nmL_len] at hj; exact hj) 0))
  rw [show nmL.take 15 = nmL from rfl, show idxOfS nmL s = codeOf s from rfl] at IC
  have HB := Lib.hid hb
  clear hb
  by_cases hc : codeOf s < 0
  · rw [if_pos hc, show decide (0 ≤ codeOf s) = false by simp; omega]
    go_enter Tryd.func11, Tryd.ntmps11
    go_wp2_with fail
    refine NC.out.mono ?_
    rintro e w2 ⟨rfl, rfl⟩
    go_wp2_with fail
    refine IC.out.mono ?_
    rintro e w2 ⟨rfl, rfl⟩
    go_wp2_with fail
    go_returns
    exact ⟨rfl, HB.out⟩
  · rw [if_neg hc, show decide (0 ≤ codeOf s) = true by simp; omega]
    have hd : decide (codeOf s < 0) = false := by simp; omega
    go_enter Tryd.func11, Tryd.ntmps11
    go_wp2_with fail
    refine NC.out.mono ?_
    rintro e w2 ⟨rfl, rfl⟩
    go_wp2_with fail
    refine IC.out.mono ?_
    rintro e w2 ⟨rfl, rfl⟩
    go_wp2_with fail
    go_returns
    exact ⟨rfl, HB.out⟩

set_option maxHeartbeats 1000000 in
theorem name_l (c : Int) (w : World) (h0 : -9223372036854775808 ≤ c) (h1 : c ≤ 9223372036854775807) :
    Calls Tryd.prog 15 #[.int .i64 c] w fun e w' => e = .returned (.string (nmS c)) ∧ Below w.heap.size w w' := by
  have NC := Lib.hid (names_c w)
  have hb : Below w.heap.size w (w.alloc (.cells (nmL.map Value.string).toArray 9)) := (Below.refl _ _).alloc (Nat.le_refl _) _
  have HB := Lib.hid hb
  clear hb
  by_cases hl : c < 0
  · have HN := Lib.hid (show nmS c = ⟨#[]⟩ by unfold nmS; rw [if_neg (by omega)])
    have hd : decide (c < 0) = true := by simp; omega
    go_enter Tryd.func15, Tryd.ntmps15
    go_wp2_with fail
    refine NC.out.mono ?_
    rintro e w2 ⟨rfl, rfl⟩
    go_wp2_with fail
    go_returns
    exact ⟨ret_str HN.out.symm, HB.out⟩
  by_cases hh : 14 < c
  · have HN := Lib.hid (show nmS c = ⟨#[]⟩ by unfold nmS; rw [if_neg (by omega)])
    have hd : decide (c < 0) = false := by simp; omega
    have hd2 : decide (c ≥ 15) = true := by simp; omega
    have hd3 : decide (15 ≤ c) = true := by simp; omega
    go_enter Tryd.func15, Tryd.ntmps15
    go_wp2_with fail
    refine NC.out.mono ?_
    rintro e w2 ⟨rfl, rfl⟩
    go_wp2_with fail
    go_returns
    exact ⟨ret_str HN.out.symm, HB.out⟩
  · obtain ⟨j, rfl⟩ : ∃ j : Nat, c = j := ⟨c.toNat, by omega⟩
    have HN := Lib.hid (show nmS (j : Int) = nmL.getD j ByteArray.empty by unfold nmS; rw [if_pos (by omega)]; simp)
    have hcell : (w.alloc (.cells (nmL.map Value.string).toArray 9)).cell? ⟨w.heap.size, j, none⟩ = some (.string (nmL.getD j ByteArray.empty)) := names_cell w j (by omega) 0
    have hd : decide ((j : Int) < 0) = false := by simp
    have hd3 : decide (15 ≤ (j : Int)) = false := by simp; omega
    have hj : j < 15 := by omega
    have hd4 : decide (15 ≤ j) = false := by simp; omega
    go_enter Tryd.func15, Tryd.ntmps15
    go_wp2_with fail
    refine NC.out.mono ?_
    rintro e w2 ⟨rfl, rfl⟩
    go_wp2_with fail
    go_returns
    exact ⟨ret_str HN.out.symm, HB.out⟩

set_option maxHeartbeats 4000000 in
theorem name_r (c : Int) (w : World) (h0 : -9223372036854775808 ≤ c) (h1 : c ≤ 9223372036854775807) :
    Calls Tryd.prog 16 #[.int .i64 c] w fun e w' => e = .returned (.string (nmS c)) ∧ w = w' := by
  by_cases hin : 0 ≤ c ∧ c ≤ 14
  · obtain ⟨j, rfl⟩ : ∃ j : Nat, c = j := ⟨c.toNat, by omega⟩
    have hj : j < 15 := by omega
    have hcases : j = 0 ∨ j = 1 ∨ j = 2 ∨ j = 3 ∨ j = 4 ∨ j = 5 ∨ j = 6 ∨ j = 7 ∨ j = 8 ∨ j = 9 ∨ j = 10 ∨ j = 11 ∨ j = 12 ∨ j = 13 ∨ j = 14 := by omega
    clear h0 h1 hin hj
    rcases hcases with rfl | rfl | rfl | rfl | rfl | rfl | rfl | rfl | rfl | rfl | rfl | rfl | rfl | rfl | rfl <;>
    · go_enter Tryd.func16, Tryd.ntmps16
      go_wp2_with fail
      go_returns
      exact ⟨rfl, rfl⟩
  · have HN := Lib.hid (show nmS c = ⟨#[]⟩ by unfold nmS; rw [if_neg hin])
    have n0 : decide (c = 0) = false := by simp; omega
    have n1 : decide (c = 1) = false := by simp; omega
    have n2 : decide (c = 2) = false := by simp; omega
    have n3 : decide (c = 3) = false := by simp; omega
    have n4 : decide (c = 4) = false := by simp; omega
    have n5 : decide (c = 5) = false := by simp; omega
    have n6 : decide (c = 6) = false := by simp; omega
    have n7 : decide (c = 7) = false := by simp; omega
    have n8 : decide (c = 8) = false := by simp; omega
    have n9 : decide (c = 9) = false := by simp; omega
    have n10 : decide (c = 10) = false := by simp; omega
    have n11 : decide (c = 11) = false := by simp; omega
    have n12 : decide (c = 12) = false := by simp; omega
    have n13 : decide (c = 13) = false := by simp; omega
    have n14 : decide (c = 14) = false := by simp; omega
    go_enter Tryd.func16, Tryd.ntmps16
    go_wp2_with fail
    go_returns
    exact ⟨ret_str HN.out.symm, rfl⟩

theorem str_ne {a b : ByteArray} (h : ¬ a = b) : (a.toList == b.toList) = false := by
  rw [Lib.toList_data, Lib.toList_data, beq_eq_false_iff_ne]
  intro e
  apply h
  rcases a with ⟨⟨a⟩⟩; rcases b with ⟨⟨b⟩⟩
  exact congrArg (fun l => (⟨⟨l⟩⟩ : ByteArray)) e
theorem str_eq (a : ByteArray) : (a.toList == a.toList) = true := by rw [beq_iff_eq]
theorem nmS_at (j : Nat) (h : j < 15) : nmS (j : Int) = nmL.getD j ByteArray.empty := by unfold nmS; rw [if_pos (by omega)]; simp
theorem codeOf_hit (s : ByteArray) (k : Nat) (hk : k < 15) (h : nmL.getD k ByteArray.empty = s) (hne : ∀ j, j < k → nmL.getD j ByteArray.empty ≠ s) : codeOf s = k :=
  idxOfS_hit nmL 15 k s hk (by rw [nmL_len]; exact Nat.le_refl _) h hne
theorem codeOf_miss (s : ByteArray) (hne : ∀ j, j < 15 → nmL.getD j ByteArray.empty ≠ s) : codeOf s = -1 := idxOfS_miss nmL 15 s hne

set_option maxHeartbeats 1000000 in
theorem code_r (s : ByteArray) (w : World) :
    Calls Tryd.prog 12 #[.string s] w fun e w' => e = .returned (.tuple #[.int .i64 (if codeOf s < 0 then 0 else codeOf s), .bool (decide (0 ≤ codeOf s))]) ∧ w = w' := by
  obtain ⟨cv, hcv⟩ : ∃ cv : Int, cv = if codeOf s < 0 then 0 else codeOf s := ⟨_, rfl⟩
  obtain ⟨cb, hcb⟩ : ∃ cb : Bool, cb = decide (0 ≤ codeOf s) := ⟨_, rfl⟩
  rw [← hcv, ← hcb]
  have HCV := Lib.hid hcv
  have HCB := Lib.hid hcb
  clear hcv hcb
  have NR := fun (j : Nat) (hj : j < 15) (W : World) => Lib.hid (name_r (j : Int) W (by omega) (by omega))
  go_enter Tryd.func12, Tryd.ntmps12
  go_wp2_with fail
  go_loopg [4] 16 (fun k iv wr => ∃ i : Nat, iv = .int .i64 (i : Int) ∧ i ≤ 15 ∧ i + k = 16 ∧ w = wr ∧ Hid (∀ j, j < i → nmL.getD j ByteArray.empty ≠ s))
  case atStart => exact ⟨0, rfl, by omega, by omega, rfl, fun j hj => by omega⟩
  case round =>
    obtain ⟨i, rfl, hi, hk, rfl, hne⟩ := hrel
    by_cases h15 : i = 15
    · subst h15
      have hm := codeOf_miss s hne.out
      have HM := Lib.hid (show Value.int .i64 0 = Value.int .i64 cv ∧ Value.bool false = Value.bool cb by rw [HCV.out, HCB.out, hm]; exact ⟨rfl, rfl⟩)
      clear hm
      go_wp2_with fail
      go_returns
      exact ⟨ret_two HM.out.1 HM.out.2, rfl⟩
    · have hlt : i < 15 := by omega
      have NI := NR i hlt w
      rw [nmS_at i hlt] at NI
      have hd : decide ((i : Int) ≤ 14) = true := by simp; omega
      have hd2 : decide (i ≤ 14) = true := by simp; omega
      by_cases he : nmL.getD i ByteArray.empty = s
      · have hm := codeOf_hit s i hlt he hne.out
        have HM := Lib.hid (show Value.int .i64 (i : Int) = Value.int .i64 cv ∧ Value.bool true = Value.bool cb by rw [HCV.out, HCB.out, hm]; exact ⟨by rw [if_neg (by omega)], by simp⟩)
        clear hm
        rw [he] at NI
        clear he
        go_wp2_with fail
        refine NI.out.mono ?_
        rintro e w' ⟨rfl, rfl⟩
        go_wp2_with fail
        go_returns
        exact ⟨ret_two HM.out.1 HM.out.2, rfl⟩
      · obtain ⟨nm, hnm⟩ : ∃ nm, nm = nmL.getD i ByteArray.empty := ⟨_, rfl⟩
        rw [← hnm] at NI he
        have HNE := Lib.hid (show ∀ j, j < i + 1 → nmL.getD j ByteArray.empty ≠ s by
          intro j hj
          rcases Nat.lt_or_ge j i with h | h
          · exact hne.out j h
          · obtain rfl : j = i := by omega
            rw [← hnm]; exact he)
        have hde : (nm.toList == s.toList) = false := str_ne he
        clear hnm
        go_wp2_with fail
        refine NI.out.mono ?_
        rintro e w' ⟨rfl, rfl⟩
        have hw : IntKind.i64.wrap ((i : Int) + 1) = ((i + 1 : Nat) : Int) := by rw [IntKind.wrap_i64]; omega
        go_wp2_with fail
        go_roundg (gk - 1)
        case measure => omega
        case rel => exact ⟨i + 1, rfl, by omega, by omega, rfl, HNE.out⟩
end Go.Proofs.YtoemnccklakkeaaDoor
