/-
  The reference's Number: the walk.
-/
import Derived.Test.YtoemnccklakkeaaDoorNumW
namespace Go.Proofs.YtoemnccklakkeaaDoor
open Go.RowKit Go.Lib
set_option linter.unusedVariables false

/-- Digits read up to a place. -/
def dTo (t : ByteArray) (i : Nat) : Nat := dval 0 (t.data.toList.take i)
theorem dTo_zero (t : ByteArray) : dTo t 0 = 0 := by unfold dTo; rw [List.take_zero, dval_nil]
theorem pk_get (t : ByteArray) (i : Nat) (h : i < t.size) : t.data.toList[i]? = some (pk t i) := by
  unfold pk
  rw [List.getD_eq_getElem?_getD, List.getElem?_eq_getElem (by simpa using h)]; rfl
theorem dTo_succ (t : ByteArray) (i : Nat) (h : i < t.size) : dTo t (i + 1) = dTo t i * 10 + ((pk t i).toNat - 48) := by
  unfold dTo
  rw [List.take_add_one, pk_get t i h, Option.toList_some, dval_snoc]
theorem dTo_all (t : ByteArray) : dTo t t.size = dval 0 t.data.toList := by
  unfold dTo; rw [List.take_of_length_le (by simp)]
theorem dTo_lt (t : ByteArray) (i : Nat) (hi : i ≤ t.size) (h : ∀ j, j < i → isDg (pk t j) = true) : dTo t i < 10 ^ i := by
  have := dval_lt (t.data.toList.take i) 0 (by
    intro c hc
    obtain ⟨j, hj, rfl⟩ := List.mem_iff_getElem.1 hc
    have hji : j < i := by simp at hj; omega
    have := h j hji
    have e := pk_get t j (by omega)
    rw [List.getElem_take]
    rw [List.getElem?_eq_getElem (by simp; omega)] at e
    injection e with e
    rw [e]; exact this)
  rw [List.length_take, Nat.min_eq_left (by simpa using hi)] at this
  unfold dTo
  omega
theorem all_dg (t : ByteArray) (h : ∀ j, j < t.size → isDg (pk t j) = true) : t.data.toList.all isDg = true := by
  rw [List.all_eq_true]
  intro c hc
  obtain ⟨j, hj, rfl⟩ := List.mem_iff_getElem.1 hc
  have hj2 : j < t.size := by simpa using hj
  have e := pk_get t j hj2
  rw [List.getElem?_eq_getElem hj] at e
  injection e with e
  rw [e]; exact h j hj2
theorem not_all_dg (t : ByteArray) (i : Nat) (hi : i < t.size) (h : isDg (pk t i) = false) : t.data.toList.all isDg = false := by
  rw [List.all_eq_false]
  have e := pk_get t i hi
  exact ⟨pk t i, List.mem_of_getElem? e, by rw [h]; simp⟩

set_option maxHeartbeats 2000000 in
theorem number_r_pos (s : ByteArray) (w : World) (h0 : 0 < s.size) (hh : pk s 0 ≠ 45) (hs : s.size ≤ 1000000000) :
    Calls Tryd.prog 14 #[.string s] w fun e w' => e = .returned (.tuple #[.int .i64 (numV s), .bool (numB s)]) ∧ w = w' := by
  obtain ⟨cv, hcv⟩ : ∃ cv : Int, cv = numV s := ⟨_, rfl⟩
  obtain ⟨cb, hcb⟩ : ∃ cb : Bool, cb = numB s := ⟨_, rfl⟩
  rw [← hcv, ← hcb]
  have hnl : s.data.toList ≠ [] := by
    intro e; have : s.size = 0 := by rw [ByteArray.size, ← Array.length_toList, e]; rfl
    omega
  have hem : s.toList.isEmpty = false := by rw [Lib.toList_data]; simpa using hnl
  have hpk : s[0]'h0 = pk s 0 := (pk_in s 0 h0).symm
  have hneg : ¬ s.data.toList.head? = some 45 := by
    intro e; apply hh
    unfold pk
    cases hq : s.data.toList with
    | nil => exact absurd hq hnl
    | cons a r => rw [hq] at e; injection e
  have h45b : (((s[0]'h0).toNat : Int) == 45) = false := by rw [hpk]; simp; intro e; exact hh (UInt8.toNat_inj.1 (by have : (45 : UInt8).toNat = 45 := rfl; omega))
  by_cases h19 : 19 < s.size
  · have hn : refNum s.data.toList = none := by unfold refNum; simp only [hneg, decide_false, Bool.false_eq_true, if_false]; rw [if_pos (.inr (.inl (by simpa using h19)))]
    have HM := Lib.hid (num_none hn)
    rw [← hcv, ← hcb] at HM
    have hd : decide (19 < (s.size : Int)) = true := by simp; omega
    clear hcv hcb hn hneg hpk hh
    go_enter Tryd.func14, Tryd.ntmps14
    go_wp2_with fail
    go_returns
    exact ⟨ret_two HM.out.1 HM.out.2, rfl⟩
  have hd19 : decide (19 < (s.size : Int)) = false := by simp; omega
  have HCV := Lib.hid hcv
  have HCB := Lib.hid hcb
  by_cases h48 : pk s 0 = 48
  · have h48b : (((s[0]'h0).toNat : Int) == 48) = true := by rw [hpk, h48]; rfl
    have hhead : s.data.toList.head? = some 48 := by
      unfold pk at h48
      cases hq : s.data.toList with
      | nil => exact absurd hq hnl
      | cons a r => rw [hq] at h48; rw [show a = 48 from h48]; rfl
    by_cases h1 : 1 < s.size
    · have hn : refNum s.data.toList = none := by unfold refNum; simp only [hneg, decide_false, Bool.false_eq_true, if_false]; rw [if_pos (.inr (.inr ⟨hhead, .inl (by simpa using h1)⟩))]
      have HM := Lib.hid (num_none hn)
      rw [← hcv, ← hcb] at HM
      have hd : decide (1 < (s.size : Int)) = true := by simp; omega
      clear hcv hcb hn hneg hpk hh hhead
      go_enter Tryd.func14, Tryd.ntmps14
      go_wp2_with fail
      go_returns
      exact ⟨ret_two HM.out.1 HM.out.2, rfl⟩
    have hno : ¬ (s.data.toList = [] ∨ 19 < s.data.toList.length ∨ (s.data.toList.head? = some 48 ∧ (1 < s.data.toList.length ∨ false = true))) := by
      rintro (h | h | ⟨_, h | h⟩)
      · exact hnl h
      · rw [Array.length_toList] at h; exact h19 h
      · rw [Array.length_toList] at h; exact h1 h
      · cases h
    have hd1 : decide (1 < (s.size : Int)) = false := by simp; omega
    have HF := Lib.hid (show s.data.toList.all isDg = true → refNum s.data.toList = (if 9223372036854775807 < dval 0 s.data.toList then none else some (dval 0 s.data.toList : Int)) by
      intro ha; unfold refNum; simp only [hneg, decide_false, Bool.false_eq_true, if_false]; rw [if_neg (by simpa using hno), if_neg (by rw [ha]; simp)])
    have HG := Lib.hid (show s.data.toList.all isDg = false → refNum s.data.toList = none by
      intro ha; unfold refNum; simp only [hneg, decide_false, Bool.false_eq_true, if_false]; rw [if_neg (by simpa using hno), if_pos ha])
    clear hcv hcb hneg hpk hh hno h48 hhead
    go_enter Tryd.func14, Tryd.ntmps14
    go_wp2_with fail
    go_loopg [5, 6] (s.size + 1) (fun k nv iv wr => ∃ i : Nat, nv = .int .u64 ((dTo s i : Nat) : Int) ∧ iv = .int .i64 (i : Int) ∧ i + k = s.size + 1 ∧ i ≤ s.size ∧ w = wr ∧ Hid (∀ j, j < i → isDg (pk s j) = true))
    case atStart => exact ⟨0, by rw [dTo_zero]; rfl, rfl, by omega, by omega, rfl, fun j hj => by omega⟩
    case round =>
      obtain ⟨i, rfl, rfl, hk, hi, rfl, hdg⟩ := hrel
      by_cases hend : i = s.size
      · subst hend
        have hall := all_dg s hdg.out
        have htop := dTo_all s
        by_cases hbig : 9223372036854775807 < dTo s s.size
        · have HM := Lib.hid (num_none (HF.out hall ▸ if_pos (by rw [← htop]; exact hbig)))
          rw [← HCV.out, ← HCB.out] at HM
          have hd : decide (9223372036854775807 < ((dTo s s.size : Nat) : Int)) = true := by simp; omega
          clear htop hall
          go_wp2_with fail
          go_returns
          exact ⟨ret_two HM.out.1 HM.out.2, rfl⟩
        · have HM := Lib.hid (num_some (HF.out hall ▸ if_neg (by rw [← htop]; exact hbig)))
          rw [← HCV.out, ← HCB.out, ← htop] at HM
          have hd : decide (9223372036854775807 < ((dTo s s.size : Nat) : Int)) = false := by simp; omega
          have hcvt : IntKind.i64.wrap ((dTo s s.size : Nat) : Int) = ((dTo s s.size : Nat) : Int) := by rw [IntKind.wrap_i64]; omega
          clear htop hall
          go_wp2_with fail
          go_returns
          exact ⟨ret_two HM.out.1 HM.out.2, rfl⟩
      · have hlt : i < s.size := by omega
        have hp : s[i]'hlt = pk s i := (pk_in s i hlt).symm
        cases hg : isDg (pk s i) with
        | false =>
          have HM := Lib.hid (num_none (HG.out (not_all_dg s i hlt hg)))
          rw [← HCV.out, ← HCB.out] at HM
          by_cases hlow : (pk s i).toNat < 48
          · have hd : decide (((s[i]'hlt).toNat : Int) < 48) = true := by rw [hp]; simp; omega
            clear hp hg
            go_wp2_with fail
            go_returns
            exact ⟨ret_two HM.out.1 HM.out.2, rfl⟩
          · have hd : decide (((s[i]'hlt).toNat : Int) < 48) = false := by rw [hp]; simp; omega
            have hd2 : decide (57 < ((s[i]'hlt).toNat : Int)) = true := by
              rw [hp]; simp
              rcases Nat.lt_or_ge 57 (pk s i).toNat with h | h
              · omega
              · rw [isDg_iff.2 ⟨by omega, h⟩] at hg; cases hg
            clear hp hg
            go_wp2_with fail
            go_returns
            exact ⟨ret_two HM.out.1 HM.out.2, rfl⟩
        | true =>
          have hgg := isDg_iff.1 hg
          have hlt10 := dTo_lt s i hi hdg.out
          have hpow : 10 ^ i ≤ 10 ^ 18 := Nat.pow_le_pow_right (by omega) (by omega)
          have h18 : (10 : Nat) ^ 18 = 1000000000000000000 := by decide
          have hsucc := dTo_succ s i hlt
          have hd : decide (((s[i]'hlt).toNat : Int) < 48) = false := by rw [hp]; simp; omega
          have hd2 : decide (57 < ((s[i]'hlt).toNat : Int)) = false := by rw [hp]; simp; omega
          have hw1 : IntKind.u64.wrap (10 * ((dTo s i : Nat) : Int)) = 10 * ((dTo s i : Nat) : Int) := by rw [IntKind.wrap_u64]; omega
          have hw2 : IntKind.u8.wrap (((s[i]'hlt).toNat : Int) - 48) = (((pk s i).toNat - 48 : Nat) : Int) := by rw [hp, IntKind.wrap_u8]; omega
          have hw3 : IntKind.u64.wrap (((pk s i).toNat - 48 : Nat) : Int) = (((pk s i).toNat - 48 : Nat) : Int) := by rw [IntKind.wrap_u64]; omega
          have hw4 : IntKind.u64.wrap (10 * ((dTo s i : Nat) : Int) + (((pk s i).toNat - 48 : Nat) : Int)) = ((dTo s (i + 1) : Nat) : Int) := by rw [IntKind.wrap_u64, hsucc]; omega
          have hw5 : IntKind.i64.wrap ((i : Int) + 1) = ((i + 1 : Nat) : Int) := by rw [IntKind.wrap_i64]; omega
          have HDG := Lib.hid (show ∀ j, j < i + 1 → isDg (pk s j) = true by
            intro j hj
            rcases Nat.lt_or_ge j i with h | h
            · exact hdg.out j h
            · obtain rfl : j = i := by omega
              exact hg)
          clear hsucc hpow h18 hlt10 hgg hg hp
          go_wp2_with fail
          go_roundg (gk - 1)
          case measure => omega
          case rel => exact ⟨i + 1, rfl, rfl, by omega, by omega, rfl, HDG.out⟩
  · have hno : ¬ (s.data.toList = [] ∨ 19 < s.data.toList.length ∨ (s.data.toList.head? = some 48 ∧ (1 < s.data.toList.length ∨ false = true))) := by
      rintro (h | h | ⟨h, _⟩)
      · exact hnl h
      · rw [Array.length_toList] at h; exact h19 h
      · apply h48
        unfold pk
        cases hq : s.data.toList with
          | nil => exact absurd hq hnl
          | cons a r => rw [hq] at h; injection h
    have HF := Lib.hid (show s.data.toList.all isDg = true → refNum s.data.toList = (if 9223372036854775807 < dval 0 s.data.toList then none else some (dval 0 s.data.toList : Int)) by
      intro ha; unfold refNum; simp only [hneg, decide_false, Bool.false_eq_true, if_false]; rw [if_neg (by simpa using hno), if_neg (by rw [ha]; simp)])
    have HG := Lib.hid (show s.data.toList.all isDg = false → refNum s.data.toList = none by
      intro ha; unfold refNum; simp only [hneg, decide_false, Bool.false_eq_true, if_false]; rw [if_neg (by simpa using hno), if_pos ha])
    have h48b : (((s[0]'h0).toNat : Int) == 48) = false := by rw [hpk]; simp; intro e; exact h48 (UInt8.toNat_inj.1 (by have : (48 : UInt8).toNat = 48 := rfl; omega))
    clear hcv hcb hneg hpk hh hno h48
    go_enter Tryd.func14, Tryd.ntmps14
    go_wp2_with fail
    go_loopg [5, 6] (s.size + 1) (fun k nv iv wr => ∃ i : Nat, nv = .int .u64 ((dTo s i : Nat) : Int) ∧ iv = .int .i64 (i : Int) ∧ i + k = s.size + 1 ∧ i ≤ s.size ∧ w = wr ∧ Hid (∀ j, j < i → isDg (pk s j) = true))
    case atStart => exact ⟨0, by rw [dTo_zero]; rfl, rfl, by omega, by omega, rfl, fun j hj => by omega⟩
    case round =>
      obtain ⟨i, rfl, rfl, hk, hi, rfl, hdg⟩ := hrel
      by_cases hend : i = s.size
      · subst hend
        have hall := all_dg s hdg.out
        have htop := dTo_all s
        by_cases hbig : 9223372036854775807 < dTo s s.size
        · have HM := Lib.hid (num_none (HF.out hall ▸ if_pos (by rw [← htop]; exact hbig)))
          rw [← HCV.out, ← HCB.out] at HM
          have hd : decide (9223372036854775807 < ((dTo s s.size : Nat) : Int)) = true := by simp; omega
          clear htop hall
          go_wp2_with fail
          go_returns
          exact ⟨ret_two HM.out.1 HM.out.2, rfl⟩
        · have HM := Lib.hid (num_some (HF.out hall ▸ if_neg (by rw [← htop]; exact hbig)))
          rw [← HCV.out, ← HCB.out, ← htop] at HM
          have hd : decide (9223372036854775807 < ((dTo s s.size : Nat) : Int)) = false := by simp; omega
          have hcvt : IntKind.i64.wrap ((dTo s s.size : Nat) : Int) = ((dTo s s.size : Nat) : Int) := by rw [IntKind.wrap_i64]; omega
          clear htop hall
          go_wp2_with fail
          go_returns
          exact ⟨ret_two HM.out.1 HM.out.2, rfl⟩
      · have hlt : i < s.size := by omega
        have hp : s[i]'hlt = pk s i := (pk_in s i hlt).symm
        cases hg : isDg (pk s i) with
        | false =>
          have HM := Lib.hid (num_none (HG.out (not_all_dg s i hlt hg)))
          rw [← HCV.out, ← HCB.out] at HM
          by_cases hlow : (pk s i).toNat < 48
          · have hd : decide (((s[i]'hlt).toNat : Int) < 48) = true := by rw [hp]; simp; omega
            clear hp hg
            go_wp2_with fail
            go_returns
            exact ⟨ret_two HM.out.1 HM.out.2, rfl⟩
          · have hd : decide (((s[i]'hlt).toNat : Int) < 48) = false := by rw [hp]; simp; omega
            have hd2 : decide (57 < ((s[i]'hlt).toNat : Int)) = true := by
              rw [hp]; simp
              rcases Nat.lt_or_ge 57 (pk s i).toNat with h | h
              · omega
              · rw [isDg_iff.2 ⟨by omega, h⟩] at hg; cases hg
            clear hp hg
            go_wp2_with fail
            go_returns
            exact ⟨ret_two HM.out.1 HM.out.2, rfl⟩
        | true =>
          have hgg := isDg_iff.1 hg
          have hlt10 := dTo_lt s i hi hdg.out
          have hpow : 10 ^ i ≤ 10 ^ 18 := Nat.pow_le_pow_right (by omega) (by omega)
          have h18 : (10 : Nat) ^ 18 = 1000000000000000000 := by decide
          have hsucc := dTo_succ s i hlt
          have hd : decide (((s[i]'hlt).toNat : Int) < 48) = false := by rw [hp]; simp; omega
          have hd2 : decide (57 < ((s[i]'hlt).toNat : Int)) = false := by rw [hp]; simp; omega
          have hw1 : IntKind.u64.wrap (10 * ((dTo s i : Nat) : Int)) = 10 * ((dTo s i : Nat) : Int) := by rw [IntKind.wrap_u64]; omega
          have hw2 : IntKind.u8.wrap (((s[i]'hlt).toNat : Int) - 48) = (((pk s i).toNat - 48 : Nat) : Int) := by rw [hp, IntKind.wrap_u8]; omega
          have hw3 : IntKind.u64.wrap (((pk s i).toNat - 48 : Nat) : Int) = (((pk s i).toNat - 48 : Nat) : Int) := by rw [IntKind.wrap_u64]; omega
          have hw4 : IntKind.u64.wrap (10 * ((dTo s i : Nat) : Int) + (((pk s i).toNat - 48 : Nat) : Int)) = ((dTo s (i + 1) : Nat) : Int) := by rw [IntKind.wrap_u64, hsucc]; omega
          have hw5 : IntKind.i64.wrap ((i : Int) + 1) = ((i + 1 : Nat) : Int) := by rw [IntKind.wrap_i64]; omega
          have HDG := Lib.hid (show ∀ j, j < i + 1 → isDg (pk s j) = true by
            intro j hj
            rcases Nat.lt_or_ge j i with h | h
            · exact hdg.out j h
            · obtain rfl : j = i := by omega
              exact hg)
          clear hsucc hpow h18 hlt10 hgg hg hp
          go_wp2_with fail
          go_roundg (gk - 1)
          case measure => omega
          case rel => exact ⟨i + 1, rfl, rfl, by omega, by omega, rfl, HDG.out⟩

set_option maxHeartbeats 2000000 in
theorem number_r_neg (s t : ByteArray) (w : World) (h0 : 0 < s.size) (hh : pk s 0 = 45) (hs : s.size ≤ 1000000000) (hx : s.extract 1 s.size = t) (hst : s.data.toList = 45 :: t.data.toList) :
    Calls Tryd.prog 14 #[.string s] w fun e w' => e = .returned (.tuple #[.int .i64 (numV s), .bool (numB s)]) ∧ w = w' := by
  obtain ⟨cv, hcv⟩ : ∃ cv : Int, cv = numV s := ⟨_, rfl⟩
  obtain ⟨cb, hcb⟩ : ∃ cb : Bool, cb = numB s := ⟨_, rfl⟩
  rw [← hcv, ← hcb]
  have hem : s.toList.isEmpty = false := by rw [Lib.toList_data, hst]; rfl
  have hpk : s[0]'h0 = pk s 0 := (pk_in s 0 h0).symm
  have h45b : (((s[0]'h0).toNat : Int) == 45) = true := by rw [hpk, hh]; rfl
  have HCV := Lib.hid hcv
  have HCB := Lib.hid hcb
  by_cases h0t : t.size = 0
  · have hnt : t.data.toList = [] := by rw [← List.length_eq_zero_iff, Array.length_toList]; exact h0t
    have hemt : t.toList.isEmpty = true := by rw [Lib.toList_data, hnt]; rfl
    have hn : refNum s.data.toList = none := by rw [hst]; unfold refNum; simp only [List.head?_cons, decide_true, if_true, List.tail_cons]; rw [if_pos (.inl hnt)]
    have HM := Lib.hid (num_none hn)
    rw [← hcv, ← hcb] at HM
    clear hcv hcb hn hpk hh hst hnt
    go_enter Tryd.func14, Tryd.ntmps14
    go_wp2_with fail
    go_returns
    exact ⟨ret_two HM.out.1 HM.out.2, rfl⟩
  have h0t2 : 0 < t.size := by omega
  have hnl : t.data.toList ≠ [] := by
    intro e; have : t.size = 0 := by rw [ByteArray.size, ← Array.length_toList, e]; rfl
    omega
  have hemt : t.toList.isEmpty = false := by rw [Lib.toList_data]; simpa using hnl
  have hpt : t[0]'h0t2 = pk t 0 := (pk_in t 0 h0t2).symm
  have htz : t.size ≤ s.size := by
    have h1 := congrArg List.length hst
    rw [List.length_cons, Array.length_toList, Array.length_toList] at h1
    have h2 : s.size = t.size + 1 := h1
    omega
  by_cases h19 : 19 < t.size
  · have hn : refNum s.data.toList = none := by rw [hst]; unfold refNum; simp only [List.head?_cons, decide_true, if_true, List.tail_cons]; rw [if_pos (.inr (.inl (by simpa using h19)))]
    have HM := Lib.hid (num_none hn)
    rw [← hcv, ← hcb] at HM
    have hd : decide (19 < (t.size : Int)) = true := by simp; omega
    clear hcv hcb hn hpk hh hst hnl hpt
    go_enter Tryd.func14, Tryd.ntmps14
    go_wp2_with fail
    go_returns
    exact ⟨ret_two HM.out.1 HM.out.2, rfl⟩
  have hd19 : decide (19 < (t.size : Int)) = false := by simp; omega
  by_cases h48 : pk t 0 = 48
  · have h48b : (((t[0]'h0t2).toNat : Int) == 48) = true := by rw [hpt, h48]; rfl
    have hhead : t.data.toList.head? = some 48 := by
      unfold pk at h48
      cases hq : t.data.toList with
      | nil => exact absurd hq hnl
      | cons a r => rw [hq] at h48; rw [show a = 48 from h48]; rfl
    have hn : refNum s.data.toList = none := by rw [hst]; unfold refNum; simp only [List.head?_cons, decide_true, if_true, List.tail_cons]; rw [if_pos (.inr (.inr ⟨hhead, .inr trivial⟩))]
    have HM := Lib.hid (num_none hn)
    rw [← hcv, ← hcb] at HM
    clear hcv hcb hn hpk hh hst hnl hpt hhead
    by_cases h1 : 1 < t.size
    · have hd : decide (1 < (t.size : Int)) = true := by simp; omega
      go_enter Tryd.func14, Tryd.ntmps14
      go_wp2_with fail
      go_returns
      exact ⟨ret_two HM.out.1 HM.out.2, rfl⟩
    · have hd : decide (1 < (t.size : Int)) = false := by simp; omega
      go_enter Tryd.func14, Tryd.ntmps14
      go_wp2_with fail
      go_returns
      exact ⟨ret_two HM.out.1 HM.out.2, rfl⟩
  · have hno : ¬ (t.data.toList = [] ∨ 19 < t.data.toList.length ∨ (t.data.toList.head? = some 48 ∧ (1 < t.data.toList.length ∨ true = true))) := by
      rintro (h | h | ⟨h, _⟩)
      · exact hnl h
      · rw [Array.length_toList] at h; exact h19 h
      · apply h48
        unfold pk
        cases hq : t.data.toList with
          | nil => exact absurd hq hnl
          | cons a r => rw [hq] at h; injection h
    have HF := Lib.hid (show t.data.toList.all isDg = true → refNum s.data.toList = (if 9223372036854775808 < dval 0 t.data.toList then none else some (-(dval 0 t.data.toList : Int))) by
      intro ha; rw [hst]; unfold refNum; simp only [List.head?_cons, decide_true, if_true, List.tail_cons]; rw [if_neg (by simpa using hno), if_neg (by rw [ha]; simp)])
    have HG := Lib.hid (show t.data.toList.all isDg = false → refNum s.data.toList = none by
      intro ha; rw [hst]; unfold refNum; simp only [List.head?_cons, decide_true, if_true, List.tail_cons]; rw [if_neg (by simpa using hno), if_pos ha])
    have h48b : (((t[0]'h0t2).toNat : Int) == 48) = false := by rw [hpt]; simp; intro e; exact h48 (UInt8.toNat_inj.1 (by have : (48 : UInt8).toNat = 48 := rfl; omega))
    clear hcv hcb hpk hh hno h48 hst hpt hnl
    go_enter Tryd.func14, Tryd.ntmps14
    go_wp2_with fail
    go_loopg [5, 6] (t.size + 1) (fun k nv iv wr => ∃ i : Nat, nv = .int .u64 ((dTo t i : Nat) : Int) ∧ iv = .int .i64 (i : Int) ∧ i + k = t.size + 1 ∧ i ≤ t.size ∧ w = wr ∧ Hid (∀ j, j < i → isDg (pk t j) = true))
    case atStart => exact ⟨0, by rw [dTo_zero]; rfl, rfl, by omega, by omega, rfl, fun j hj => by omega⟩
    case round =>
      obtain ⟨i, rfl, rfl, hk, hi, rfl, hdg⟩ := hrel
      by_cases hend : i = t.size
      · subst hend
        have hall := all_dg t hdg.out
        have htop := dTo_all t
        by_cases hbig : 9223372036854775808 < dTo t t.size
        · have HM := Lib.hid (num_none (HF.out hall ▸ if_pos (by rw [← htop]; exact hbig)))
          rw [← HCV.out, ← HCB.out] at HM
          have hd : decide (9223372036854775808 < ((dTo t t.size : Nat) : Int)) = true := by simp; omega
          clear htop hall
          go_wp2_with fail
          go_returns
          exact ⟨ret_two HM.out.1 HM.out.2, rfl⟩
        · have HM := Lib.hid (num_some (HF.out hall ▸ if_neg (by rw [← htop]; exact hbig)))
          rw [← HCV.out, ← HCB.out, ← htop] at HM
          have hd : decide (9223372036854775808 < ((dTo t t.size : Nat) : Int)) = false := by simp; omega
          obtain ⟨z, hz⟩ : ∃ z : Int, z = IntKind.i64.wrap ((dTo t t.size : Nat) : Int) := ⟨_, rfl⟩
          have hz2 : IntKind.i64.wrap (-z) = -((dTo t t.size : Nat) : Int) := by rw [hz, IntKind.wrap_i64, IntKind.wrap_i64]; omega
          have hcvt : IntKind.i64.wrap ((dTo t t.size : Nat) : Int) = z := hz.symm
          clear htop hall hz
          go_wp2_with fail
          go_returns
          exact ⟨ret_two HM.out.1 HM.out.2, rfl⟩
      · have hlt : i < t.size := by omega
        have hp : t[i]'hlt = pk t i := (pk_in t i hlt).symm
        cases hg : isDg (pk t i) with
        | false =>
          have HM := Lib.hid (num_none (HG.out (not_all_dg t i hlt hg)))
          rw [← HCV.out, ← HCB.out] at HM
          by_cases hlow : (pk t i).toNat < 48
          · have hd : decide (((t[i]'hlt).toNat : Int) < 48) = true := by rw [hp]; simp; omega
            clear hp hg
            go_wp2_with fail
            go_returns
            exact ⟨ret_two HM.out.1 HM.out.2, rfl⟩
          · have hd : decide (((t[i]'hlt).toNat : Int) < 48) = false := by rw [hp]; simp; omega
            have hd2 : decide (57 < ((t[i]'hlt).toNat : Int)) = true := by
              rw [hp]; simp
              rcases Nat.lt_or_ge 57 (pk t i).toNat with h | h
              · omega
              · rw [isDg_iff.2 ⟨by omega, h⟩] at hg; cases hg
            clear hp hg
            go_wp2_with fail
            go_returns
            exact ⟨ret_two HM.out.1 HM.out.2, rfl⟩
        | true =>
          have hgg := isDg_iff.1 hg
          have hlt10 := dTo_lt t i hi hdg.out
          have hpow : 10 ^ i ≤ 10 ^ 18 := Nat.pow_le_pow_right (by omega) (by omega)
          have h18 : (10 : Nat) ^ 18 = 1000000000000000000 := by decide
          have hsucc := dTo_succ t i hlt
          have hd : decide (((t[i]'hlt).toNat : Int) < 48) = false := by rw [hp]; simp; omega
          have hd2 : decide (57 < ((t[i]'hlt).toNat : Int)) = false := by rw [hp]; simp; omega
          have hw1 : IntKind.u64.wrap (10 * ((dTo t i : Nat) : Int)) = 10 * ((dTo t i : Nat) : Int) := by rw [IntKind.wrap_u64]; omega
          have hw2 : IntKind.u8.wrap (((t[i]'hlt).toNat : Int) - 48) = (((pk t i).toNat - 48 : Nat) : Int) := by rw [hp, IntKind.wrap_u8]; omega
          have hw3 : IntKind.u64.wrap (((pk t i).toNat - 48 : Nat) : Int) = (((pk t i).toNat - 48 : Nat) : Int) := by rw [IntKind.wrap_u64]; omega
          have hw4 : IntKind.u64.wrap (10 * ((dTo t i : Nat) : Int) + (((pk t i).toNat - 48 : Nat) : Int)) = ((dTo t (i + 1) : Nat) : Int) := by rw [IntKind.wrap_u64, hsucc]; omega
          have hw5 : IntKind.i64.wrap ((i : Int) + 1) = ((i + 1 : Nat) : Int) := by rw [IntKind.wrap_i64]; omega
          have HDG := Lib.hid (show ∀ j, j < i + 1 → isDg (pk t j) = true by
            intro j hj
            rcases Nat.lt_or_ge j i with h | h
            · exact hdg.out j h
            · obtain rfl : j = i := by omega
              exact hg)
          clear hsucc hpow h18 hlt10 hgg hg hp
          go_wp2_with fail
          go_roundg (gk - 1)
          case measure => omega
          case rel => exact ⟨i + 1, rfl, rfl, by omega, by omega, rfl, HDG.out⟩
end Go.Proofs.YtoemnccklakkeaaDoor
