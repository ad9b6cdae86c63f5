/-
  LitNumbers: the walk of the law.
-/
import Derived.Test.YtoemnccklakkeaaDoorNbW
namespace Go.Proofs.YtoemnccklakkeaaDoor
open Go.RowKit Go.Lib
set_option linter.unusedVariables false

theorem isEmpty_of {s : ByteArray} : (s.size = 0 → s = ⟨#[]⟩) ∧ (s.size ≠ 0 → s.toList.isEmpty = false) := by
  constructor
  · intro h
    rcases s with ⟨⟨l⟩⟩
    cases l with
    | nil => rfl
    | cons a r => exact absurd h (Nat.succ_ne_zero _)
  · intro h
    rw [Lib.toList_data]
    cases hq : s.data.toList with
    | nil => exact absurd (by rw [ByteArray.size, ← Array.length_toList, hq]; rfl) h
    | cons a r => rfl

set_option maxRecDepth 100000 in
set_option maxHeartbeats 2000000 in
theorem litNumbers_c (v : Int) (pad : ByteArray) (ea : Nat → Addr) (w : World) (h0 : -9223372036854775808 ≤ v) (h1 : v ≤ 9223372036854775807) (he : ErrsAt w ea) (hst : StrcAt w) (htx : TxAt w) :
    Calls Tryd.prog 9 #[.int .i64 v, .string pad] w fun e w' => e = .returned (.bool true) ∧ Below w.heap.size w w' := by
  have F := Lib.hid (first_c ea w he)
  have hroom := hst.room
  by_cases h10 : 10 < pad.size
  · have hd : decide (10 < (pad.size : Int)) = true := by simp; omega
    go_enter Tryd.func9, Tryd.ntmps9
    go_wp2_with fail
    refine F.out.mono ?_
    rintro e w2 ⟨rfl, hb⟩
    have HB := Lib.hid hb
    clear hb
    go_wp2_with fail
    go_returns
    exact ⟨rfl, HB.out⟩
  have hd : decide (10 < (pad.size : Int)) = false := by simp; omega
  obtain ⟨S, hS⟩ : ∃ S : ByteArray, S = ⟨(itoa v).toArray⟩ := ⟨_, rfl⟩
  have hSl : S.data.toList = itoa v := by rw [hS]
  have hSz : S.size ≤ 20 := by
    have h1' : S.size = S.data.toList.length := by rw [Array.length_toList]; rfl
    rw [h1', hSl]; exact itoa_len h0 h1
  have TC := fun (W : World) (hW : Below w.heap.size w W) => Text_c 0 v ⟨#[]⟩ .nil none 0 ea W (he.below hW (Nat.le_of_lt hroom)) (htx.below hW (Nat.le_refl _)) ⟨by decide, by decide, trivial, trivial⟩ ⟨h0, h1, trivial, trivial⟩ (Nat.le_refl _) trivial
  rw [show txtV 0 v ⟨#[]⟩ .nil = S by unfold txtV; rw [if_pos (walk_num 0 v (.inl rfl)), hS]; rfl, show VL.nil.len = 0 from rfl] at TC
  have N1 := fun (W : World) (hW : Below w.heap.size w W) => number_l S W (by omega) (hst.below hW (Nat.le_refl _))
  have N2 := fun (W : World) (hW : Below w.heap.size w W) => number_l (⟨#[48]⟩ ++ S) W (by rw [ByteArray.size_append]; show 1 + S.size ≤ _; omega) (hst.below hW (Nat.le_refl _))
  have N3 := fun (W : World) (hW : Below w.heap.size w W) => number_l (⟨#[43]⟩ ++ S) W (by rw [ByteArray.size_append]; show 1 + S.size ≤ _; omega) (hst.below hW (Nat.le_refl _))
  have N4 := fun (W : World) (hW : Below w.heap.size w W) => number_l (S ++ ⟨#[32]⟩) W (by rw [ByteArray.size_append]; show S.size + 1 ≤ _; omega) (hst.below hW (Nat.le_refl _))
  have r1 : refNum S.data.toList = some v := by rw [hSl]; exact refNum_itoa h0 h1
  have r2 : refNum (⟨#[48]⟩ ++ S : ByteArray).data.toList = none := by
    rw [show (⟨#[48]⟩ ++ S : ByteArray).data.toList = 48 :: itoa v by rw [← hSl]; simp]; exact refNum_zero (itoa_ne v)
  have r3 : refNum (⟨#[43]⟩ ++ S : ByteArray).data.toList = none := refNum_bad 43 (by simp) (by decide) (by decide)
  have r4 : refNum (S ++ ⟨#[32]⟩ : ByteArray).data.toList = none := refNum_bad 32 (by simp) (by decide) (by decide)
  simp only [numV, numB, r1, Option.getD_some, Option.isSome_some] at N1
  simp only [numV, numB, r2, Option.getD_none, Option.isSome_none] at N2
  simp only [numV, numB, r3, Option.getD_none, Option.isSome_none] at N3
  simp only [numV, numB, r4, Option.getD_none, Option.isSome_none] at N4
  have RD := fun (W : World) (hW : Below w.heap.size w W) => read_c (⟨#[35]⟩ ++ pad ++ S) ea W (he.below hW (Nat.le_of_lt hroom)) (by rw [ByteArray.size_append, ByteArray.size_append]; show 1 + pad.size + S.size ≤ _; omega)
  have HTC := Lib.hid TC
  have H1 := Lib.hid N1
  have H2 := Lib.hid N2
  have H3 := Lib.hid N3
  have H4 := Lib.hid N4
  have HRD := Lib.hid RD
  have HSL := Lib.hid hSl
  clear TC N1 N2 N3 N4 RD r1 r2 r3 r4 hS hSl he hst htx
  go_enter Tryd.func9, Tryd.ntmps9
  go_wp2_with fail
  refine F.out.mono ?_
  rintro e w2 ⟨rfl, hb2⟩
  have HB2 := Lib.hid hb2
  clear hb2
  go_wp2_with fail
  refine (valI_c v w2).mono ?_
  rintro e w3 ⟨rfl, hw3⟩
  have HB3 := Lib.hid (show Below w.heap.size w w3 by rw [← hw3]; exact HB2.out.alloc HB2.out.size _)
  clear hw3
  go_wp2_with fail
  refine (HTC.out _ HB3.out).mono ?_
  rintro e w4 ⟨rfl, hb4⟩
  have HB4 := Lib.hid (HB3.out.trans (below_le' hb4 HB3.out.size))
  clear hb4
  go_wp2_with fail
  refine (H1.out _ HB4.out).mono ?_
  rintro e w5 ⟨rfl, hb5⟩
  have HB5 := Lib.hid (HB4.out.trans (below_le' hb5 HB4.out.size))
  clear hb5
  go_wp2_with fail
  refine (H2.out _ HB5.out).mono ?_
  rintro e w6 ⟨rfl, hb6⟩
  have HB6 := Lib.hid (HB5.out.trans (below_le' hb6 HB5.out.size))
  clear hb6
  go_wp2_with fail
  refine (H3.out _ HB6.out).mono ?_
  rintro e w7 ⟨rfl, hb7⟩
  have HB7 := Lib.hid (HB6.out.trans (below_le' hb7 HB6.out.size))
  clear hb7
  go_wp2_with fail
  refine (H4.out _ HB7.out).mono ?_
  rintro e w8 ⟨rfl, hb8⟩
  have HB8 := Lib.hid (HB7.out.trans (below_le' hb8 HB7.out.size))
  clear hb8
  go_wp2_with fail
  refine (HRD.out _ HB8.out).mono ?_
  intro e w9 hout
  by_cases hp : pad.size = 0
  · obtain rfl : pad = ⟨#[]⟩ := isEmpty_of.1 hp
    obtain ⟨hb9, ⟨g0, g1, t, A, L, C, rfl⟩ | ⟨hno, k, m, t, A, L, C, T, V, rfl⟩⟩ := read_num (v := v) (by rw [← HSL.out]; simp) hout
    · have HB9 := Lib.hid (HB8.out.trans (below_le' hb9 HB8.out.size))
      clear hb9 hout
      have c0 : decide (-2147483648 ≤ v) = true := by simp; omega
      have c1 : decide (v ≤ 2147483647) = true := by simp; omega
      go_wp2_with fail
      go_returns
      exact ⟨rfl, HB9.out.alloc HB9.out.size _⟩
    · have HB9 := Lib.hid (HB8.out.trans (below_le' hb9 HB8.out.size))
      clear hb9 hout
      by_cases c0 : -2147483648 ≤ v
      · have c1 : decide (v ≤ 2147483647) = false := by simp; omega
        have c0' : decide (-2147483648 ≤ v) = true := by simp; omega
        go_wp2_with fail
        go_returns
        exact ⟨rfl, HB9.out.alloc HB9.out.size _⟩
      · have c0' : decide (-2147483648 ≤ v) = false := by simp; omega
        go_wp2_with fail
        go_returns
        exact ⟨rfl, HB9.out.alloc HB9.out.size _⟩
  · have hpe := isEmpty_of.2 hp
    obtain ⟨k, m, t, A, L, C, ev, rfl, hb9, _⟩ := rdOut_open hout
    have HB9 := Lib.hid (HB8.out.trans (below_le' hb9 HB8.out.size))
    clear hb9 hout
    go_wp2_with fail
    go_returns
    exact ⟨rfl, HB9.out.alloc HB9.out.size _⟩
end Go.Proofs.YtoemnccklakkeaaDoor
