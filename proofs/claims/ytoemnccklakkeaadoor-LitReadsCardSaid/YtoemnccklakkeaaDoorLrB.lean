/-
  The reference's reader: signed, and the small makers of values.
-/
import Derived.Test.YtoemnccklakkeaaDoorLrA
import Derived.Handy
namespace Go.Proofs.YtoemnccklakkeaaDoor
open Go.RowKit Go.Lib
set_option linter.unusedVariables false

/-- A number with a sign perhaps, as the reference has it. -/
def sgnSp (s : ByteArray) (lo hi i : Nat) : Nat × Bool × Int :=
  if pk s i = 45 then ((digSp s lo true (i + 1)).1, (digSp s lo true (i + 1)).2.1, digV true (digSp s lo true (i + 1)))
  else ((digSp s hi false i).1, (digSp s hi false i).2.1, digV false (digSp s hi false i))

set_option maxRecDepth 100000 in
set_option maxHeartbeats 2000000 in
theorem signed_c (R : Nat) (s : ByteArray) (i lo hi : Nat) (w : World) (h : RrAt w R s i) (hs : s.size ≤ 1000000000) (hi' : i ≤ s.size) (h9 : 9 ≤ lo ∧ 9 ≤ hi) (hlo : lo ≤ 9223372036854775808) (hhi : hi ≤ 9223372036854775807) :
    Calls Tryd.prog 66 #[.pointer (some ⟨R, 0, none⟩), .int .u64 lo, .int .u64 hi] w fun e w' =>
      e = .returned (.tuple #[.int .i64 (sgnSp s lo hi i).2.2, .bool (sgnSp s lo hi i).2.1]) ∧ Rrs w w' R s (sgnSp s lo hi i).1 := by
  have c0 := h.c0
  have c1 := h.c1
  have e1 := h.fr 1
  have HH := Lib.hid h
  by_cases h45 : pk s i = 45
  · have hlt : i < s.size := pk_lt (by rw [h45]; decide)
    have HSP := Lib.hid (show sgnSp s lo hi i = ((digSp s lo true (i + 1)).1, (digSp s lo true (i + 1)).2.1, digV true (digSp s lo true (i + 1))) by unfold sgnSp; rw [if_pos h45])
    have DC := Lib.hid (fun W hW => digits_c R s (i + 1) true lo W hW hs (by omega) h9.1 hlo (fun h => by cases h))
    have t1 : decide ((i : Int) < (s.size : Int)) = true := by rw [decide_eq_true_eq]; omega
    have t2 : ((s[i].toNat : Int) == 45) = true := by rw [← pk_in s i hlt, h45]; rfl
    clear h45 h9 hlo hhi h
    go_enter Tryd.func66, Tryd.ntmps66
    go_wp2_with fail
    go_quiet (fail)
    go_wp2_with fail
    refine (DC.out _ (by first | exact (HH.out.drewN _).set1 (i + 1) | exact (HH.out.set1 (i + 1)).drewN _)).mono ?_
    rintro e w2 ⟨rfl, hr2⟩
    have HR2 := Lib.hid (Rrs.trans (by first | exact ((Rrs.of HH.out).drewN _).set1 (i + 1) | exact ((Rrs.of HH.out).set1 (i + 1)).drewN _) hr2)
    clear hr2
    go_wp2_with fail
    go_returns
    rw [HSP.out]
    exact ⟨rfl, HR2.out⟩
  · have HSP := Lib.hid (show sgnSp s lo hi i = ((digSp s hi false i).1, (digSp s hi false i).2.1, digV false (digSp s hi false i)) by unfold sgnSp; rw [if_neg h45])
    have DC := Lib.hid (fun W hW => digits_c R s i false hi W hW hs hi' h9.2 (by omega) (fun _ => hhi))
    by_cases hlt : i < s.size
    · have t1 : decide ((i : Int) < (s.size : Int)) = true := by rw [decide_eq_true_eq]; omega
      have t2 : ((s[i].toNat : Int) == 45) = false := by
        rw [← pk_in s i hlt, beq_eq_false_iff_ne]
        intro e; exact h45 (UInt8.toNat_inj.1 (by show (pk s i).toNat = 45; omega))
      clear h45 h9 hlo hhi h
      go_enter Tryd.func66, Tryd.ntmps66
      go_wp2_with fail
      go_quiet (fail)
      go_wp2_with fail
      refine (DC.out _ (HH.out.drewN _)).mono ?_
      rintro e w2 ⟨rfl, hr2⟩
      have HR2 := Lib.hid (Rrs.trans ((Rrs.of HH.out).drewN _) hr2)
      clear hr2
      go_wp2_with fail
      go_returns
      rw [HSP.out]
      exact ⟨rfl, HR2.out⟩
    · have t1 : decide ((i : Int) < (s.size : Int)) = false := by rw [decide_eq_false_iff_not]; omega
      have t3 : decide (i < s.size) = false := by rw [decide_eq_false_iff_not]; omega
      clear h45 h9 hlo hhi h hlt
      go_enter Tryd.func66, Tryd.ntmps66
      go_wp2_with fail
      go_quiet (fail)
      go_wp2_with fail
      refine (DC.out _ (HH.out.drewN _)).mono ?_
      rintro e w2 ⟨rfl, hr2⟩
      have HR2 := Lib.hid (Rrs.trans ((Rrs.of HH.out).drewN _) hr2)
      clear hr2
      go_wp2_with fail
      go_returns
      rw [HSP.out]
      exact ⟨rfl, HR2.out⟩

theorem refI_c (n : Int) (w : World) : Calls Tryd.prog 67 #[.int .i64 n] w fun e w' => e = .returned (.agg #[.int .i64 0, .int .i64 n, .string ⟨#[]⟩, .slice none 0 0]) ∧ w.alloc (.cells #[.int .i64 0, .int .i64 n, .string ⟨#[]⟩, .slice none 0 0] 31) = w' := by
  go_enter Tryd.func67, Tryd.ntmps67
  go_wp2
  go_returns
  exact ⟨rfl, rfl⟩
theorem refE_c (n : Int) (w : World) : Calls Tryd.prog 91 #[.int .i64 n] w fun e w' => e = .returned (.agg #[.int .i64 3, .int .i64 n, .string ⟨#[]⟩, .slice none 0 0]) ∧ w.alloc (.cells #[.int .i64 3, .int .i64 n, .string ⟨#[]⟩, .slice none 0 0] 31) = w' := by
  go_enter Tryd.func91, Tryd.ntmps91
  go_wp2
  go_returns
  exact ⟨rfl, rfl⟩
theorem refS_c (t : ByteArray) (w : World) : Calls Tryd.prog 90 #[.string t] w fun e w' => e = .returned (.agg #[.int .i64 2, .int .i64 0, .string t, .slice none 0 0]) ∧ w.alloc (.cells #[.int .i64 2, .int .i64 0, .string t, .slice none 0 0] 31) = w' := by
  go_enter Tryd.func90, Tryd.ntmps90
  go_wp2
  go_returns
  exact ⟨rfl, rfl⟩
end Go.Proofs.YtoemnccklakkeaaDoor
