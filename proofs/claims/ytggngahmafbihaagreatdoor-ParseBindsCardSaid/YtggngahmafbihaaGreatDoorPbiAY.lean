/- Contracts of the functions that the statement reaches, and the plain mathematics beneath: several texts joined. -/
import Derived.Deep.AppendLies
import Derived.Test.YtggngahmafbihaaGreatDoorPbiAM
namespace Go.Proofs.YtggngahmafbihaaGreatDoor
open Go.RowKit Go.Lib
set_option linter.unusedVariables false

set_option maxRecDepth 100000 in
set_option maxHeartbeats 2000000 in
theorem roles_28s (ln : Int) (s : ByteArray) (k n : Int) (t : ByteArray) (vv : Value) (sa : Option Addr) (m sc : Nat) (w : World) (hm : m < 2) :
    Calls Tryz.prog 150 #[.agg #[.int .i64 28, .int .i64 ln, .string s, .int .i64 k, .int .i64 n, .string t, vv, .slice sa m sc]] w (RolesOut w 28 m) := by
  obtain ⟨wa, hwa⟩ : ∃ wa, wa = w.alloc (.cells #[.int .i64 28, .int .i64 ln, .string s, .int .i64 k, .int .i64 n, .string t, vv, .slice sa m sc] 31) := ⟨_, rfl⟩
  have hb : Below w.heap.size w wa := by rw [hwa]; exact (Below.refl _ _).alloc (Nat.le_refl _) _
  have hN : NdB wa w.heap.size (.int .i64 28) (.int .i64 ln) (.string s) (.int .i64 k) (.int .i64 n) (.string t) vv (.slice sa m sc) := by rw [hwa]; exact NdB.new _ _ _ _ _ _ _ _ _
  have v0 := hN.c0; have v7 := hN.c7
  rw [hwa] at v0 v7
  have HB := Lib.hid hb
  have HWA := Lib.hid hwa
  clear hb hN hwa
  obtain ⟨i0, hi0, hz0, hz1, hz2⟩ := info_partsN int_info
  have HR := Lib.hid (show rolesP 28 m = ([0], false) by
    have : m = 0 ∨ m = 1 := by omega
    rcases this with rfl | rfl <;> rfl)
  have h1 : (m : Int) - 1 ≤ 0 := by omega
  have e1 : IntKind.i64.wrap ((m : Int) - 1) = (m : Int) - 1 := IntWalk.i64_in _ (by omega)
  have g1 : ¬ ((1 : Int) < (m : Int)) := by omega
  have g2 : ¬ ((2 : Int) ≤ (m : Int)) := by omega
  have g3 : (m : Int) - 1 = 0 ∨ (m : Int) - 1 = -1 := by omega
  have AC := Lib.hid (fun W => roll_c 3 0 W (by decide) (by decide))
  rcases g3 with g3 | g3
  · go_enter Tryz.func150, Tryz.ntmps150
    go_wp2_with fail
    rw [← HWA.out]
    refine (AC.out wa).mono ?_
    rintro e w2 ⟨v1, rfl, ho, hb2⟩
    have HO := Lib.hid ho
    have HB2 := Lib.hid (HB.out.trans (below_le' hb2 HB.out.size))
    have hw2 : wa.heap.size ≤ w2.heap.size := hb2.size
    clear ho hb2
    go_wp2_with (at_builtin; refine wpList_append_own _ rfl (.tmp 94) (.tmp 95) 24 rfl wa.heap.size 3 i0 (.int .i64 0) 1 8 Tryz.underlying24 hi0 hz0 hz1 hz2 rfl (by decide) v1 0 (ints (List.replicate 0 3)) rfl (own_belowN HO.out ((Below.refl _ _).alloc (Nat.le_refl _) _)) ⟨w2.heap.size, 0, none⟩ 1 1 [.int .i64 0] rfl rfl ?c1 ?c2 ?c3 ?c4 ?c5 ?c6
                 case c1 => exact cell_one_new _ _ _
                 case c2 => intro u hu; simp at hu; subst hu; rfl
                 case c3 => decide
                 case c4 => decide
                 case c5 => simp; omega
                 intro v' w11 hown' hgrow _
                 have HB11 := Lib.hid (grown_belowN (HB2.out.alloc HB2.out.size _) (by have := HB2.out.size; simp; omega) hgrow (fun k hk => Nat.le_trans HB.out.size (own_geN HO.out k hk)))
                 have HO11 := Lib.hid hown'
                 clear hown' hgrow)
    go_ret2
    rw [show RolesOut w 28 m = RolesOut w 28 m from rfl]
    refine ⟨v', ?_, ?_, HB11.out⟩
    · rw [HR.out]; exact ret_tup (c := .nilIface) (by first | rfl | simp [g2])
    · rw [HR.out]; exact own_lower HO11.out HB.out.size
  · go_enter Tryz.func150, Tryz.ntmps150
    go_wp2_with fail
    rw [← HWA.out]
    refine (AC.out wa).mono ?_
    rintro e w2 ⟨v1, rfl, ho, hb2⟩
    have HO := Lib.hid ho
    have HB2 := Lib.hid (HB.out.trans (below_le' hb2 HB.out.size))
    have hw2 : wa.heap.size ≤ w2.heap.size := hb2.size
    clear ho hb2
    go_wp2_with (at_builtin; refine wpList_append_own _ rfl (.tmp 94) (.tmp 95) 24 rfl wa.heap.size 3 i0 (.int .i64 0) 1 8 Tryz.underlying24 hi0 hz0 hz1 hz2 rfl (by decide) v1 0 (ints (List.replicate 0 3)) rfl (own_belowN HO.out ((Below.refl _ _).alloc (Nat.le_refl _) _)) ⟨w2.heap.size, 0, none⟩ 1 1 [.int .i64 0] rfl rfl ?d1 ?d2 ?d3 ?d4 ?d5 ?d6
                 case d1 => exact cell_one_new _ _ _
                 case d2 => intro u hu; simp at hu; subst hu; rfl
                 case d3 => decide
                 case d4 => decide
                 case d5 => simp; omega
                 intro v' w11 hown' hgrow _
                 have HB11 := Lib.hid (grown_belowN (HB2.out.alloc HB2.out.size _) (by have := HB2.out.size; simp; omega) hgrow (fun k hk => Nat.le_trans HB.out.size (own_geN HO.out k hk)))
                 have HO11 := Lib.hid hown'
                 clear hown' hgrow)
    go_ret2
    refine ⟨v', ?_, ?_, HB11.out⟩
    · rw [HR.out]; exact ret_tup (c := .nilIface) (by first | rfl | simp [g2])
    · rw [HR.out]; exact own_lower HO11.out HB.out.size

theorem rep_set (j : Nat) : (ints (List.replicate (j + 1) 3)).set j (.int .i64 4) = ints (List.replicate j 3 ++ [4]) := by
  rw [List.replicate_succ', ints_app, ints_app, List.set_append_right _ _ (by rw [ints_len, List.length_replicate]; exact Nat.le_refl _), ints_len, List.length_replicate, Nat.sub_self]
  rfl

set_option maxRecDepth 100000 in
set_option maxHeartbeats 2000000 in
theorem roles_28b (ln : Int) (s : ByteArray) (k n : Int) (t : ByteArray) (vv : Value) (sa : Option Addr) (m sc : Nat) (w : World) (hm : m ≤ 4096) (hm2 : 2 ≤ m) :
    Calls Tryz.prog 150 #[.agg #[.int .i64 28, .int .i64 ln, .string s, .int .i64 k, .int .i64 n, .string t, vv, .slice sa m sc]] w (RolesOut w 28 m) := by
  obtain ⟨wa, hwa⟩ : ∃ wa, wa = w.alloc (.cells #[.int .i64 28, .int .i64 ln, .string s, .int .i64 k, .int .i64 n, .string t, vv, .slice sa m sc] 31) := ⟨_, rfl⟩
  have hb : Below w.heap.size w wa := by rw [hwa]; exact (Below.refl _ _).alloc (Nat.le_refl _) _
  have hN : NdB wa w.heap.size (.int .i64 28) (.int .i64 ln) (.string s) (.int .i64 k) (.int .i64 n) (.string t) vv (.slice sa m sc) := by rw [hwa]; exact NdB.new _ _ _ _ _ _ _ _ _
  have v0 := hN.c0; have v7 := hN.c7
  rw [hwa] at v0 v7
  have HB := Lib.hid hb
  have HWA := Lib.hid hwa
  clear hb hN hwa
  obtain ⟨i0, hi0, hz0, hz1, hz2⟩ := info_partsN int_info
  obtain ⟨j, hj⟩ : ∃ j : Nat, m = j + 2 := ⟨m - 2, by omega⟩
  have HR := Lib.hid (show rolesP 28 m = (List.replicate j 3 ++ [4] ++ [0], true) by
    have h1 : (rolesP 28 m).1 = (List.replicate (m - 2) 3 ++ (if 1 < m then [4] else [])) ++ [0] := rfl
    have h2 : (rolesP 28 m).2 = decide (2 ≤ m) := rfl
    rw [if_pos (by omega), show m - 2 = j by omega] at h1
    rw [decide_eq_true hm2] at h2
    rw [← h1, ← h2])
  have h1 : (m : Int) - 1 = ((j + 1 : Nat) : Int) := by omega
  have h0 : (0 : Int) ≤ ((j + 1 : Nat) : Int) := by omega
  have h2 : (m : Int) - 2 = (j : Int) := by omega
  have e1 : IntKind.i64.wrap ((m : Int) - 1) = ((j + 1 : Nat) : Int) := by rw [h1]; exact IntWalk.i64_in _ (by omega)
  have e2 : IntKind.i64.wrap ((m : Int) - 2) = (j : Int) := by rw [h2]; exact IntWalk.i64_in _ (by omega)
  have g1 : (1 : Int) < (m : Int) := by omega
  have g2 : (2 : Int) ≤ (m : Int) := by omega
  have g4 : j < j + 1 := by omega
  have hmx : max ((j + 1 : Nat) : Int) 0 = ((j + 1 : Nat) : Int) := by omega
  have hmx2 : max ((j : Int) + 1) 0 = (j : Int) + 1 := by omega
  have AC := Lib.hid (fun W => roll_c 3 (j + 1) W (by decide) (by omega))
  have hj4 : j ≤ 4096 := by omega
  clear h1 h2 hj
  go_enter Tryz.func150, Tryz.ntmps150
  go_wp2_with fail
  rw [← HWA.out]
  refine (AC.out wa).mono ?_
  rintro e w2 ⟨v1, rfl, ho, hb2⟩
  obtain ⟨g, cap, hv, hbg, hlt⟩ := ho.form (by omega)
  subst hv
  have HO := Lib.hid ho
  have HB2 := Lib.hid (HB.out.trans (below_le' hb2 HB.out.size))
  have hw2 : wa.heap.size ≤ w2.heap.size := hb2.size
  have f0 := ho.frozenAt j
  have c0 : w2.cell? ⟨g, j, none⟩ = some (.int .i64 3) := by rw [ho.cellAt j (by omega)]; simp [ints]
  have hst := ho.stored j (.int .i64 4)
  rw [rep_set] at hst
  have HS := Lib.hid hst
  clear ho hb2 hst
  go_wp2_with (at_builtin; refine wpList_append_own _ rfl (.tmp 94) (.tmp 95) 24 rfl wa.heap.size 3 i0 (.int .i64 0) 1 8 Tryz.underlying24 hi0 hz0 hz1 hz2 rfl (by decide) (.slice (some ⟨g, 0, none⟩) (j + 1) cap) (j + 1) (ints (List.replicate j 3 ++ [4])) rfl (own_belowN HS.out.1 ((Below.refl _ _).alloc (Nat.le_refl _) _)) ⟨w2.heap.size, 0, none⟩ 1 1 [.int .i64 0] rfl rfl ?c1 ?c2 ?c3 ?c4 ?c5 ?c6
               case c1 => have h := cell_one_new (w2.setCell ⟨g, j, none⟩ (.int .i64 4)) (.int .i64 0) 3; rw [show (w2.setCell ⟨g, j, none⟩ (.int .i64 4)).heap.size = w2.heap.size by simp [World.setCell]] at h; exact h
               case c2 => intro u hu; simp at hu; subst hu; rfl
               case c3 => unfold maxLen; omega
               case c4 => omega
               case c5 => have := HS.out.2.size; simp at this ⊢; omega
               intro v' w11 hown' hgrow _
               have hb3 := grown_belowN HB2.out HB2.out.size HS.out.2 (fun k hk => by injection hk with hk; subst hk; have := HB.out.size; show w.heap.size ≤ g; omega)
               have HB11 := Lib.hid (grown_belowN (hb3.alloc hb3.size _) (by have := hb3.size; simp at this ⊢; omega) hgrow (fun k hk => by injection hk with hk; subst hk; have := HB.out.size; show w.heap.size ≤ g; omega))
               have HO11 := Lib.hid hown'
               clear hown' hgrow hb3)
  go_ret2
  refine ⟨v', ?_, ?_, HB11.out⟩
  · rw [HR.out]; exact ret_tup (c := .nilIface) (by first | rfl | simp [g2])
  · rw [HR.out]
    have h := own_lower HO11.out HB.out.size
    rw [show ints (List.replicate j 3 ++ [4] ++ [0]) = ints (List.replicate j 3 ++ [4]) ++ [.int .i64 0] from ints_app _ _]
    simpa using h

theorem roles_28 (ln : Int) (s : ByteArray) (k n : Int) (t : ByteArray) (vv : Value) (sa : Option Addr) (m sc : Nat) (w : World) (hm : m ≤ 4096) :
    Calls Tryz.prog 150 #[.agg #[.int .i64 28, .int .i64 ln, .string s, .int .i64 k, .int .i64 n, .string t, vv, .slice sa m sc]] w (RolesOut w 28 m) := by
  by_cases h : m < 2
  · exact roles_28s ln s k n t vv sa m sc w h
  · exact roles_28b ln s k n t vv sa m sc w hm (by omega)
end Go.Proofs.YtggngahmafbihaaGreatDoor
