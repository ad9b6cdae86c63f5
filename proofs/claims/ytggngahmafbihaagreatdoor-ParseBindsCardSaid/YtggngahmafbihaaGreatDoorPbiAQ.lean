/- Contracts of the functions that the statement reaches, and the plain mathematics beneath: several texts joined. -/
import Derived.Test.YtggngahmafbihaaGreatDoorPbiAM
namespace Go.Proofs.YtggngahmafbihaaGreatDoor
open Go.RowKit Go.Lib
set_option linter.unusedVariables false

set_option maxRecDepth 100000 in
set_option maxHeartbeats 2000000 in
theorem roles_23 (ln : Int) (s : ByteArray) (k n : Int) (t : ByteArray) (vv : Value) (sa : Option Addr) (m sc : Nat) (w : World) (hm : m ≤ 4096) :
    Calls Tryz.prog 150 #[.agg #[.int .i64 23, .int .i64 ln, .string s, .int .i64 k, .int .i64 n, .string t, vv, .slice sa m sc]] w (RolesOut w 23 m) := by
  obtain ⟨wa, hwa⟩ : ∃ wa, wa = w.alloc (.cells #[.int .i64 23, .int .i64 ln, .string s, .int .i64 k, .int .i64 n, .string t, vv, .slice sa m sc] 31) := ⟨_, rfl⟩
  have hb : Below w.heap.size w wa := by rw [hwa]; exact (Below.refl _ _).alloc (Nat.le_refl _) _
  have hN : NdB wa w.heap.size (.int .i64 23) (.int .i64 ln) (.string s) (.int .i64 k) (.int .i64 n) (.string t) vv (.slice sa m sc) := by rw [hwa]; exact NdB.new _ _ _ _ _ _ _ _ _
  have v0 := hN.c0; have v7 := hN.c7
  rw [hwa] at v0 v7
  have HB := Lib.hid hb
  have HWA := Lib.hid hwa
  clear hb hN hwa
  obtain ⟨i0, hi0, hz0, hz1, hz2⟩ := info_partsN int_info
  obtain ⟨q, hq⟩ : ∃ q : Nat, q = m - 2 := ⟨_, rfl⟩
  have HQ := Lib.hid hq
  have hsz : wa.heap.size ≤ wa.heap.size := Nat.le_refl _
  by_cases hlt : m < 2
  · have h1 : (m : Int) - 2 < 0 := by omega
    have e1 : IntKind.i64.wrap ((m : Int) - 2) = (m : Int) - 2 := IntWalk.i64_in _ (by omega)
    have AC := Lib.hid (fun W => by have h := roll_c 1 q W (by decide) (by omega); rw [show (q : Int) = 0 by omega] at h; exact h)
    have hq4 : q ≤ 4096 := by omega
    have hmx : max ((m : Int) - 2) 0 = 0 := by omega
    clear hq
    go_enter Tryz.func150, Tryz.ntmps150
    go_wp2_with fail
    rw [← HWA.out]
    refine (roll_c 0 2 wa (by decide) (by decide)).mono ?_
    rintro e w2 ⟨v1, rfl, ho, hb2⟩
    have HO := Lib.hid ho
    have HB2 := Lib.hid (HB.out.trans (below_le' hb2 HB.out.size))
    have hw2 : wa.heap.size ≤ w2.heap.size := hb2.size
    clear ho hb2
    go_wp2_with fail
    refine (AC.out w2).mono ?_
    rintro e w3 ⟨v2, rfl, ho2, hb3⟩
    have HB3 := Lib.hid (HB2.out.trans (below_le' hb3 HB2.out.size))
    have HO3 := Lib.hid (own_belowN HO.out hb3)
    have HA := Lib.hid ho2
    have hz3 : wa.heap.size ≤ w3.heap.size := by have := HB3.out.size; have := HO3.out; have := hb3.size; omega
    clear hb3
    rcases ho2.2 with ⟨rfl, hq0⟩ | ⟨g, cap, cur, rfl, hbg, hh, hqc, hcm, hcs, htk⟩
    · clear ho2
      go_wp2_with (at_builtin; refine wpList_append_own_none rfl (.tmp 61) (.tmp 66) 24 rfl wa.heap.size 3 i0 1 Tryz.underlying24 hi0 v1 2 (ints (List.replicate 2 0)) rfl HO3.out rfl ?_)
      go_ret2
      exact ⟨_, ret_tup (c := .nilIface) (by rw [show (rolesP 23 m).2 = decide (2 ≤ m) from rfl, ← le_nat]; rfl), by
        have h := own_lower HO3.out HB.out.size
        have e : (rolesP 23 m).1 = [0, 0] := by rw [show (rolesP 23 m).1 = [0, 0] ++ List.replicate (m - 2) 1 from rfl, ← HQ.out, hq0]; rfl
        rw [e]; exact h, HB3.out⟩
    · clear ho2 hh htk
      go_wp2_with (at_builtin; refine wpList_append_own _ rfl (.tmp 61) (.tmp 66) 24 rfl wa.heap.size 3 i0 (.int .i64 0) 1 8 Tryz.underlying24 hi0 hz0 hz1 hz2 rfl (by decide) v1 2 (ints (List.replicate 2 0)) rfl HO3.out ⟨g, 0, none⟩ q cap (ints (List.replicate q 1)) rfl (by rw [ints_len, List.length_replicate]; omega) (HA.out.cells (g := g) rfl) ?c2 ?c3 ?c4 ?c5 ?c6
                   case c2 => intro u hu; unfold ints at hu; rw [List.mem_map] at hu; obtain ⟨x, _, rfl⟩ := hu; rfl
                   case c3 => unfold maxLen; omega
                   case c4 => omega
                   case c5 => exact hz3
                   intro v' w11 hown' hgrow _
                   have HB11 := Lib.hid (grown_belowN HB3.out HB3.out.size hgrow (fun k hk => Nat.le_trans HB.out.size (own_geN HO3.out k hk)))
                   have HO11 := Lib.hid hown'
                   clear hown' hgrow)
      go_ret2
      exact ⟨_, ret_tup (c := .nilIface) (by rw [show (rolesP 23 m).2 = decide (2 ≤ m) from rfl, ← le_nat]; rfl), by
        have h := own_lower HO11.out HB.out.size
        have e : (rolesP 23 m).1 = [0, 0] ++ List.replicate q 1 := by rw [show (rolesP 23 m).1 = [0, 0] ++ List.replicate (m - 2) 1 from rfl, ← HQ.out]
        rw [e, ints_app, List.length_append, List.length_replicate]; exact h, HB11.out⟩
  · have h1 : (0 : Int) ≤ (m : Int) - 2 := by omega
    have e1 : IntKind.i64.wrap ((m : Int) - 2) = (m : Int) - 2 := IntWalk.i64_in _ (by omega)
    have AC := Lib.hid (fun W => by have h := roll_c 1 q W (by decide) (by omega); rw [show (q : Int) = (m : Int) - 2 by omega] at h; exact h)
    have hq4 : q ≤ 4096 := by omega
    have hmx : max ((m : Int) - 2) 0 = (m : Int) - 2 := by omega
    clear hq
    go_enter Tryz.func150, Tryz.ntmps150
    go_wp2_with fail
    rw [← HWA.out]
    refine (roll_c 0 2 wa (by decide) (by decide)).mono ?_
    rintro e w2 ⟨v1, rfl, ho, hb2⟩
    have HO := Lib.hid ho
    have HB2 := Lib.hid (HB.out.trans (below_le' hb2 HB.out.size))
    have hw2 : wa.heap.size ≤ w2.heap.size := hb2.size
    clear ho hb2
    go_wp2_with fail
    refine (AC.out w2).mono ?_
    rintro e w3 ⟨v2, rfl, ho2, hb3⟩
    have HB3 := Lib.hid (HB2.out.trans (below_le' hb3 HB2.out.size))
    have HO3 := Lib.hid (own_belowN HO.out hb3)
    have HA := Lib.hid ho2
    have hz3 : wa.heap.size ≤ w3.heap.size := by have := HB3.out.size; have := HO3.out; have := hb3.size; omega
    clear hb3
    rcases ho2.2 with ⟨rfl, hq0⟩ | ⟨g, cap, cur, rfl, hbg, hh, hqc, hcm, hcs, htk⟩
    · clear ho2
      go_wp2_with (at_builtin; refine wpList_append_own_none rfl (.tmp 61) (.tmp 66) 24 rfl wa.heap.size 3 i0 1 Tryz.underlying24 hi0 v1 2 (ints (List.replicate 2 0)) rfl HO3.out rfl ?_)
      go_ret2
      exact ⟨_, ret_tup (c := .nilIface) (by rw [show (rolesP 23 m).2 = decide (2 ≤ m) from rfl, ← le_nat]; rfl), by
        have h := own_lower HO3.out HB.out.size
        have e : (rolesP 23 m).1 = [0, 0] := by rw [show (rolesP 23 m).1 = [0, 0] ++ List.replicate (m - 2) 1 from rfl, ← HQ.out, hq0]; rfl
        rw [e]; exact h, HB3.out⟩
    · clear ho2 hh htk
      go_wp2_with (at_builtin; refine wpList_append_own _ rfl (.tmp 61) (.tmp 66) 24 rfl wa.heap.size 3 i0 (.int .i64 0) 1 8 Tryz.underlying24 hi0 hz0 hz1 hz2 rfl (by decide) v1 2 (ints (List.replicate 2 0)) rfl HO3.out ⟨g, 0, none⟩ q cap (ints (List.replicate q 1)) rfl (by rw [ints_len, List.length_replicate]; omega) (HA.out.cells (g := g) rfl) ?d2 ?d3 ?d4 ?d5 ?d6
                   case d2 => intro u hu; unfold ints at hu; rw [List.mem_map] at hu; obtain ⟨x, _, rfl⟩ := hu; rfl
                   case d3 => unfold maxLen; omega
                   case d4 => omega
                   case d5 => exact hz3
                   intro v' w11 hown' hgrow _
                   have HB11 := Lib.hid (grown_belowN HB3.out HB3.out.size hgrow (fun k hk => Nat.le_trans HB.out.size (own_geN HO3.out k hk)))
                   have HO11 := Lib.hid hown'
                   clear hown' hgrow)
      go_ret2
      exact ⟨_, ret_tup (c := .nilIface) (by rw [show (rolesP 23 m).2 = decide (2 ≤ m) from rfl, ← le_nat]; rfl), by
        have h := own_lower HO11.out HB.out.size
        have e : (rolesP 23 m).1 = [0, 0] ++ List.replicate q 1 := by rw [show (rolesP 23 m).1 = [0, 0] ++ List.replicate (m - 2) 1 from rfl, ← HQ.out]
        rw [e, ints_app, List.length_append, List.length_replicate]; exact h, HB11.out⟩

set_option maxRecDepth 100000 in
set_option maxHeartbeats 2000000 in
theorem roles_49 (ln : Int) (s : ByteArray) (k n : Int) (t : ByteArray) (vv : Value) (sa : Option Addr) (m sc : Nat) (w : World) (hm : m ≤ 4096) :
    Calls Tryz.prog 150 #[.agg #[.int .i64 49, .int .i64 ln, .string s, .int .i64 k, .int .i64 n, .string t, vv, .slice sa m sc]] w (RolesOut w 49 m) := by
  obtain ⟨wa, hwa⟩ : ∃ wa, wa = w.alloc (.cells #[.int .i64 49, .int .i64 ln, .string s, .int .i64 k, .int .i64 n, .string t, vv, .slice sa m sc] 31) := ⟨_, rfl⟩
  have hb : Below w.heap.size w wa := by rw [hwa]; exact (Below.refl _ _).alloc (Nat.le_refl _) _
  have hN : NdB wa w.heap.size (.int .i64 49) (.int .i64 ln) (.string s) (.int .i64 k) (.int .i64 n) (.string t) vv (.slice sa m sc) := by rw [hwa]; exact NdB.new _ _ _ _ _ _ _ _ _
  have v0 := hN.c0; have v7 := hN.c7
  rw [hwa] at v0 v7
  have HB := Lib.hid hb
  have HWA := Lib.hid hwa
  clear hb hN hwa
  obtain ⟨i0, hi0, hz0, hz1, hz2⟩ := info_partsN int_info
  obtain ⟨q, hq⟩ : ∃ q : Nat, q = m - 1 := ⟨_, rfl⟩
  have HQ := Lib.hid hq
  have hsz : wa.heap.size ≤ wa.heap.size := Nat.le_refl _
  by_cases hlt : m < 1
  · have h1 : (m : Int) - 1 < 0 := by omega
    have e1 : IntKind.i64.wrap ((m : Int) - 1) = (m : Int) - 1 := IntWalk.i64_in _ (by omega)
    have AC := Lib.hid (fun W => by have h := roll_c 8 q W (by decide) (by omega); rw [show (q : Int) = 0 by omega] at h; exact h)
    have hq4 : q ≤ 4096 := by omega
    have hmx : max ((m : Int) - 1) 0 = 0 := by omega
    clear hq
    go_enter Tryz.func150, Tryz.ntmps150
    go_wp2_with fail
    rw [← HWA.out]
    obtain ⟨w2, hw2⟩ : ∃ w2, w2 = wa.alloc (.cells #[.int .i64 6] 3) := ⟨_, rfl⟩
    have HO := Lib.hid (show w2.ownsRow wa.heap.size 3 1 (.slice (some ⟨w.heap.size + 1, 0, none⟩) 1 1) 1 (ints [6]) by
      rw [hw2]
      have h := own_lit (cs := #[.int .i64 6]) (n := 1) wa (Nat.le_refl _) (by decide) rfl
      have hz : wa.heap.size = w.heap.size + 1 := by rw [HWA.out]; simp
      rw [hz] at h ⊢
      exact h)
    have HB2 := Lib.hid (show Below w.heap.size w w2 by rw [hw2]; exact HB.out.alloc HB.out.size _)
    have hw2z : wa.heap.size ≤ w2.heap.size := by rw [hw2]; simp
    have HW2 := Lib.hid hw2
    rw [← HW2.out]
    clear hw2
    refine (AC.out w2).mono ?_
    rintro e w3 ⟨v2, rfl, ho2, hb3⟩
    have HB3 := Lib.hid (HB2.out.trans (below_le' hb3 HB2.out.size))
    have HO3 := Lib.hid (own_belowN HO.out hb3)
    have HA := Lib.hid ho2
    have hz3 : wa.heap.size ≤ w3.heap.size := by have := HB3.out.size; have := HO3.out; have := hb3.size; omega
    clear hb3
    rcases ho2.2 with ⟨rfl, hq0⟩ | ⟨g, cap, cur, rfl, hbg, hh, hqc, hcm, hcs, htk⟩
    · clear ho2
      go_wp2_with (at_builtin; refine wpList_append_own_none rfl (.tmp 161) (.tmp 166) 24 rfl wa.heap.size 3 i0 1 Tryz.underlying24 hi0 (.slice (some ⟨w.heap.size + 1, 0, none⟩) 1 1) 1 (ints [6]) rfl HO3.out rfl ?_)
      go_ret2
      exact ⟨_, ret_tup (c := .nilIface) (by rw [show (rolesP 49 m).2 = decide (2 ≤ m) from rfl, ← le_nat]; rfl), by
        have h := own_lower HO3.out HB.out.size
        have e : (rolesP 49 m).1 = [6] := by rw [show (rolesP 49 m).1 = [6] ++ List.replicate (m - 1) 8 from rfl, ← HQ.out, hq0]; rfl
        rw [e]; exact h, HB3.out⟩
    · clear ho2 hh htk
      go_wp2_with (at_builtin; refine wpList_append_own _ rfl (.tmp 161) (.tmp 166) 24 rfl wa.heap.size 3 i0 (.int .i64 0) 1 8 Tryz.underlying24 hi0 hz0 hz1 hz2 rfl (by decide) (.slice (some ⟨w.heap.size + 1, 0, none⟩) 1 1) 1 (ints [6]) rfl HO3.out ⟨g, 0, none⟩ q cap (ints (List.replicate q 8)) rfl (by rw [ints_len, List.length_replicate]; omega) (HA.out.cells (g := g) rfl) ?c2 ?c3 ?c4 ?c5 ?c6
                   case c2 => intro u hu; unfold ints at hu; rw [List.mem_map] at hu; obtain ⟨x, _, rfl⟩ := hu; rfl
                   case c3 => unfold maxLen; omega
                   case c4 => omega
                   case c5 => exact hz3
                   intro v' w11 hown' hgrow _
                   have HB11 := Lib.hid (grown_belowN HB3.out HB3.out.size hgrow (fun k hk => Nat.le_trans HB.out.size (own_geN HO3.out k hk)))
                   have HO11 := Lib.hid hown'
                   clear hown' hgrow)
      go_ret2
      exact ⟨_, ret_tup (c := .nilIface) (by rw [show (rolesP 49 m).2 = decide (2 ≤ m) from rfl, ← le_nat]; rfl), by
        have h := own_lower HO11.out HB.out.size
        have e : (rolesP 49 m).1 = [6] ++ List.replicate q 8 := by rw [show (rolesP 49 m).1 = [6] ++ List.replicate (m - 1) 8 from rfl, ← HQ.out]
        rw [e, ints_app, List.length_append, List.length_replicate]; exact h, HB11.out⟩
  · have h1 : (0 : Int) ≤ (m : Int) - 1 := by omega
    have e1 : IntKind.i64.wrap ((m : Int) - 1) = (m : Int) - 1 := IntWalk.i64_in _ (by omega)
    have AC := Lib.hid (fun W => by have h := roll_c 8 q W (by decide) (by omega); rw [show (q : Int) = (m : Int) - 1 by omega] at h; exact h)
    have hq4 : q ≤ 4096 := by omega
    have hmx : max ((m : Int) - 1) 0 = (m : Int) - 1 := by omega
    clear hq
    go_enter Tryz.func150, Tryz.ntmps150
    go_wp2_with fail
    rw [← HWA.out]
    obtain ⟨w2, hw2⟩ : ∃ w2, w2 = wa.alloc (.cells #[.int .i64 6] 3) := ⟨_, rfl⟩
    have HO := Lib.hid (show w2.ownsRow wa.heap.size 3 1 (.slice (some ⟨w.heap.size + 1, 0, none⟩) 1 1) 1 (ints [6]) by
      rw [hw2]
      have h := own_lit (cs := #[.int .i64 6]) (n := 1) wa (Nat.le_refl _) (by decide) rfl
      have hz : wa.heap.size = w.heap.size + 1 := by rw [HWA.out]; simp
      rw [hz] at h ⊢
      exact h)
    have HB2 := Lib.hid (show Below w.heap.size w w2 by rw [hw2]; exact HB.out.alloc HB.out.size _)
    have hw2z : wa.heap.size ≤ w2.heap.size := by rw [hw2]; simp
    have HW2 := Lib.hid hw2
    rw [← HW2.out]
    clear hw2
    refine (AC.out w2).mono ?_
    rintro e w3 ⟨v2, rfl, ho2, hb3⟩
    have HB3 := Lib.hid (HB2.out.trans (below_le' hb3 HB2.out.size))
    have HO3 := Lib.hid (own_belowN HO.out hb3)
    have HA := Lib.hid ho2
    have hz3 : wa.heap.size ≤ w3.heap.size := by have := HB3.out.size; have := HO3.out; have := hb3.size; omega
    clear hb3
    rcases ho2.2 with ⟨rfl, hq0⟩ | ⟨g, cap, cur, rfl, hbg, hh, hqc, hcm, hcs, htk⟩
    · clear ho2
      go_wp2_with (at_builtin; refine wpList_append_own_none rfl (.tmp 161) (.tmp 166) 24 rfl wa.heap.size 3 i0 1 Tryz.underlying24 hi0 (.slice (some ⟨w.heap.size + 1, 0, none⟩) 1 1) 1 (ints [6]) rfl HO3.out rfl ?_)
      go_ret2
      exact ⟨_, ret_tup (c := .nilIface) (by rw [show (rolesP 49 m).2 = decide (2 ≤ m) from rfl, ← le_nat]; rfl), by
        have h := own_lower HO3.out HB.out.size
        have e : (rolesP 49 m).1 = [6] := by rw [show (rolesP 49 m).1 = [6] ++ List.replicate (m - 1) 8 from rfl, ← HQ.out, hq0]; rfl
        rw [e]; exact h, HB3.out⟩
    · clear ho2 hh htk
      go_wp2_with (at_builtin; refine wpList_append_own _ rfl (.tmp 161) (.tmp 166) 24 rfl wa.heap.size 3 i0 (.int .i64 0) 1 8 Tryz.underlying24 hi0 hz0 hz1 hz2 rfl (by decide) (.slice (some ⟨w.heap.size + 1, 0, none⟩) 1 1) 1 (ints [6]) rfl HO3.out ⟨g, 0, none⟩ q cap (ints (List.replicate q 8)) rfl (by rw [ints_len, List.length_replicate]; omega) (HA.out.cells (g := g) rfl) ?d2 ?d3 ?d4 ?d5 ?d6
                   case d2 => intro u hu; unfold ints at hu; rw [List.mem_map] at hu; obtain ⟨x, _, rfl⟩ := hu; rfl
                   case d3 => unfold maxLen; omega
                   case d4 => omega
                   case d5 => exact hz3
                   intro v' w11 hown' hgrow _
                   have HB11 := Lib.hid (grown_belowN HB3.out HB3.out.size hgrow (fun k hk => Nat.le_trans HB.out.size (own_geN HO3.out k hk)))
                   have HO11 := Lib.hid hown'
                   clear hown' hgrow)
      go_ret2
      exact ⟨_, ret_tup (c := .nilIface) (by rw [show (rolesP 49 m).2 = decide (2 ≤ m) from rfl, ← le_nat]; rfl), by
        have h := own_lower HO11.out HB.out.size
        have e : (rolesP 49 m).1 = [6] ++ List.replicate q 8 := by rw [show (rolesP 49 m).1 = [6] ++ List.replicate (m - 1) 8 from rfl, ← HQ.out]
        rw [e, ints_app, List.length_append, List.length_replicate]; exact h, HB11.out⟩
end Go.Proofs.YtggngahmafbihaaGreatDoor
