/- Contracts of the functions that the statement reaches, and the plain mathematics beneath: several texts joined. -/
import Derived.Test.YtggngahmafbihaaGreatDoorPwyO
import Derived.Deep.AppendLies
import Derived.Deep.DeepCutAuto
import Derived.Test.YtggngahmafbihaaGreatDoorPwyD
import Derived.Test.YtggngahmafbihaaGreatDoorPwyA
import Derived.Test.YtggngahmafbihaaGreatDoorPwyB
import Derived.Test.YtggngahmafbihaaGreatDoorPwyC
import Derived.Test.YtggngahmafbihaaGreatDoorPwyE
import Derived.Test.YtggngahmafbihaaGreatDoorPwyF
import Derived.Test.YtggngahmafbihaaGreatDoorPwyG
import Derived.Test.YtggngahmafbihaaGreatDoorPwyH
import Derived.Test.YtggngahmafbihaaGreatDoorPwyI
import Derived.Test.YtggngahmafbihaaGreatDoorPwyJ
import Derived.Test.YtggngahmafbihaaGreatDoorPwyK
import Derived.Test.YtggngahmafbihaaGreatDoorPwyL
import Derived.Test.YtggngahmafbihaaGreatDoorPwyM
import Derived.Test.YtggngahmafbihaaGreatDoorPwyN
namespace Go.Proofs.YtggngahmafbihaaGreatDoor
open Go.RowKit Go.Lib
set_option linter.unusedVariables false

set_option maxRecDepth 100000 in
set_option maxHeartbeats 2000000 in
theorem roles_27 (ln : Int) (s : ByteArray) (k n : Int) (t : ByteArray) (vv : Value) (sa : Option Addr) (m sc : Nat) (w : World) (hm : m ≤ 4096) :
    Calls Tryz.prog 150 #[.agg #[.int .i64 27, .int .i64 ln, .string s, .int .i64 k, .int .i64 n, .string t, vv, .slice sa m sc]] w (RolesOut w 27 m) := by
  obtain ⟨wa, hwa⟩ : ∃ wa, wa = w.alloc (.cells #[.int .i64 27, .int .i64 ln, .string s, .int .i64 k, .int .i64 n, .string t, vv, .slice sa m sc] 31) := ⟨_, rfl⟩
  have hb : Below w.heap.size w wa := by rw [hwa]; exact (Below.refl _ _).alloc (Nat.le_refl _) _
  have hN : NdB wa w.heap.size (.int .i64 27) (.int .i64 ln) (.string s) (.int .i64 k) (.int .i64 n) (.string t) vv (.slice sa m sc) := by rw [hwa]; exact NdB.new _ _ _ _ _ _ _ _ _
  have v0 := hN.c0; have v7 := hN.c7
  rw [hwa] at v0 v7
  have HB := Lib.hid hb
  have HWA := Lib.hid hwa
  clear hb hN hwa
  go_enter Tryz.func150, Tryz.ntmps150
  go_wp2_with fail
  rw [← HWA.out]
  go_ret2
  refine ⟨_, ret_tup (c := .nilIface) (by rw [show (2 : Int) = ((2 : Nat) : Int) from rfl, eq_nat]; rfl), ?_, HB.out.alloc HB.out.size _⟩
  have h := own_lit (cs := #[.int .i64 2, .int .i64 0]) (n := 2) wa HB.out.size (by decide) rfl
  have hz : wa.heap.size = w.heap.size + 1 := by rw [HWA.out]; simp
  rw [hz] at h
  exact h

set_option maxRecDepth 100000 in
set_option maxHeartbeats 2000000 in
theorem roles_42 (ln : Int) (s : ByteArray) (k n : Int) (t : ByteArray) (vv : Value) (sa : Option Addr) (m sc : Nat) (w : World) (hm : m ≤ 4096) :
    Calls Tryz.prog 150 #[.agg #[.int .i64 42, .int .i64 ln, .string s, .int .i64 k, .int .i64 n, .string t, vv, .slice sa m sc]] w (RolesOut w 42 m) := by
  obtain ⟨wa, hwa⟩ : ∃ wa, wa = w.alloc (.cells #[.int .i64 42, .int .i64 ln, .string s, .int .i64 k, .int .i64 n, .string t, vv, .slice sa m sc] 31) := ⟨_, rfl⟩
  have hb : Below w.heap.size w wa := by rw [hwa]; exact (Below.refl _ _).alloc (Nat.le_refl _) _
  have hN : NdB wa w.heap.size (.int .i64 42) (.int .i64 ln) (.string s) (.int .i64 k) (.int .i64 n) (.string t) vv (.slice sa m sc) := by rw [hwa]; exact NdB.new _ _ _ _ _ _ _ _ _
  have v0 := hN.c0; have v7 := hN.c7
  rw [hwa] at v0 v7
  have HB := Lib.hid hb
  have HWA := Lib.hid hwa
  clear hb hN hwa
  go_enter Tryz.func150, Tryz.ntmps150
  go_wp2_with fail
  rw [← HWA.out]
  go_ret2
  refine ⟨_, ret_tup (c := .nilIface) (by rw [show (2 : Int) = ((2 : Nat) : Int) from rfl, eq_nat]; rfl), ?_, HB.out.alloc HB.out.size _⟩
  have h := own_lit (cs := #[.int .i64 0, .int .i64 6]) (n := 2) wa HB.out.size (by decide) rfl
  have hz : wa.heap.size = w.heap.size + 1 := by rw [HWA.out]; simp
  rw [hz] at h
  exact h

set_option maxRecDepth 100000 in
set_option maxHeartbeats 2000000 in
theorem roles_44 (ln : Int) (s : ByteArray) (k n : Int) (t : ByteArray) (vv : Value) (sa : Option Addr) (m sc : Nat) (w : World) (hm : m ≤ 4096) :
    Calls Tryz.prog 150 #[.agg #[.int .i64 44, .int .i64 ln, .string s, .int .i64 k, .int .i64 n, .string t, vv, .slice sa m sc]] w (RolesOut w 44 m) := by
  obtain ⟨wa, hwa⟩ : ∃ wa, wa = w.alloc (.cells #[.int .i64 44, .int .i64 ln, .string s, .int .i64 k, .int .i64 n, .string t, vv, .slice sa m sc] 31) := ⟨_, rfl⟩
  have hb : Below w.heap.size w wa := by rw [hwa]; exact (Below.refl _ _).alloc (Nat.le_refl _) _
  have hN : NdB wa w.heap.size (.int .i64 44) (.int .i64 ln) (.string s) (.int .i64 k) (.int .i64 n) (.string t) vv (.slice sa m sc) := by rw [hwa]; exact NdB.new _ _ _ _ _ _ _ _ _
  have v0 := hN.c0; have v7 := hN.c7
  rw [hwa] at v0 v7
  have HB := Lib.hid hb
  have HWA := Lib.hid hwa
  clear hb hN hwa
  go_enter Tryz.func150, Tryz.ntmps150
  go_wp2_with fail
  rw [← HWA.out]
  go_ret2
  refine ⟨_, ret_tup (c := .nilIface) (by rw [show (2 : Int) = ((2 : Nat) : Int) from rfl, eq_nat]; rfl), ?_, HB.out.alloc HB.out.size _⟩
  have h := own_lit (cs := #[.int .i64 0, .int .i64 6]) (n := 2) wa HB.out.size (by decide) rfl
  have hz : wa.heap.size = w.heap.size + 1 := by rw [HWA.out]; simp
  rw [hz] at h
  exact h

set_option maxRecDepth 100000 in
set_option maxHeartbeats 2000000 in
theorem roles_48 (ln : Int) (s : ByteArray) (k n : Int) (t : ByteArray) (vv : Value) (sa : Option Addr) (m sc : Nat) (w : World) (hm : m ≤ 4096) :
    Calls Tryz.prog 150 #[.agg #[.int .i64 48, .int .i64 ln, .string s, .int .i64 k, .int .i64 n, .string t, vv, .slice sa m sc]] w (RolesOut w 48 m) := by
  obtain ⟨wa, hwa⟩ : ∃ wa, wa = w.alloc (.cells #[.int .i64 48, .int .i64 ln, .string s, .int .i64 k, .int .i64 n, .string t, vv, .slice sa m sc] 31) := ⟨_, rfl⟩
  have hb : Below w.heap.size w wa := by rw [hwa]; exact (Below.refl _ _).alloc (Nat.le_refl _) _
  have hN : NdB wa w.heap.size (.int .i64 48) (.int .i64 ln) (.string s) (.int .i64 k) (.int .i64 n) (.string t) vv (.slice sa m sc) := by rw [hwa]; exact NdB.new _ _ _ _ _ _ _ _ _
  have v0 := hN.c0; have v7 := hN.c7
  rw [hwa] at v0 v7
  have HB := Lib.hid hb
  have HWA := Lib.hid hwa
  clear hb hN hwa
  go_enter Tryz.func150, Tryz.ntmps150
  go_wp2_with fail
  rw [← HWA.out]
  go_ret2
  refine ⟨_, ret_tup (c := .nilIface) (by rw [show (2 : Int) = ((2 : Nat) : Int) from rfl, eq_nat]; rfl), ?_, HB.out.alloc HB.out.size _⟩
  have h := own_lit (cs := #[.int .i64 0, .int .i64 6]) (n := 2) wa HB.out.size (by decide) rfl
  have hz : wa.heap.size = w.heap.size + 1 := by rw [HWA.out]; simp
  rw [hz] at h
  exact h

set_option maxRecDepth 100000 in
set_option maxHeartbeats 2000000 in
theorem roles_43 (ln : Int) (s : ByteArray) (k n : Int) (t : ByteArray) (vv : Value) (sa : Option Addr) (m sc : Nat) (w : World) (hm : m ≤ 4096) :
    Calls Tryz.prog 150 #[.agg #[.int .i64 43, .int .i64 ln, .string s, .int .i64 k, .int .i64 n, .string t, vv, .slice sa m sc]] w (RolesOut w 43 m) := by
  obtain ⟨wa, hwa⟩ : ∃ wa, wa = w.alloc (.cells #[.int .i64 43, .int .i64 ln, .string s, .int .i64 k, .int .i64 n, .string t, vv, .slice sa m sc] 31) := ⟨_, rfl⟩
  have hb : Below w.heap.size w wa := by rw [hwa]; exact (Below.refl _ _).alloc (Nat.le_refl _) _
  have hN : NdB wa w.heap.size (.int .i64 43) (.int .i64 ln) (.string s) (.int .i64 k) (.int .i64 n) (.string t) vv (.slice sa m sc) := by rw [hwa]; exact NdB.new _ _ _ _ _ _ _ _ _
  have v0 := hN.c0; have v7 := hN.c7
  rw [hwa] at v0 v7
  have HB := Lib.hid hb
  have HWA := Lib.hid hwa
  clear hb hN hwa
  go_enter Tryz.func150, Tryz.ntmps150
  go_wp2_with fail
  rw [← HWA.out]
  go_ret2
  refine ⟨_, ret_tup (c := .nilIface) (by rw [show (3 : Int) = ((3 : Nat) : Int) from rfl, eq_nat]; rfl), ?_, HB.out.alloc HB.out.size _⟩
  have h := own_lit (cs := #[.int .i64 0, .int .i64 0, .int .i64 6]) (n := 3) wa HB.out.size (by decide) rfl
  have hz : wa.heap.size = w.heap.size + 1 := by rw [HWA.out]; simp
  rw [hz] at h
  exact h

set_option maxRecDepth 100000 in
set_option maxHeartbeats 2000000 in
theorem roles_50 (ln : Int) (s : ByteArray) (k n : Int) (t : ByteArray) (vv : Value) (sa : Option Addr) (m sc : Nat) (w : World) (hm : m ≤ 4096) :
    Calls Tryz.prog 150 #[.agg #[.int .i64 50, .int .i64 ln, .string s, .int .i64 k, .int .i64 n, .string t, vv, .slice sa m sc]] w (RolesOut w 50 m) := by
  obtain ⟨wa, hwa⟩ : ∃ wa, wa = w.alloc (.cells #[.int .i64 50, .int .i64 ln, .string s, .int .i64 k, .int .i64 n, .string t, vv, .slice sa m sc] 31) := ⟨_, rfl⟩
  have hb : Below w.heap.size w wa := by rw [hwa]; exact (Below.refl _ _).alloc (Nat.le_refl _) _
  have hN : NdB wa w.heap.size (.int .i64 50) (.int .i64 ln) (.string s) (.int .i64 k) (.int .i64 n) (.string t) vv (.slice sa m sc) := by rw [hwa]; exact NdB.new _ _ _ _ _ _ _ _ _
  have v0 := hN.c0; have v7 := hN.c7
  rw [hwa] at v0 v7
  have HB := Lib.hid hb
  have HWA := Lib.hid hwa
  clear hb hN hwa
  go_enter Tryz.func150, Tryz.ntmps150
  go_wp2_with fail
  rw [← HWA.out]
  go_ret2
  refine ⟨_, ret_tup (c := .nilIface) (by rw [show (2 : Int) = ((2 : Nat) : Int) from rfl, eq_nat]; rfl), ?_, HB.out.alloc HB.out.size _⟩
  have h := own_lit (cs := #[.int .i64 5, .int .i64 6]) (n := 2) wa HB.out.size (by decide) rfl
  have hz : wa.heap.size = w.heap.size + 1 := by rw [HWA.out]; simp
  rw [hz] at h
  exact h

set_option maxRecDepth 100000 in
set_option maxHeartbeats 2000000 in
theorem roles_51 (ln : Int) (s : ByteArray) (k n : Int) (t : ByteArray) (vv : Value) (sa : Option Addr) (m sc : Nat) (w : World) (hm : m ≤ 4096) :
    Calls Tryz.prog 150 #[.agg #[.int .i64 51, .int .i64 ln, .string s, .int .i64 k, .int .i64 n, .string t, vv, .slice sa m sc]] w (RolesOut w 51 m) := by
  obtain ⟨wa, hwa⟩ : ∃ wa, wa = w.alloc (.cells #[.int .i64 51, .int .i64 ln, .string s, .int .i64 k, .int .i64 n, .string t, vv, .slice sa m sc] 31) := ⟨_, rfl⟩
  have hb : Below w.heap.size w wa := by rw [hwa]; exact (Below.refl _ _).alloc (Nat.le_refl _) _
  have hN : NdB wa w.heap.size (.int .i64 51) (.int .i64 ln) (.string s) (.int .i64 k) (.int .i64 n) (.string t) vv (.slice sa m sc) := by rw [hwa]; exact NdB.new _ _ _ _ _ _ _ _ _
  have v0 := hN.c0; have v7 := hN.c7
  rw [hwa] at v0 v7
  have HB := Lib.hid hb
  have HWA := Lib.hid hwa
  clear hb hN hwa
  go_enter Tryz.func150, Tryz.ntmps150
  go_wp2_with fail
  rw [← HWA.out]
  go_ret2
  refine ⟨_, ret_tup (c := .nilIface) (by rw [show (2 : Int) = ((2 : Nat) : Int) from rfl, eq_nat]; rfl), ?_, HB.out.alloc HB.out.size _⟩
  have h := own_lit (cs := #[.int .i64 6, .int .i64 6]) (n := 2) wa HB.out.size (by decide) rfl
  have hz : wa.heap.size = w.heap.size + 1 := by rw [HWA.out]; simp
  rw [hz] at h
  exact h
end Go.Proofs.YtggngahmafbihaaGreatDoor
namespace Go.Proofs.YtggngahmafbihaaGreatDoor
open Go.RowKit Go.Lib
set_option linter.unusedVariables false

set_option maxRecDepth 100000 in
set_option maxHeartbeats 2000000 in
theorem roles_23 (ln : Int) (s : ByteArray) (k n : Int) (t : ByteArray) (vv : Value) (sa : Option Addr) (m sc : Nat) (w : World) (hm : m ≤ 4096) :
    Calls Tryz.prog 150 #[.agg #[.int .i64 23, .int .i64 ln, .string s, .int .i64 k, .int .i64 n, .string t, vv, .slice sa m sc]] w (RolesOut w 23 m) := by
  obtain ⟨wa, hwa⟩ : ∃ wa, wa = w.alloc (.cells #[.int .i64 23, .int .i64 ln, .string s, .int .i64 k, .int .i64 n, .string t, vv, .slice sa m sc] 31) := ⟨_, rfl⟩
  have hb : Below w.heap.size w wa := by rw [hwa]; exact (Below.refl _ _).alloc (Nat.le_refl _) _
  have hN : NdB wa w.heap.size (.int .i64 23) (.int .i64 ln) (.string s) (.int .i64 k) (.int .i64 n) (.string t) vv (.slice sa m sc) := by rw [hwa]; exact NdB.new _ _ _ _ _ _ _ _ _
  have v0 := hN.c0; have v7 := hN.c7
  rw [hwa] at v0 v7
  have HB := Lib.hid hb
  have HWA := Lib.hid hwa
  clear hb hN hwa
  obtain ⟨i0, hi0, hz0, hz1, hz2⟩ := info_partsN int_info
  obtain ⟨q, hq⟩ : ∃ q : Nat, q = m - 2 := ⟨_, rfl⟩
  have HQ := Lib.hid hq
  have hsz : wa.heap.size ≤ wa.heap.size := Nat.le_refl _
  by_cases hlt : m < 2
  · have h1 : (m : Int) - 2 < 0 := by omega
    have e1 : IntKind.i64.wrap ((m : Int) - 2) = (m : Int) - 2 := IntWalk.i64_in _ (by omega)
    have AC := Lib.hid (fun W => by have h := roll_c 1 q W (by decide) (by omega); rw [show (q : Int) = 0 by omega] at h; exact h)
    have hq4 : q ≤ 4096 := by omega
    have hmx : max ((m : Int) - 2) 0 = 0 := by omega
    clear hq
    go_enter Tryz.func150, Tryz.ntmps150
    go_wp2_with fail
    rw [← HWA.out]
    refine (roll_c 0 2 wa (by decide) (by decide)).mono ?_
    rintro e w2 ⟨v1, rfl, ho, hb2⟩
    have HO := Lib.hid ho
    have HB2 := Lib.hid (HB.out.trans (below_le' hb2 HB.out.size))
    have hw2 : wa.heap.size ≤ w2.heap.size := hb2.size
    clear ho hb2
    go_wp2_with fail
    refine (AC.out w2).mono ?_
    rintro e w3 ⟨v2, rfl, ho2, hb3⟩
    have HB3 := Lib.hid (HB2.out.trans (below_le' hb3 HB2.out.size))
    have HO3 := Lib.hid (own_belowN HO.out hb3)
    have HA := Lib.hid ho2
    have hz3 : wa.heap.size ≤ w3.heap.size := by have := HB3.out.size; have := HO3.out; have := hb3.size; omega
    clear hb3
    rcases ho2.2 with ⟨rfl, hq0⟩ | ⟨g, cap, cur, rfl, hbg, hh, hqc, hcm, hcs, htk⟩
    · clear ho2
      go_wp2_with (at_builtin; refine wpList_append_own_none rfl (.tmp 61) (.tmp 66) 24 rfl wa.heap.size 3 i0 1 Tryz.underlying24 hi0 v1 2 (ints (List.replicate 2 0)) rfl HO3.out rfl ?_)
      go_ret2
      exact ⟨_, ret_tup (c := .nilIface) (by rw [show (rolesP 23 m).2 = decide (2 ≤ m) from rfl, ← le_nat]; rfl), by
        have h := own_lower HO3.out HB.out.size
        have e : (rolesP 23 m).1 = [0, 0] := by rw [show (rolesP 23 m).1 = [0, 0] ++ List.replicate (m - 2) 1 from rfl, ← HQ.out, hq0]; rfl
        rw [e]; exact h, HB3.out⟩
    · clear ho2 hh htk
      go_wp2_with (at_builtin; refine wpList_append_own _ rfl (.tmp 61) (.tmp 66) 24 rfl wa.heap.size 3 i0 (.int .i64 0) 1 8 Tryz.underlying24 hi0 hz0 hz1 hz2 rfl (by decide) v1 2 (ints (List.replicate 2 0)) rfl HO3.out ⟨g, 0, none⟩ q cap (ints (List.replicate q 1)) rfl (by rw [ints_len, List.length_replicate]; omega) (HA.out.cells (g := g) rfl) ?c2 ?c3 ?c4 ?c5 ?c6
                   case c2 => intro u hu; unfold ints at hu; rw [List.mem_map] at hu; obtain ⟨x, _, rfl⟩ := hu; rfl
                   case c3 => unfold maxLen; omega
                   case c4 => omega
                   case c5 => exact hz3
                   intro v' w11 hown' hgrow _
                   have HB11 := Lib.hid (grown_belowN HB3.out HB3.out.size hgrow (fun k hk => Nat.le_trans HB.out.size (own_geN HO3.out k hk)))
                   have HO11 := Lib.hid hown'
                   clear hown' hgrow)
      go_ret2
      exact ⟨_, ret_tup (c := .nilIface) (by rw [show (rolesP 23 m).2 = decide (2 ≤ m) from rfl, ← le_nat]; rfl), by
        have h := own_lower HO11.out HB.out.size
        have e : (rolesP 23 m).1 = [0, 0] ++ List.replicate q 1 := by rw [show (rolesP 23 m).1 = [0, 0] ++ List.replicate (m - 2) 1 from rfl, ← HQ.out]
        rw [e, ints_app, List.length_append, List.length_replicate]; exact h, HB11.out⟩
  · have h1 : (0 : Int) ≤ (m : Int) - 2 := by omega
    have e1 : IntKind.i64.wrap ((m : Int) - 2) = (m : Int) - 2 := IntWalk.i64_in _ (by omega)
    have AC := Lib.hid (fun W => by have h := roll_c 1 q W (by decide) (by omega); rw [show (q : Int) = (m : Int) - 2 by omega] at h; exact h)
    have hq4 : q ≤ 4096 := by omega
    have hmx : max ((m : Int) - 2) 0 = (m : Int) - 2 := by omega
    clear hq
    go_enter Tryz.func150, Tryz.ntmps150
    go_wp2_with fail
    rw [← HWA.out]
    refine (roll_c 0 2 wa (by decide) (by decide)).mono ?_
    rintro e w2 ⟨v1, rfl, ho, hb2⟩
    have HO := Lib.hid ho
    have HB2 := Lib.hid (HB.out.trans (below_le' hb2 HB.out.size))
    have hw2 : wa.heap.size ≤ w2.heap.size := hb2.size
    clear ho hb2
    go_wp2_with fail
    refine (AC.out w2).mono ?_
    rintro e w3 ⟨v2, rfl, ho2, hb3⟩
    have HB3 := Lib.hid (HB2.out.trans (below_le' hb3 HB2.out.size))
    have HO3 := Lib.hid (own_belowN HO.out hb3)
    have HA := Lib.hid ho2
    have hz3 : wa.heap.size ≤ w3.heap.size := by have := HB3.out.size; have := HO3.out; have := hb3.size; omega
    clear hb3
    rcases ho2.2 with ⟨rfl, hq0⟩ | ⟨g, cap, cur, rfl, hbg, hh, hqc, hcm, hcs, htk⟩
    · clear ho2
      go_wp2_with (at_builtin; refine wpList_append_own_none rfl (.tmp 61) (.tmp 66) 24 rfl wa.heap.size 3 i0 1 Tryz.underlying24 hi0 v1 2 (ints (List.replicate 2 0)) rfl HO3.out rfl ?_)
      go_ret2
      exact ⟨_, ret_tup (c := .nilIface) (by rw [show (rolesP 23 m).2 = decide (2 ≤ m) from rfl, ← le_nat]; rfl), by
        have h := own_lower HO3.out HB.out.size
        have e : (rolesP 23 m).1 = [0, 0] := by rw [show (rolesP 23 m).1 = [0, 0] ++ List.replicate (m - 2) 1 from rfl, ← HQ.out, hq0]; rfl
        rw [e]; exact h, HB3.out⟩
    · clear ho2 hh htk
      go_wp2_with (at_builtin; refine wpList_append_own _ rfl (.tmp 61) (.tmp 66) 24 rfl wa.heap.size 3 i0 (.int .i64 0) 1 8 Tryz.underlying24 hi0 hz0 hz1 hz2 rfl (by decide) v1 2 (ints (List.replicate 2 0)) rfl HO3.out ⟨g, 0, none⟩ q cap (ints (List.replicate q 1)) rfl (by rw [ints_len, List.length_replicate]; omega) (HA.out.cells (g := g) rfl) ?d2 ?d3 ?d4 ?d5 ?d6
                   case d2 => intro u hu; unfold ints at hu; rw [List.mem_map] at hu; obtain ⟨x, _, rfl⟩ := hu; rfl
                   case d3 => unfold maxLen; omega
                   case d4 => omega
                   case d5 => exact hz3
                   intro v' w11 hown' hgrow _
                   have HB11 := Lib.hid (grown_belowN HB3.out HB3.out.size hgrow (fun k hk => Nat.le_trans HB.out.size (own_geN HO3.out k hk)))
                   have HO11 := Lib.hid hown'
                   clear hown' hgrow)
      go_ret2
      exact ⟨_, ret_tup (c := .nilIface) (by rw [show (rolesP 23 m).2 = decide (2 ≤ m) from rfl, ← le_nat]; rfl), by
        have h := own_lower HO11.out HB.out.size
        have e : (rolesP 23 m).1 = [0, 0] ++ List.replicate q 1 := by rw [show (rolesP 23 m).1 = [0, 0] ++ List.replicate (m - 2) 1 from rfl, ← HQ.out]
        rw [e, ints_app, List.length_append, List.length_replicate]; exact h, HB11.out⟩

set_option maxRecDepth 100000 in
set_option maxHeartbeats 2000000 in
theorem roles_49 (ln : Int) (s : ByteArray) (k n : Int) (t : ByteArray) (vv : Value) (sa : Option Addr) (m sc : Nat) (w : World) (hm : m ≤ 4096) :
    Calls Tryz.prog 150 #[.agg #[.int .i64 49, .int .i64 ln, .string s, .int .i64 k, .int .i64 n, .string t, vv, .slice sa m sc]] w (RolesOut w 49 m) := by
  obtain ⟨wa, hwa⟩ : ∃ wa, wa = w.alloc (.cells #[.int .i64 49, .int .i64 ln, .string s, .int .i64 k, .int .i64 n, .string t, vv, .slice sa m sc] 31) := ⟨_, rfl⟩
  have hb : Below w.heap.size w wa := by rw [hwa]; exact (Below.refl _ _).alloc (Nat.le_refl _) _
  have hN : NdB wa w.heap.size (.int .i64 49) (.int .i64 ln) (.string s) (.int .i64 k) (.int .i64 n) (.string t) vv (.slice sa m sc) := by rw [hwa]; exact NdB.new _ _ _ _ _ _ _ _ _
  have v0 := hN.c0; have v7 := hN.c7
  rw [hwa] at v0 v7
  have HB := Lib.hid hb
  have HWA := Lib.hid hwa
  clear hb hN hwa
  obtain ⟨i0, hi0, hz0, hz1, hz2⟩ := info_partsN int_info
  obtain ⟨q, hq⟩ : ∃ q : Nat, q = m - 1 := ⟨_, rfl⟩
  have HQ := Lib.hid hq
  have hsz : wa.heap.size ≤ wa.heap.size := Nat.le_refl _
  by_cases hlt : m < 1
  · have h1 : (m : Int) - 1 < 0 := by omega
    have e1 : IntKind.i64.wrap ((m : Int) - 1) = (m : Int) - 1 := IntWalk.i64_in _ (by omega)
    have AC := Lib.hid (fun W => by have h := roll_c 8 q W (by decide) (by omega); rw [show (q : Int) = 0 by omega] at h; exact h)
    have hq4 : q ≤ 4096 := by omega
    have hmx : max ((m : Int) - 1) 0 = 0 := by omega
    clear hq
    go_enter Tryz.func150, Tryz.ntmps150
    go_wp2_with fail
    rw [← HWA.out]
    obtain ⟨w2, hw2⟩ : ∃ w2, w2 = wa.alloc (.cells #[.int .i64 6] 3) := ⟨_, rfl⟩
    have HO := Lib.hid (show w2.ownsRow wa.heap.size 3 1 (.slice (some ⟨w.heap.size + 1, 0, none⟩) 1 1) 1 (ints [6]) by
      rw [hw2]
      have h := own_lit (cs := #[.int .i64 6]) (n := 1) wa (Nat.le_refl _) (by decide) rfl
      have hz : wa.heap.size = w.heap.size + 1 := by rw [HWA.out]; simp
      rw [hz] at h ⊢
      exact h)
    have HB2 := Lib.hid (show Below w.heap.size w w2 by rw [hw2]; exact HB.out.alloc HB.out.size _)
    have hw2z : wa.heap.size ≤ w2.heap.size := by rw [hw2]; simp
    have HW2 := Lib.hid hw2
    rw [← HW2.out]
    clear hw2
    refine (AC.out w2).mono ?_
    rintro e w3 ⟨v2, rfl, ho2, hb3⟩
    have HB3 := Lib.hid (HB2.out.trans (below_le' hb3 HB2.out.size))
    have HO3 := Lib.hid (own_belowN HO.out hb3)
    have HA := Lib.hid ho2
    have hz3 : wa.heap.size ≤ w3.heap.size := by have := HB3.out.size; have := HO3.out; have := hb3.size; omega
    clear hb3
    rcases ho2.2 with ⟨rfl, hq0⟩ | ⟨g, cap, cur, rfl, hbg, hh, hqc, hcm, hcs, htk⟩
    · clear ho2
      go_wp2_with (at_builtin; refine wpList_append_own_none rfl (.tmp 161) (.tmp 166) 24 rfl wa.heap.size 3 i0 1 Tryz.underlying24 hi0 (.slice (some ⟨w.heap.size + 1, 0, none⟩) 1 1) 1 (ints [6]) rfl HO3.out rfl ?_)
      go_ret2
      exact ⟨_, ret_tup (c := .nilIface) (by rw [show (rolesP 49 m).2 = decide (2 ≤ m) from rfl, ← le_nat]; rfl), by
        have h := own_lower HO3.out HB.out.size
        have e : (rolesP 49 m).1 = [6] := by rw [show (rolesP 49 m).1 = [6] ++ List.replicate (m - 1) 8 from rfl, ← HQ.out, hq0]; rfl
        rw [e]; exact h, HB3.out⟩
    · clear ho2 hh htk
      go_wp2_with (at_builtin; refine wpList_append_own _ rfl (.tmp 161) (.tmp 166) 24 rfl wa.heap.size 3 i0 (.int .i64 0) 1 8 Tryz.underlying24 hi0 hz0 hz1 hz2 rfl (by decide) (.slice (some ⟨w.heap.size + 1, 0, none⟩) 1 1) 1 (ints [6]) rfl HO3.out ⟨g, 0, none⟩ q cap (ints (List.replicate q 8)) rfl (by rw [ints_len, List.length_replicate]; omega) (HA.out.cells (g := g) rfl) ?c2 ?c3 ?c4 ?c5 ?c6
                   case c2 => intro u hu; unfold ints at hu; rw [List.mem_map] at hu; obtain ⟨x, _, rfl⟩ := hu; rfl
                   case c3 => unfold maxLen; omega
                   case c4 => omega
                   case c5 => exact hz3
                   intro v' w11 hown' hgrow _
                   have HB11 := Lib.hid (grown_belowN HB3.out HB3.out.size hgrow (fun k hk => Nat.le_trans HB.out.size (own_geN HO3.out k hk)))
                   have HO11 := Lib.hid hown'
                   clear hown' hgrow)
      go_ret2
      exact ⟨_, ret_tup (c := .nilIface) (by rw [show (rolesP 49 m).2 = decide (2 ≤ m) from rfl, ← le_nat]; rfl), by
        have h := own_lower HO11.out HB.out.size
        have e : (rolesP 49 m).1 = [6] ++ List.replicate q 8 := by rw [show (rolesP 49 m).1 = [6] ++ List.replicate (m - 1) 8 from rfl, ← HQ.out]
        rw [e, ints_app, List.length_append, List.length_replicate]; exact h, HB11.out⟩
  · have h1 : (0 : Int) ≤ (m : Int) - 1 := by omega
    have e1 : IntKind.i64.wrap ((m : Int) - 1) = (m : Int) - 1 := IntWalk.i64_in _ (by omega)
    have AC := Lib.hid (fun W => by have h := roll_c 8 q W (by decide) (by omega); rw [show (q : Int) = (m : Int) - 1 by omega] at h; exact h)
    have hq4 : q ≤ 4096 := by omega
    have hmx : max ((m : Int) - 1) 0 = (m : Int) - 1 := by omega
    clear hq
    go_enter Tryz.func150, Tryz.ntmps150
    go_wp2_with fail
    rw [← HWA.out]
    obtain ⟨w2, hw2⟩ : ∃ w2, w2 = wa.alloc (.cells #[.int .i64 6] 3) := ⟨_, rfl⟩
    have HO := Lib.hid (show w2.ownsRow wa.heap.size 3 1 (.slice (some ⟨w.heap.size + 1, 0, none⟩) 1 1) 1 (ints [6]) by
      rw [hw2]
      have h := own_lit (cs := #[.int .i64 6]) (n := 1) wa (Nat.le_refl _) (by decide) rfl
      have hz : wa.heap.size = w.heap.size + 1 := by rw [HWA.out]; simp
      rw [hz] at h ⊢
      exact h)
    have HB2 := Lib.hid (show Below w.heap.size w w2 by rw [hw2]; exact HB.out.alloc HB.out.size _)
    have hw2z : wa.heap.size ≤ w2.heap.size := by rw [hw2]; simp
    have HW2 := Lib.hid hw2
    rw [← HW2.out]
    clear hw2
    refine (AC.out w2).mono ?_
    rintro e w3 ⟨v2, rfl, ho2, hb3⟩
    have HB3 := Lib.hid (HB2.out.trans (below_le' hb3 HB2.out.size))
    have HO3 := Lib.hid (own_belowN HO.out hb3)
    have HA := Lib.hid ho2
    have hz3 : wa.heap.size ≤ w3.heap.size := by have := HB3.out.size; have := HO3.out; have := hb3.size; omega
    clear hb3
    rcases ho2.2 with ⟨rfl, hq0⟩ | ⟨g, cap, cur, rfl, hbg, hh, hqc, hcm, hcs, htk⟩
    · clear ho2
      go_wp2_with (at_builtin; refine wpList_append_own_none rfl (.tmp 161) (.tmp 166) 24 rfl wa.heap.size 3 i0 1 Tryz.underlying24 hi0 (.slice (some ⟨w.heap.size + 1, 0, none⟩) 1 1) 1 (ints [6]) rfl HO3.out rfl ?_)
      go_ret2
      exact ⟨_, ret_tup (c := .nilIface) (by rw [show (rolesP 49 m).2 = decide (2 ≤ m) from rfl, ← le_nat]; rfl), by
        have h := own_lower HO3.out HB.out.size
        have e : (rolesP 49 m).1 = [6] := by rw [show (rolesP 49 m).1 = [6] ++ List.replicate (m - 1) 8 from rfl, ← HQ.out, hq0]; rfl
        rw [e]; exact h, HB3.out⟩
    · clear ho2 hh htk
      go_wp2_with (at_builtin; refine wpList_append_own _ rfl (.tmp 161) (.tmp 166) 24 rfl wa.heap.size 3 i0 (.int .i64 0) 1 8 Tryz.underlying24 hi0 hz0 hz1 hz2 rfl (by decide) (.slice (some ⟨w.heap.size + 1, 0, none⟩) 1 1) 1 (ints [6]) rfl HO3.out ⟨g, 0, none⟩ q cap (ints (List.replicate q 8)) rfl (by rw [ints_len, List.length_replicate]; omega) (HA.out.cells (g := g) rfl) ?d2 ?d3 ?d4 ?d5 ?d6
                   case d2 => intro u hu; unfold ints at hu; rw [List.mem_map] at hu; obtain ⟨x, _, rfl⟩ := hu; rfl
                   case d3 => unfold maxLen; omega
                   case d4 => omega
                   case d5 => exact hz3
                   intro v' w11 hown' hgrow _
                   have HB11 := Lib.hid (grown_belowN HB3.out HB3.out.size hgrow (fun k hk => Nat.le_trans HB.out.size (own_geN HO3.out k hk)))
                   have HO11 := Lib.hid hown'
                   clear hown' hgrow)
      go_ret2
      exact ⟨_, ret_tup (c := .nilIface) (by rw [show (rolesP 49 m).2 = decide (2 ≤ m) from rfl, ← le_nat]; rfl), by
        have h := own_lower HO11.out HB.out.size
        have e : (rolesP 49 m).1 = [6] ++ List.replicate q 8 := by rw [show (rolesP 49 m).1 = [6] ++ List.replicate (m - 1) 8 from rfl, ← HQ.out]
        rw [e, ints_app, List.length_append, List.length_replicate]; exact h, HB11.out⟩
end Go.Proofs.YtggngahmafbihaaGreatDoor
namespace Go.Proofs.YtggngahmafbihaaGreatDoor
open Go.RowKit Go.Lib
set_option linter.unusedVariables false

theorem own_cut {w : World} {base e n j cap : Nat} {A : Option Addr} {xs : List Value} (h : w.ownsRow base e 1 (.slice A n cap) n xs) (hj : j ≤ n) : w.ownsRow base e 1 (.slice A j cap) j (xs.take j) := by
  refine ⟨by rw [List.length_take, h.1]; omega, ?_⟩
  rcases h.2 with ⟨h0, h1⟩ | ⟨g, cap', cur, hv, hb1, hh, hn, hm, hc, ht⟩
  · injection h0 with e1 e2 e3
    subst e1; subst e3
    obtain rfl : j = 0 := by omega
    exact .inl ⟨rfl, rfl⟩
  · injection hv with e1 e2 e3
    subst e1; subst e3
    exact .inr ⟨g, cap, cur, rfl, hb1, hh, by omega, hm, hc, by rw [← ht, List.take_take, Nat.min_eq_left (by omega), Nat.mul_one]⟩

set_option maxRecDepth 100000 in
set_option maxHeartbeats 2000000 in
theorem roles_29 (ln : Int) (s : ByteArray) (k n : Int) (t : ByteArray) (vv : Value) (sa : Option Addr) (m sc : Nat) (w : World) (hm : m ≤ 4096) :
    Calls Tryz.prog 150 #[.agg #[.int .i64 29, .int .i64 ln, .string s, .int .i64 k, .int .i64 n, .string t, vv, .slice sa m sc]] w (RolesOut w 29 m) := by
  obtain ⟨wa, hwa⟩ : ∃ wa, wa = w.alloc (.cells #[.int .i64 29, .int .i64 ln, .string s, .int .i64 k, .int .i64 n, .string t, vv, .slice sa m sc] 31) := ⟨_, rfl⟩
  have hb : Below w.heap.size w wa := by rw [hwa]; exact (Below.refl _ _).alloc (Nat.le_refl _) _
  have hN : NdB wa w.heap.size (.int .i64 29) (.int .i64 ln) (.string s) (.int .i64 k) (.int .i64 n) (.string t) vv (.slice sa m sc) := by rw [hwa]; exact NdB.new _ _ _ _ _ _ _ _ _
  have v0 := hN.c0; have v7 := hN.c7
  rw [hwa] at v0 v7
  have HB := Lib.hid hb
  have HWA := Lib.hid hwa
  clear hb hN hwa
  have hz : wa.heap.size = w.heap.size + 1 := by rw [HWA.out]; simp
  have HZ := Lib.hid hz
  clear hz
  by_cases h0 : m = 0
  · subst h0
    go_enter Tryz.func150, Tryz.ntmps150
    go_wp2_with fail
    rw [← HWA.out]
    go_ret2
    refine ⟨_, ret_tup (c := .nilIface) (by rfl), ?_, HB.out.alloc HB.out.size _⟩
    have h := own_lit (cs := #[.int .i64 0, .int .i64 5, .int .i64 0]) (n := 3) wa HB.out.size (by decide) rfl
    rw [HZ.out] at h
    exact own_cut h (by decide : 0 ≤ 3)
  by_cases h1 : m = 1
  · subst h1
    go_enter Tryz.func150, Tryz.ntmps150
    go_wp2_with fail
    rw [← HWA.out]
    go_ret2
    refine ⟨_, ret_tup (c := .nilIface) (by rfl), ?_, HB.out.alloc HB.out.size _⟩
    have h := own_lit (cs := #[.int .i64 0, .int .i64 5, .int .i64 0]) (n := 3) wa HB.out.size (by decide) rfl
    rw [HZ.out] at h
    exact own_cut h (by decide : 1 ≤ 3)
  by_cases h2 : m = 2
  · subst h2
    go_enter Tryz.func150, Tryz.ntmps150
    go_wp2_with fail
    rw [← HWA.out]
    go_ret2
    refine ⟨_, ret_tup (c := .nilIface) (by rfl), ?_, HB.out.alloc HB.out.size _⟩
    have h := own_lit (cs := #[.int .i64 0, .int .i64 5, .int .i64 0]) (n := 3) wa HB.out.size (by decide) rfl
    rw [HZ.out] at h
    exact own_cut h (by decide : 2 ≤ 3)
  by_cases h3 : m = 3
  · subst h3
    go_enter Tryz.func150, Tryz.ntmps150
    go_wp2_with fail
    rw [← HWA.out]
    go_ret2
    refine ⟨_, ret_tup (c := .nilIface) (by rfl), ?_, HB.out.alloc HB.out.size _⟩
    have h := own_lit (cs := #[.int .i64 0, .int .i64 5, .int .i64 0]) (n := 3) wa HB.out.size (by decide) rfl
    rw [HZ.out] at h
    exact own_cut h (by decide : 3 ≤ 3)
  have q1 : (3 : Int) < (m : Int) := by omega
  have hmn : min (m : Int) 3 = 3 := by omega
  have q2 : ((m : Int) == 2) = false := by rw [beq_eq_false_iff_ne]; omega
  have q3 : ((m : Int) == 3) = false := by rw [beq_eq_false_iff_ne]; omega
  have HBO := Lib.hid (show (false : Bool) = (rolesP 29 m).2 by rw [show (rolesP 29 m).2 = (m == 2 || m == 3) from rfl]; simp [h2, h3])
  have HRO := Lib.hid (show (rolesP 29 m).1 = [0, 5, 0] by rw [show (rolesP 29 m).1 = [0, 5, 0].take (min m 3) from rfl, Nat.min_eq_right (by omega)]; rfl)
  clear h0 h1 h2 h3
  go_enter Tryz.func150, Tryz.ntmps150
  go_wp2_with fail
  rw [← HWA.out]
  go_ret2
  refine ⟨_, ret_tup (c := .nilIface) (by exact HBO.out), ?_, HB.out.alloc HB.out.size _⟩
  rw [HRO.out]
  have h := own_lit (cs := #[.int .i64 0, .int .i64 5, .int .i64 0]) (n := 3) wa HB.out.size (by decide) rfl
  rw [HZ.out] at h
  exact own_cut h (by decide : 3 ≤ 3)

set_option maxRecDepth 100000 in
set_option maxHeartbeats 2000000 in
theorem roles_none (ln : Int) (s : ByteArray) (k n : Int) (t : ByteArray) (vv : Value) (sa : Option Addr) (m sc : Nat) (w : World) (hm : m ≤ 4096) (op : Int) (hno : ¬((1 ≤ op ∧ op ≤ 29) ∨ (40 ≤ op ∧ op ≤ 52))) :
    Calls Tryz.prog 150 #[.agg #[.int .i64 op, .int .i64 ln, .string s, .int .i64 k, .int .i64 n, .string t, vv, .slice sa m sc]] w (RolesOut w op m) := by
  obtain ⟨wa, hwa⟩ : ∃ wa, wa = w.alloc (.cells #[.int .i64 op, .int .i64 ln, .string s, .int .i64 k, .int .i64 n, .string t, vv, .slice sa m sc] 31) := ⟨_, rfl⟩
  have hb : Below w.heap.size w wa := by rw [hwa]; exact (Below.refl _ _).alloc (Nat.le_refl _) _
  have hN : NdB wa w.heap.size (.int .i64 op) (.int .i64 ln) (.string s) (.int .i64 k) (.int .i64 n) (.string t) vv (.slice sa m sc) := by rw [hwa]; exact NdB.new _ _ _ _ _ _ _ _ _
  have v0 := hN.c0; have v7 := hN.c7
  rw [hwa] at v0 v7
  have HB := Lib.hid hb
  have HWA := Lib.hid hwa
  clear hb hN hwa
  have n1 : (op == 1) = false := by rw [beq_eq_false_iff_ne]; intro e; subst e; exact hno (by decide)
  have n2 : (op == 2) = false := by rw [beq_eq_false_iff_ne]; intro e; subst e; exact hno (by decide)
  have n3 : (op == 3) = false := by rw [beq_eq_false_iff_ne]; intro e; subst e; exact hno (by decide)
  have n4 : (op == 4) = false := by rw [beq_eq_false_iff_ne]; intro e; subst e; exact hno (by decide)
  have n5 : (op == 5) = false := by rw [beq_eq_false_iff_ne]; intro e; subst e; exact hno (by decide)
  have n6 : (op == 6) = false := by rw [beq_eq_false_iff_ne]; intro e; subst e; exact hno (by decide)
  have n7 : (op == 7) = false := by rw [beq_eq_false_iff_ne]; intro e; subst e; exact hno (by decide)
  have n8 : (op == 8) = false := by rw [beq_eq_false_iff_ne]; intro e; subst e; exact hno (by decide)
  have n9 : (op == 9) = false := by rw [beq_eq_false_iff_ne]; intro e; subst e; exact hno (by decide)
  have n10 : (op == 10) = false := by rw [beq_eq_false_iff_ne]; intro e; subst e; exact hno (by decide)
  have n11 : (op == 11) = false := by rw [beq_eq_false_iff_ne]; intro e; subst e; exact hno (by decide)
  have n12 : (op == 12) = false := by rw [beq_eq_false_iff_ne]; intro e; subst e; exact hno (by decide)
  have n13 : (op == 13) = false := by rw [beq_eq_false_iff_ne]; intro e; subst e; exact hno (by decide)
  have n14 : (op == 14) = false := by rw [beq_eq_false_iff_ne]; intro e; subst e; exact hno (by decide)
  have n15 : (op == 15) = false := by rw [beq_eq_false_iff_ne]; intro e; subst e; exact hno (by decide)
  have n16 : (op == 16) = false := by rw [beq_eq_false_iff_ne]; intro e; subst e; exact hno (by decide)
  have n17 : (op == 17) = false := by rw [beq_eq_false_iff_ne]; intro e; subst e; exact hno (by decide)
  have n18 : (op == 18) = false := by rw [beq_eq_false_iff_ne]; intro e; subst e; exact hno (by decide)
  have n19 : (op == 19) = false := by rw [beq_eq_false_iff_ne]; intro e; subst e; exact hno (by decide)
  have n20 : (op == 20) = false := by rw [beq_eq_false_iff_ne]; intro e; subst e; exact hno (by decide)
  have n21 : (op == 21) = false := by rw [beq_eq_false_iff_ne]; intro e; subst e; exact hno (by decide)
  have n22 : (op == 22) = false := by rw [beq_eq_false_iff_ne]; intro e; subst e; exact hno (by decide)
  have n23 : (op == 23) = false := by rw [beq_eq_false_iff_ne]; intro e; subst e; exact hno (by decide)
  have n24 : (op == 24) = false := by rw [beq_eq_false_iff_ne]; intro e; subst e; exact hno (by decide)
  have n25 : (op == 25) = false := by rw [beq_eq_false_iff_ne]; intro e; subst e; exact hno (by decide)
  have n26 : (op == 26) = false := by rw [beq_eq_false_iff_ne]; intro e; subst e; exact hno (by decide)
  have n27 : (op == 27) = false := by rw [beq_eq_false_iff_ne]; intro e; subst e; exact hno (by decide)
  have n28 : (op == 28) = false := by rw [beq_eq_false_iff_ne]; intro e; subst e; exact hno (by decide)
  have n29 : (op == 29) = false := by rw [beq_eq_false_iff_ne]; intro e; subst e; exact hno (by decide)
  have n40 : (op == 40) = false := by rw [beq_eq_false_iff_ne]; intro e; subst e; exact hno (by decide)
  have n41 : (op == 41) = false := by rw [beq_eq_false_iff_ne]; intro e; subst e; exact hno (by decide)
  have n42 : (op == 42) = false := by rw [beq_eq_false_iff_ne]; intro e; subst e; exact hno (by decide)
  have n43 : (op == 43) = false := by rw [beq_eq_false_iff_ne]; intro e; subst e; exact hno (by decide)
  have n44 : (op == 44) = false := by rw [beq_eq_false_iff_ne]; intro e; subst e; exact hno (by decide)
  have n45 : (op == 45) = false := by rw [beq_eq_false_iff_ne]; intro e; subst e; exact hno (by decide)
  have n46 : (op == 46) = false := by rw [beq_eq_false_iff_ne]; intro e; subst e; exact hno (by decide)
  have n47 : (op == 47) = false := by rw [beq_eq_false_iff_ne]; intro e; subst e; exact hno (by decide)
  have n48 : (op == 48) = false := by rw [beq_eq_false_iff_ne]; intro e; subst e; exact hno (by decide)
  have n49 : (op == 49) = false := by rw [beq_eq_false_iff_ne]; intro e; subst e; exact hno (by decide)
  have n50 : (op == 50) = false := by rw [beq_eq_false_iff_ne]; intro e; subst e; exact hno (by decide)
  have n51 : (op == 51) = false := by rw [beq_eq_false_iff_ne]; intro e; subst e; exact hno (by decide)
  have n52 : (op == 52) = false := by rw [beq_eq_false_iff_ne]; intro e; subst e; exact hno (by decide)
  have HR := Lib.hid (show rolesP op m = ([], false) by
    unfold rolesP
    have hx : ¬((1 ≤ op ∧ op ≤ 29) ∨ (40 ≤ op ∧ op ≤ 52)) := hno
    iterate 17 rw [if_neg (by omega)])
  clear hno
  go_enter Tryz.func150, Tryz.ntmps150
  go_wp2_with fail
  rw [← HWA.out]
  go_ret2
  exact ⟨_, ret_tup (c := .nilIface) (by rw [HR.out]), by rw [HR.out]; exact World.ownsRow_nil _ _ _ _, HB.out⟩
end Go.Proofs.YtggngahmafbihaaGreatDoor
namespace Go.Proofs.YtggngahmafbihaaGreatDoor
open Go.RowKit Go.Lib
set_option linter.unusedVariables false

set_option maxRecDepth 100000 in
set_option maxHeartbeats 2000000 in
theorem roles_28s (ln : Int) (s : ByteArray) (k n : Int) (t : ByteArray) (vv : Value) (sa : Option Addr) (m sc : Nat) (w : World) (hm : m < 2) :
    Calls Tryz.prog 150 #[.agg #[.int .i64 28, .int .i64 ln, .string s, .int .i64 k, .int .i64 n, .string t, vv, .slice sa m sc]] w (RolesOut w 28 m) := by
  obtain ⟨wa, hwa⟩ : ∃ wa, wa = w.alloc (.cells #[.int .i64 28, .int .i64 ln, .string s, .int .i64 k, .int .i64 n, .string t, vv, .slice sa m sc] 31) := ⟨_, rfl⟩
  have hb : Below w.heap.size w wa := by rw [hwa]; exact (Below.refl _ _).alloc (Nat.le_refl _) _
  have hN : NdB wa w.heap.size (.int .i64 28) (.int .i64 ln) (.string s) (.int .i64 k) (.int .i64 n) (.string t) vv (.slice sa m sc) := by rw [hwa]; exact NdB.new _ _ _ _ _ _ _ _ _
  have v0 := hN.c0; have v7 := hN.c7
  rw [hwa] at v0 v7
  have HB := Lib.hid hb
  have HWA := Lib.hid hwa
  clear hb hN hwa
  obtain ⟨i0, hi0, hz0, hz1, hz2⟩ := info_partsN int_info
  have HR := Lib.hid (show rolesP 28 m = ([0], false) by
    have : m = 0 ∨ m = 1 := by omega
    rcases this with rfl | rfl <;> rfl)
  have h1 : (m : Int) - 1 ≤ 0 := by omega
  have e1 : IntKind.i64.wrap ((m : Int) - 1) = (m : Int) - 1 := IntWalk.i64_in _ (by omega)
  have g1 : ¬ ((1 : Int) < (m : Int)) := by omega
  have g2 : ¬ ((2 : Int) ≤ (m : Int)) := by omega
  have g3 : (m : Int) - 1 = 0 ∨ (m : Int) - 1 = -1 := by omega
  have AC := Lib.hid (fun W => roll_c 3 0 W (by decide) (by decide))
  rcases g3 with g3 | g3
  · go_enter Tryz.func150, Tryz.ntmps150
    go_wp2_with fail
    rw [← HWA.out]
    refine (AC.out wa).mono ?_
    rintro e w2 ⟨v1, rfl, ho, hb2⟩
    have HO := Lib.hid ho
    have HB2 := Lib.hid (HB.out.trans (below_le' hb2 HB.out.size))
    have hw2 : wa.heap.size ≤ w2.heap.size := hb2.size
    clear ho hb2
    go_wp2_with (at_builtin; refine wpList_append_own _ rfl (.tmp 94) (.tmp 95) 24 rfl wa.heap.size 3 i0 (.int .i64 0) 1 8 Tryz.underlying24 hi0 hz0 hz1 hz2 rfl (by decide) v1 0 (ints (List.replicate 0 3)) rfl (own_belowN HO.out ((Below.refl _ _).alloc (Nat.le_refl _) _)) ⟨w2.heap.size, 0, none⟩ 1 1 [.int .i64 0] rfl rfl ?c1 ?c2 ?c3 ?c4 ?c5 ?c6
                 case c1 => exact cell_one_new _ _ _
                 case c2 => intro u hu; simp at hu; subst hu; rfl
                 case c3 => decide
                 case c4 => decide
                 case c5 => simp; omega
                 intro v' w11 hown' hgrow _
                 have HB11 := Lib.hid (grown_belowN (HB2.out.alloc HB2.out.size _) (by have := HB2.out.size; simp; omega) hgrow (fun k hk => Nat.le_trans HB.out.size (own_geN HO.out k hk)))
                 have HO11 := Lib.hid hown'
                 clear hown' hgrow)
    go_ret2
    rw [show RolesOut w 28 m = RolesOut w 28 m from rfl]
    refine ⟨v', ?_, ?_, HB11.out⟩
    · rw [HR.out]; exact ret_tup (c := .nilIface) (by first | rfl | simp [g2])
    · rw [HR.out]; exact own_lower HO11.out HB.out.size
  · go_enter Tryz.func150, Tryz.ntmps150
    go_wp2_with fail
    rw [← HWA.out]
    refine (AC.out wa).mono ?_
    rintro e w2 ⟨v1, rfl, ho, hb2⟩
    have HO := Lib.hid ho
    have HB2 := Lib.hid (HB.out.trans (below_le' hb2 HB.out.size))
    have hw2 : wa.heap.size ≤ w2.heap.size := hb2.size
    clear ho hb2
    go_wp2_with (at_builtin; refine wpList_append_own _ rfl (.tmp 94) (.tmp 95) 24 rfl wa.heap.size 3 i0 (.int .i64 0) 1 8 Tryz.underlying24 hi0 hz0 hz1 hz2 rfl (by decide) v1 0 (ints (List.replicate 0 3)) rfl (own_belowN HO.out ((Below.refl _ _).alloc (Nat.le_refl _) _)) ⟨w2.heap.size, 0, none⟩ 1 1 [.int .i64 0] rfl rfl ?d1 ?d2 ?d3 ?d4 ?d5 ?d6
                 case d1 => exact cell_one_new _ _ _
                 case d2 => intro u hu; simp at hu; subst hu; rfl
                 case d3 => decide
                 case d4 => decide
                 case d5 => simp; omega
                 intro v' w11 hown' hgrow _
                 have HB11 := Lib.hid (grown_belowN (HB2.out.alloc HB2.out.size _) (by have := HB2.out.size; simp; omega) hgrow (fun k hk => Nat.le_trans HB.out.size (own_geN HO.out k hk)))
                 have HO11 := Lib.hid hown'
                 clear hown' hgrow)
    go_ret2
    refine ⟨v', ?_, ?_, HB11.out⟩
    · rw [HR.out]; exact ret_tup (c := .nilIface) (by first | rfl | simp [g2])
    · rw [HR.out]; exact own_lower HO11.out HB.out.size

theorem rep_set (j : Nat) : (ints (List.replicate (j + 1) 3)).set j (.int .i64 4) = ints (List.replicate j 3 ++ [4]) := by
  rw [List.replicate_succ', ints_app, ints_app, List.set_append_right _ _ (by rw [ints_len, List.length_replicate]; exact Nat.le_refl _), ints_len, List.length_replicate, Nat.sub_self]
  rfl

set_option maxRecDepth 100000 in
set_option maxHeartbeats 2000000 in
theorem roles_28b (ln : Int) (s : ByteArray) (k n : Int) (t : ByteArray) (vv : Value) (sa : Option Addr) (m sc : Nat) (w : World) (hm : m ≤ 4096) (hm2 : 2 ≤ m) :
    Calls Tryz.prog 150 #[.agg #[.int .i64 28, .int .i64 ln, .string s, .int .i64 k, .int .i64 n, .string t, vv, .slice sa m sc]] w (RolesOut w 28 m) := by
  obtain ⟨wa, hwa⟩ : ∃ wa, wa = w.alloc (.cells #[.int .i64 28, .int .i64 ln, .string s, .int .i64 k, .int .i64 n, .string t, vv, .slice sa m sc] 31) := ⟨_, rfl⟩
  have hb : Below w.heap.size w wa := by rw [hwa]; exact (Below.refl _ _).alloc (Nat.le_refl _) _
  have hN : NdB wa w.heap.size (.int .i64 28) (.int .i64 ln) (.string s) (.int .i64 k) (.int .i64 n) (.string t) vv (.slice sa m sc) := by rw [hwa]; exact NdB.new _ _ _ _ _ _ _ _ _
  have v0 := hN.c0; have v7 := hN.c7
  rw [hwa] at v0 v7
  have HB := Lib.hid hb
  have HWA := Lib.hid hwa
  clear hb hN hwa
  obtain ⟨i0, hi0, hz0, hz1, hz2⟩ := info_partsN int_info
  obtain ⟨j, hj⟩ : ∃ j : Nat, m = j + 2 := ⟨m - 2, by omega⟩
  have HR := Lib.hid (show rolesP 28 m = (List.replicate j 3 ++ [4] ++ [0], true) by
    have h1 : (rolesP 28 m).1 = (List.replicate (m - 2) 3 ++ (if 1 < m then [4] else [])) ++ [0] := rfl
    have h2 : (rolesP 28 m).2 = decide (2 ≤ m) := rfl
    rw [if_pos (by omega), show m - 2 = j by omega] at h1
    rw [decide_eq_true hm2] at h2
    rw [← h1, ← h2])
  have h1 : (m : Int) - 1 = ((j + 1 : Nat) : Int) := by omega
  have h0 : (0 : Int) ≤ ((j + 1 : Nat) : Int) := by omega
  have h2 : (m : Int) - 2 = (j : Int) := by omega
  have e1 : IntKind.i64.wrap ((m : Int) - 1) = ((j + 1 : Nat) : Int) := by rw [h1]; exact IntWalk.i64_in _ (by omega)
  have e2 : IntKind.i64.wrap ((m : Int) - 2) = (j : Int) := by rw [h2]; exact IntWalk.i64_in _ (by omega)
  have g1 : (1 : Int) < (m : Int) := by omega
  have g2 : (2 : Int) ≤ (m : Int) := by omega
  have g4 : j < j + 1 := by omega
  have hmx : max ((j + 1 : Nat) : Int) 0 = ((j + 1 : Nat) : Int) := by omega
  have hmx2 : max ((j : Int) + 1) 0 = (j : Int) + 1 := by omega
  have AC := Lib.hid (fun W => roll_c 3 (j + 1) W (by decide) (by omega))
  have hj4 : j ≤ 4096 := by omega
  clear h1 h2 hj
  go_enter Tryz.func150, Tryz.ntmps150
  go_wp2_with fail
  rw [← HWA.out]
  refine (AC.out wa).mono ?_
  rintro e w2 ⟨v1, rfl, ho, hb2⟩
  obtain ⟨g, cap, hv, hbg, hlt⟩ := ho.form (by omega)
  subst hv
  have HO := Lib.hid ho
  have HB2 := Lib.hid (HB.out.trans (below_le' hb2 HB.out.size))
  have hw2 : wa.heap.size ≤ w2.heap.size := hb2.size
  have f0 := ho.frozenAt j
  have c0 : w2.cell? ⟨g, j, none⟩ = some (.int .i64 3) := by rw [ho.cellAt j (by omega)]; simp [ints]
  have hst := ho.stored j (.int .i64 4)
  rw [rep_set] at hst
  have HS := Lib.hid hst
  clear ho hb2 hst
  go_wp2_with (at_builtin; refine wpList_append_own _ rfl (.tmp 94) (.tmp 95) 24 rfl wa.heap.size 3 i0 (.int .i64 0) 1 8 Tryz.underlying24 hi0 hz0 hz1 hz2 rfl (by decide) (.slice (some ⟨g, 0, none⟩) (j + 1) cap) (j + 1) (ints (List.replicate j 3 ++ [4])) rfl (own_belowN HS.out.1 ((Below.refl _ _).alloc (Nat.le_refl _) _)) ⟨w2.heap.size, 0, none⟩ 1 1 [.int .i64 0] rfl rfl ?c1 ?c2 ?c3 ?c4 ?c5 ?c6
               case c1 => have h := cell_one_new (w2.setCell ⟨g, j, none⟩ (.int .i64 4)) (.int .i64 0) 3; rw [show (w2.setCell ⟨g, j, none⟩ (.int .i64 4)).heap.size = w2.heap.size by simp [World.setCell]] at h; exact h
               case c2 => intro u hu; simp at hu; subst hu; rfl
               case c3 => unfold maxLen; omega
               case c4 => omega
               case c5 => have := HS.out.2.size; simp at this ⊢; omega
               intro v' w11 hown' hgrow _
               have hb3 := grown_belowN HB2.out HB2.out.size HS.out.2 (fun k hk => by injection hk with hk; subst hk; have := HB.out.size; show w.heap.size ≤ g; omega)
               have HB11 := Lib.hid (grown_belowN (hb3.alloc hb3.size _) (by have := hb3.size; simp at this ⊢; omega) hgrow (fun k hk => by injection hk with hk; subst hk; have := HB.out.size; show w.heap.size ≤ g; omega))
               have HO11 := Lib.hid hown'
               clear hown' hgrow hb3)
  go_ret2
  refine ⟨v', ?_, ?_, HB11.out⟩
  · rw [HR.out]; exact ret_tup (c := .nilIface) (by first | rfl | simp [g2])
  · rw [HR.out]
    have h := own_lower HO11.out HB.out.size
    rw [show ints (List.replicate j 3 ++ [4] ++ [0]) = ints (List.replicate j 3 ++ [4]) ++ [.int .i64 0] from ints_app _ _]
    simpa using h

theorem roles_28 (ln : Int) (s : ByteArray) (k n : Int) (t : ByteArray) (vv : Value) (sa : Option Addr) (m sc : Nat) (w : World) (hm : m ≤ 4096) :
    Calls Tryz.prog 150 #[.agg #[.int .i64 28, .int .i64 ln, .string s, .int .i64 k, .int .i64 n, .string t, vv, .slice sa m sc]] w (RolesOut w 28 m) := by
  by_cases h : m < 2
  · exact roles_28s ln s k n t vv sa m sc w h
  · exact roles_28b ln s k n t vv sa m sc w hm (by omega)
end Go.Proofs.YtggngahmafbihaaGreatDoor
namespace Go.Proofs.YtggngahmafbihaaGreatDoor
open Go.RowKit Go.Lib
set_option linter.unusedVariables false

def rolI (i : Nat) : Nat := if i % 2 = 0 then 0 else 6
theorem rows_succ (i : Nat) : ints ((List.range (i + 1)).map rolI) = ints ((List.range i).map rolI) ++ [.int .i64 (rolI i : Int)] := by
  rw [List.range_succ, List.map_append, ints_app]; rfl
theorem rows_len (i : Nat) : ((List.range i).map rolI).length = i := by simp
theorem roles_41_even (m : Nat) (h : m % 2 = 0) : (rolesP 41 m).1 = (List.range m).map rolI := by
  show (List.range m).map (fun i => if m % 2 = 1 ∧ i = m - 1 then 6 else if i % 2 = 0 then 0 else 6) = _
  apply List.map_congr_left
  intro i _
  rw [if_neg (by omega)]; rfl
theorem roles_41_odd (m : Nat) (h : m % 2 = 1) : ints (rolesP 41 m).1 = (ints ((List.range m).map rolI)).set (m - 1) (.int .i64 6) := by
  obtain ⟨j, rfl⟩ : ∃ j, m = j + 1 := ⟨m - 1, by omega⟩
  have e : (rolesP 41 (j + 1)).1 = (List.range (j + 1)).map (fun i => if (j + 1) % 2 = 1 ∧ i = j + 1 - 1 then 6 else if i % 2 = 0 then 0 else 6) := rfl
  rw [e, rows_succ, List.range_succ, List.map_append, ints_app, show j + 1 - 1 = j from rfl, List.set_append_right _ _ (by rw [ints_len, rows_len]; exact Nat.le_refl _), ints_len, rows_len, Nat.sub_self]
  congr 1
  · congr 1
    apply List.map_congr_left
    intro i hi
    rw [List.mem_range] at hi
    rw [if_neg (by omega)]; rfl
  · show ints [if (j + 1) % 2 = 1 ∧ j = j then 6 else _] = _
    rw [if_pos ⟨h, rfl⟩]; rfl

set_option maxRecDepth 100000 in
set_option maxHeartbeats 4000000 in
theorem roles_41 (ln : Int) (s : ByteArray) (k n : Int) (t : ByteArray) (vv : Value) (sa : Option Addr) (m sc : Nat) (w : World) (hm : m ≤ 4096) :
    Calls Tryz.prog 150 #[.agg #[.int .i64 41, .int .i64 ln, .string s, .int .i64 k, .int .i64 n, .string t, vv, .slice sa m sc]] w (RolesOut w 41 m) := by
  obtain ⟨wa, hwa⟩ : ∃ wa, wa = w.alloc (.cells #[.int .i64 41, .int .i64 ln, .string s, .int .i64 k, .int .i64 n, .string t, vv, .slice sa m sc] 31) := ⟨_, rfl⟩
  have hb : Below w.heap.size w wa := by rw [hwa]; exact (Below.refl _ _).alloc (Nat.le_refl _) _
  have hN : NdB wa w.heap.size (.int .i64 41) (.int .i64 ln) (.string s) (.int .i64 k) (.int .i64 n) (.string t) vv (.slice sa m sc) := by rw [hwa]; exact NdB.new _ _ _ _ _ _ _ _ _
  have v0 := hN.c0; have v7 := hN.c7
  rw [hwa] at v0 v7
  have HB := Lib.hid hb
  have HWA := Lib.hid hwa
  clear hb hN hwa
  obtain ⟨i0, hi0, hz0, hz1, hz2⟩ := info_partsN int_info
  go_enter Tryz.func150, Tryz.ntmps150
  go_wp2_with fail
  rw [← HWA.out]
  go_loopg [7, 114] m (fun kk ov v wr => ∃ (bv : Value) (i : Nat), bv = ov ∧ v = .int .i64 i ∧ i + kk = m ∧ wr.ownsRow wa.heap.size 3 1 bv i (ints ((List.range i).map rolI)) ∧ Below w.heap.size w wr ∧ wa.heap.size ≤ wr.heap.size)
  case atStart => exact ⟨.slice none 0 0, 0, rfl, rfl, by omega, World.ownsRow_nil _ _ _ _, HB.out, Nat.le_refl _⟩
  case round =>
    obtain ⟨bv, i, rfl, rfl, hik, hrow, hbr, hrz⟩ := hrel
    by_cases hi : i < m
    · obtain ⟨g, rfl⟩ : ∃ g, gk = g + 1 := ⟨gk - 1, by omega⟩
      have HROW := Lib.hid hrow
      have HBR := Lib.hid hbr
      clear hrow hbr
      obtain ⟨wx, hwx⟩ : ∃ wx, wx = wr.alloc (.cells #[.int .i64 0, .int .i64 6] 3) := ⟨_, rfl⟩
      have hbx : Below wr.heap.size wr wx := by rw [hwx]; exact (Below.refl _ _).alloc (Nat.le_refl _) _
      have hxh := heap_alloc_new wr (.cells #[.int .i64 0, .int .i64 6] 3)
      have x0 := cell_of_row _ wr.heap.size 0 _ _ _ hxh
      have x1 := cell_of_row _ wr.heap.size 1 _ _ _ hxh
      have hxz : wx.heap.size = wr.heap.size + 1 := by rw [hwx]; simp
      have HX := Lib.hid (own_belowN HROW.out hbx)
      have HBX := Lib.hid (HBR.out.trans (below_le' hbx HBR.out.size))
      have HWX := Lib.hid hwx
      clear hbx hxh hwx
      rcases Nat.mod_two_eq_zero_or_one i with hp | hp
      · have t1 : Int.tmod (i : Int) 2 = 0 := by rw [Int.tmod_eq_emod_of_nonneg (by omega)]; omega
        have hri : rolI i = 0 := by unfold rolI; rw [if_pos hp]
        go_wp2_with (at_builtin; refine wpList_append_own _ rfl (.tmp 117) (.tmp 123) 24 rfl wa.heap.size 3 i0 (.int .i64 0) 1 8 Tryz.underlying24 hi0 hz0 hz1 hz2 rfl (by decide) bv i (ints ((List.range i).map rolI)) rfl (own_belowN (by rw [← HWX.out]; exact HX.out) ((Below.refl _ _).alloc (Nat.le_refl _) _)) ⟨wr.heap.size + 1, 0, none⟩ 1 1 [.int .i64 0] rfl rfl ?c1 ?c2 ?c3 ?c4 ?c5 ?c6
                     case c1 => have h := cell_one_new (wr.alloc (.cells #[.int .i64 0, .int .i64 6] 3)) (.int .i64 0) 3; rw [show (wr.alloc (.cells #[.int .i64 0, .int .i64 6] 3)).heap.size = wr.heap.size + 1 by simp] at h; exact h
                     case c2 => intro u hu; simp at hu; subst hu; rfl
                     case c3 => unfold maxLen; omega
                     case c4 => omega
                     case c5 => simp; omega
                     rw [← HWX.out]
                     intro v' w11 hown' hgrow _
                     have hb3 := HBX.out.alloc HBX.out.size (.cells #[.int .i64 0] 3)
                     have HB11 := Lib.hid (grown_belowN hb3 hb3.size hgrow (fun k hk => Nat.le_trans HB.out.size (own_geN HX.out k hk)))
                     have HZ11 := Lib.hid (show wa.heap.size ≤ w11.heap.size by have := hgrow.size; simp at this; omega)
                     have HO11 := Lib.hid hown'
                     clear hown' hgrow hb3)
        go_roundg g
        case measure => omega
        case rel => exact ⟨v', i + 1, rfl, by go_num, by omega, by rw [rows_succ, hri]; exact HO11.out, HB11.out, HZ11.out⟩
      · have t1 : Int.tmod (i : Int) 2 = 1 := by rw [Int.tmod_eq_emod_of_nonneg (by omega)]; omega
        have hri : rolI i = 6 := by unfold rolI; rw [if_neg (by omega)]
        go_wp2_with (at_builtin; refine wpList_append_own _ rfl (.tmp 117) (.tmp 123) 24 rfl wa.heap.size 3 i0 (.int .i64 0) 1 8 Tryz.underlying24 hi0 hz0 hz1 hz2 rfl (by decide) bv i (ints ((List.range i).map rolI)) rfl (own_belowN (by rw [← HWX.out]; exact HX.out) ((Below.refl _ _).alloc (Nat.le_refl _) _)) ⟨wr.heap.size + 1, 0, none⟩ 1 1 [.int .i64 6] rfl rfl ?d1 ?d2 ?d3 ?d4 ?d5 ?d6
                     case d1 => have h := cell_one_new (wr.alloc (.cells #[.int .i64 0, .int .i64 6] 3)) (.int .i64 6) 3; rw [show (wr.alloc (.cells #[.int .i64 0, .int .i64 6] 3)).heap.size = wr.heap.size + 1 by simp] at h; exact h
                     case d2 => intro u hu; simp at hu; subst hu; rfl
                     case d3 => unfold maxLen; omega
                     case d4 => omega
                     case d5 => simp; omega
                     rw [← HWX.out]
                     intro v' w11 hown' hgrow _
                     have hb3 := HBX.out.alloc HBX.out.size (.cells #[.int .i64 6] 3)
                     have HB11 := Lib.hid (grown_belowN hb3 hb3.size hgrow (fun k hk => Nat.le_trans HB.out.size (own_geN HX.out k hk)))
                     have HZ11 := Lib.hid (show wa.heap.size ≤ w11.heap.size by have := hgrow.size; simp at this; omega)
                     have HO11 := Lib.hid hown'
                     clear hown' hgrow hb3)
        go_roundg g
        case measure => omega
        case rel => exact ⟨v', i + 1, rfl, by go_num, by omega, by rw [rows_succ, hri]; exact HO11.out, HB11.out, HZ11.out⟩
    · obtain rfl : i = m := by omega
      have HR2 := Lib.hid (show decide ((2 : Int) ≤ (i : Int)) = (rolesP 41 i).2 by rw [show (rolesP 41 i).2 = decide (2 ≤ i) from rfl, ← le_nat]; rfl)
      rcases Nat.mod_two_eq_zero_or_one i with hp | hp
      · have t1 : Int.tmod (i : Int) 2 = 0 := by rw [Int.tmod_eq_emod_of_nonneg (by omega)]; omega
        have HROW := Lib.hid hrow
        have HBR := Lib.hid hbr
        have HRE := Lib.hid (roles_41_even i hp)
        clear hrow hbr hp
        go_wp2_with fail
        go_ret2
        refine ⟨bv, ret_tup (c := .nilIface) HR2.out, ?_, HBR.out⟩
        rw [HRE.out, rows_len]
        exact own_lower HROW.out HB.out.size
      · have t1 : Int.tmod (i : Int) 2 = 1 := by rw [Int.tmod_eq_emod_of_nonneg (by omega)]; omega
        have q0 : (0 : Int) < (i : Int) := by omega
        obtain ⟨j, hj⟩ : ∃ j : Nat, i = j + 1 := ⟨i - 1, by omega⟩
        have e1 : IntKind.i64.wrap ((i : Int) - 1) = (j : Int) := by rw [show (i : Int) - 1 = (j : Int) by omega]; exact IntWalk.i64_in _ (by omega)
        have g4 : j < i := by omega
        obtain ⟨g, cap, hv, hbg, hlt⟩ := hrow.form (by omega)
        subst hv
        have f0 := hrow.frozenAt j
        obtain ⟨u0, hu0⟩ : ∃ u0 : Nat, (ints ((List.range i).map rolI))[j]? = some (.int .i64 (u0 : Int)) := by
          refine ⟨rolI j, ?_⟩
          simp [ints, g4]
        have c0 : wr.cell? ⟨g, j, none⟩ = some (.int .i64 (u0 : Int)) := by rw [hrow.cellAt j (by omega)]; exact hu0
        have hst := hrow.stored j (.int .i64 6)
        have HRO := Lib.hid (roles_41_odd i hp)
        rw [show i - 1 = j by omega] at HRO
        rw [← HRO.out] at hst
        have HS := Lib.hid hst
        have HBR := Lib.hid hbr
        have HL := Lib.hid (show (rolesP 41 i).1.length = i by show ((List.range i).map _).length = i; rw [List.length_map, List.length_range])
        clear hrow hbr hst hp hu0 hj
        go_wp2_with fail
        go_ret2
        refine ⟨_, ret_tup (c := .nilIface) HR2.out, ?_, grown_belowN HBR.out HBR.out.size HS.out.2 (fun k hk => by injection hk with hk; subst hk; have := HB.out.size; omega)⟩
        rw [HL.out]
        exact own_lower HS.out.1 HB.out.size
end Go.Proofs.YtggngahmafbihaaGreatDoor
namespace Go.Proofs.YtggngahmafbihaaGreatDoor
open Go.RowKit Go.Lib
set_option linter.unusedVariables false

theorem roles_c (op ln : Int) (s : ByteArray) (k n : Int) (t : ByteArray) (vv : Value) (sa : Option Addr) (m sc : Nat) (w : World) (hm : m ≤ 4096) :
    Calls Tryz.prog 150 #[.agg #[.int .i64 op, .int .i64 ln, .string s, .int .i64 k, .int .i64 n, .string t, vv, .slice sa m sc]] w (RolesOut w op m) := by
  by_cases h : (1 ≤ op ∧ op ≤ 29) ∨ (40 ≤ op ∧ op ≤ 52)
  · have hk : op = 1 ∨ op = 2 ∨ op = 3 ∨ op = 4 ∨ op = 5 ∨ op = 6 ∨ op = 7 ∨ op = 8 ∨ op = 9 ∨ op = 10 ∨ op = 11 ∨ op = 12 ∨ op = 13 ∨ op = 14 ∨ op = 15 ∨ op = 16 ∨ op = 17 ∨ op = 18 ∨ op = 19 ∨ op = 20 ∨ op = 21 ∨ op = 22 ∨ op = 23 ∨ op = 24 ∨ op = 25 ∨ op = 26 ∨ op = 27 ∨ op = 28 ∨ op = 29 ∨ op = 40 ∨ op = 41 ∨ op = 42 ∨ op = 43 ∨ op = 44 ∨ op = 45 ∨ op = 46 ∨ op = 47 ∨ op = 48 ∨ op = 49 ∨ op = 50 ∨ op = 51 ∨ op = 52 := by omega
    rcases hk with rfl | rfl | rfl | rfl | rfl | rfl | rfl | rfl | rfl | rfl | rfl | rfl | rfl | rfl | rfl | rfl | rfl | rfl | rfl | rfl | rfl | rfl | rfl | rfl | rfl | rfl | rfl | rfl | rfl | rfl | rfl | rfl | rfl | rfl | rfl | rfl | rfl | rfl | rfl | rfl | rfl | rfl
    · exact roles_1 ln s k n t vv sa m sc w hm
    · exact roles_2 ln s k n t vv sa m sc w hm
    · exact roles_3 ln s k n t vv sa m sc w hm
    · exact roles_4 ln s k n t vv sa m sc w hm
    · exact roles_5 ln s k n t vv sa m sc w hm
    · exact roles_6 ln s k n t vv sa m sc w hm
    · exact roles_7 ln s k n t vv sa m sc w hm
    · exact roles_8 ln s k n t vv sa m sc w hm
    · exact roles_9 ln s k n t vv sa m sc w hm
    · exact roles_10 ln s k n t vv sa m sc w hm
    · exact roles_11 ln s k n t vv sa m sc w hm
    · exact roles_12 ln s k n t vv sa m sc w hm
    · exact roles_13 ln s k n t vv sa m sc w hm
    · exact roles_14 ln s k n t vv sa m sc w hm
    · exact roles_15 ln s k n t vv sa m sc w hm
    · exact roles_16 ln s k n t vv sa m sc w hm
    · exact roles_17 ln s k n t vv sa m sc w hm
    · exact roles_18 ln s k n t vv sa m sc w hm
    · exact roles_19 ln s k n t vv sa m sc w hm
    · exact roles_20 ln s k n t vv sa m sc w hm
    · exact roles_21 ln s k n t vv sa m sc w hm
    · exact roles_22 ln s k n t vv sa m sc w hm
    · exact roles_23 ln s k n t vv sa m sc w hm
    · exact roles_24 ln s k n t vv sa m sc w hm
    · exact roles_25 ln s k n t vv sa m sc w hm
    · exact roles_26 ln s k n t vv sa m sc w hm
    · exact roles_27 ln s k n t vv sa m sc w hm
    · exact roles_28 ln s k n t vv sa m sc w hm
    · exact roles_29 ln s k n t vv sa m sc w hm
    · exact roles_40 ln s k n t vv sa m sc w hm
    · exact roles_41 ln s k n t vv sa m sc w hm
    · exact roles_42 ln s k n t vv sa m sc w hm
    · exact roles_43 ln s k n t vv sa m sc w hm
    · exact roles_44 ln s k n t vv sa m sc w hm
    · exact roles_45 ln s k n t vv sa m sc w hm
    · exact roles_46 ln s k n t vv sa m sc w hm
    · exact roles_47 ln s k n t vv sa m sc w hm
    · exact roles_48 ln s k n t vv sa m sc w hm
    · exact roles_49 ln s k n t vv sa m sc w hm
    · exact roles_50 ln s k n t vv sa m sc w hm
    · exact roles_51 ln s k n t vv sa m sc w hm
    · exact roles_52 ln s k n t vv sa m sc w hm
  · exact roles_none ln s k n t vv sa m sc w hm op h
end Go.Proofs.YtggngahmafbihaaGreatDoor
namespace Go.Proofs.YtggngahmafbihaaGreatDoor
open Go.RowKit Go.Lib
set_option linter.unusedVariables false

/-- What is amiss, by the errors' numbers. -/
def ownC (c : Nat) : Nat := if c = 0 then 0 else if c = 1 then 103 else 106
theorem empty_size (s : ByteArray) : (s.toList.isEmpty = true ∧ s.toList = [] ∧ s.size = 0) ∨ (s.toList.isEmpty = false ∧ ¬s.toList = [] ∧ s.size ≠ 0) := by
  have hs : s.data.toList.length = s.size := by rw [Array.length_toList]; rfl
  rcases empty_iff s with ⟨h1, h2, h3⟩ | ⟨h1, h2, h3⟩
  · exact .inl ⟨h1, h2, by rw [← hs, h3]; rfl⟩
  · exact .inr ⟨h1, h2, fun e => h3 (List.eq_nil_of_length_eq_zero (by omega))⟩
/-- May a node stand there, as far as it itself goes? -/
def fairN1 (op : Int) (role : Nat) (loop : Bool) : Bool := standsP op role && (loop || (op != 45 && op != 46))
def fairN2 (op k n : Int) (t : ByteArray) (v : VL) : Bool := if op = 1 then k != 4 && (walk1 k n t v 1 4096).1 == 0 && (k != 0 || n != -9223372036854775808) else k == 0 && n == 0 && t.size == 0 && v.len == 0
theorem ownN_eq (op : Int) (s : ByteArray) (k n : Int) (t : ByteArray) (v : VL) (m role : Nat) (loop : Bool) :
    ownN op s k n t v m role loop = if (!(fairN1 op role loop && fairN2 op k n t v) || !(rolesP op m).2 || (!(namedP op).1 && s.size != 0)) = true then 1 else if ((namedP op).1 && !nameB s && !((namedP op).2 && s.size == 0)) = true then 2 else 0 := rfl

set_option maxRecDepth 100000 in
set_option maxHeartbeats 4000000 in
theorem own_tc (op ln : Int) (s : ByteArray) (k n : Int) (t : ByteArray) (v : VL) (va : Option Addr) (vc : Nat) (sa : Option Addr) (m sc : Nat) (role : Nat) (loop : Bool) (ea : Nat → Addr) (w : World) (he : ErrsAt w ea)
    (hs : s.size ≤ 140737488351232) (ht : t.size ≤ 140737488351232) (hl : v.len ≤ 140737488351232) (hf : v.fit) (hvc : v.len ≤ vc) (hm : m ≤ 4096) (hr : role ≤ 8) (hv : RpL w (fun b => b < w.heap.size) v va) :
    Calls Tryz.prog 149 #[.agg #[.int .i64 op, .int .i64 ln, .string s, .int .i64 k, .int .i64 n, .string t, .slice va v.len vc, .slice sa m sc], .int .i64 (role : Int), .bool loop] w
      fun e w' => e = .returned (errV ea (ownC (ownN op s k n t v m role loop))) ∧ Below w.heap.size w w' := by
  have hroom := he.room
  obtain ⟨wa, hwa⟩ : ∃ wa, wa = w.alloc (.cells #[.int .i64 op, .int .i64 ln, .string s, .int .i64 k, .int .i64 n, .string t, .slice va v.len vc, .slice sa m sc] 31) := ⟨_, rfl⟩
  have hb : Below w.heap.size w wa := by rw [hwa]; exact (Below.refl _ _).alloc (Nat.le_refl _) _
  have hN : NdB wa w.heap.size (.int .i64 op) (.int .i64 ln) (.string s) (.int .i64 k) (.int .i64 n) (.string t) (.slice va v.len vc) (.slice sa m sc) := by rw [hwa]; exact NdB.new _ _ _ _ _ _ _ _ _
  have v0 := hN.c0; have v1 := hN.c1; have v2 := hN.c2; have v3 := hN.c3; have v4 := hN.c4; have v5 := hN.c5; have v6 := hN.c6; have v7 := hN.c7
  have STC := Lib.hid (stands_c op ln s k n t (.slice va v.len vc) (.slice sa m sc) role wa hr)
  have HN := Lib.hid hN
  have HB := Lib.hid hb
  have HWA := Lib.hid hwa
  have HE := Lib.hid (he.below hb (Nat.le_of_lt hroom))
  have HV := Lib.hid (hv.keep (w' := wa) (fun b hlt => hb.block b hlt) (fun b hlt => Nat.lt_of_lt_of_le hlt hb.size))
  have hza : 24 < wa.heap.size := by have := hb.size; omega
  clear hb hN hwa he hv
  go_enter Tryz.func149, Tryz.ntmps149
  go_upto_region 1 with fail
  rw [← HWA.out]
  go_cut [7] (fun c wx => c = .bool (fairN1 op role loop) ∧ Hid (Below wa.heap.size wa wx))
  case first =>
    go_wp2_with fail
    refine STC.out.mono ?_
    rintro e w2 ⟨rfl, hb2⟩
    have hN2 := HN.out.below' hb2
    have x0 := hN2.c0
    have HB2 := Lib.hid hb2
    clear hb2 hN2 v0 v1 v2 v3 v4 v5 v6 v7
    cases hsx : standsP op role with
    | false =>
      have HF := Lib.hid (show fairN1 op role loop = false by unfold fairN1; rw [hsx]; rfl)
      clear hsx
      go_wp2_with fail
      go_meet
      exact ⟨by rw [HF.out], HB2.out⟩
    | true =>
      cases loop with
      | true =>
        have HF := Lib.hid (show fairN1 op role true = true by unfold fairN1; rw [hsx]; rfl)
        clear hsx
        go_wp2_with fail
        go_meet
        exact ⟨by rw [HF.out], HB2.out⟩
      | false =>
        by_cases h45 : op = 45
        · have HF := Lib.hid (show fairN1 op role false = false by unfold fairN1; rw [hsx, h45]; rfl)
          have b1 : (op != 45) = false := by rw [h45]; rfl
          clear hsx h45
          go_wp2_with fail
          go_meet
          exact ⟨by rw [HF.out], HB2.out⟩
        have b1 := bne_yes h45
        by_cases h46 : op = 46
        · have HF := Lib.hid (show fairN1 op role false = false by unfold fairN1; rw [hsx, h46]; rfl)
          have b2 : (op != 46) = false := by rw [h46]; rfl
          clear hsx h46 h45
          go_wp2_with fail
          go_meet
          exact ⟨by rw [HF.out], HB2.out⟩
        have b2 := bne_yes h46
        have HF := Lib.hid (show fairN1 op role false = true by unfold fairN1; rw [hsx, b1, b2]; rfl)
        clear hsx h46 h45
        go_wp2_with fail
        go_meet
        exact ⟨by rw [HF.out], HB2.out⟩
  case rest =>
    obtain ⟨rfl, hbx⟩ := hcut
    have hN3 := HN.out.below' hbx.out
    have HN3 := Lib.hid hN3
    have HE3 := Lib.hid (HE.out.below hbx.out (Nat.le_of_lt hza))
    have HV3 := Lib.hid (HV.out.keep (w' := wc) (fun b hlt => hbx.out.block b hlt) (fun b hlt => Nat.lt_of_lt_of_le hlt hbx.out.size))
    have HB3 := Lib.hid hbx.out
    have x0 := hN3.c0; have x1 := hN3.c1; have x2 := hN3.c2; have x3 := hN3.c3; have x4 := hN3.c4; have x5 := hN3.c5; have x6 := hN3.c6; have x7 := hN3.c7
    have VC := Lib.hid (valid_c k n t v va vc ea wc HE3.out ht hl hf hvc HV3.out)
    clear hbx hN3 v0 v1 v2 v3 v4 v5 v6 v7 STC
    have HEQ := Lib.hid (ownN_eq op s k n t v m role loop)
    obtain ⟨f1, hf1⟩ : ∃ f1, f1 = fairN1 op role loop := ⟨_, rfl⟩
    rw [← hf1] at HEQ ⊢
    clear hf1
    go_upto_if 30 with fail
    go_cut [7] (fun c wx => c = .bool (f1 && fairN2 op k n t v) ∧ Hid (Below wc.heap.size wc wx))
    case first =>
      by_cases h1 : op = 1
      · have b1 : (op == 1) = true := by rw [h1]; rfl
        have HF2 := Lib.hid (show fairN2 op k n t v = (k != 4 && (walk1 k n t v 1 4096).1 == 0 && (k != 0 || n != -9223372036854775808)) by unfold fairN2; rw [if_pos h1])
        clear h1
        cases f1 with
        | false =>
          go_wp2_with fail
          go_meet
          exact ⟨rfl, Below.refl _ _⟩
        | true =>
          by_cases h4 : k = 4
          · have b4 : (k != 4) = false := by rw [h4]; rfl
            have HF := Lib.hid (show (true && fairN2 op k n t v) = false by rw [HF2.out, b4]; rfl)
            clear h4 HF2
            go_wp2_with fail
            go_meet
            exact ⟨by rw [HF.out], Below.refl _ _⟩
          have b4 := bne_yes h4
          by_cases hw : (walk1 k n t v 1 4096).1 = 0
          · have e0 : errV ea (walk1 k n t v 1 4096).1 = .nilIface := by rw [hw]; rfl
            rw [e0] at VC
            have HF3 := Lib.hid (show fairN2 op k n t v = (k != 0 || n != -9223372036854775808) by rw [HF2.out, b4, hw]; rfl)
            clear h4 HF2 hw e0
            by_cases h0 : k = 0
            · have b0 : (k != 0) = false := by rw [h0]; rfl
              have HF := Lib.hid (show (true && fairN2 op k n t v) = (n != -9223372036854775808) by rw [HF3.out, b0]; simp)
              clear h0 HF3
              go_wp2_with fail
              refine VC.out.mono ?_
              rintro e w4 ⟨rfl, hb4⟩
              have hN4 := HN3.out.below' hb4
              have y3 := hN4.c3; have y4 := hN4.c4
              have HB4 := Lib.hid hb4
              clear hb4 hN4 x0 x1 x2 x3 x4 x5 x6 x7
              go_wp2_with fail
              go_meet
              exact ⟨by rw [HF.out], HB4.out⟩
            · have b0 := bne_yes h0
              have HF := Lib.hid (show (true && fairN2 op k n t v) = true by rw [HF3.out, b0]; rfl)
              clear h0 HF3
              go_wp2_with fail
              refine VC.out.mono ?_
              rintro e w4 ⟨rfl, hb4⟩
              have hN4 := HN3.out.below' hb4
              have y3 := hN4.c3; have y4 := hN4.c4
              have HB4 := Lib.hid hb4
              clear hb4 hN4 x0 x1 x2 x3 x4 x5 x6 x7
              go_wp2_with fail
              go_meet
              exact ⟨by rw [HF.out], HB4.out⟩
          · have e0 : errV ea (walk1 k n t v 1 4096).1 = .iface 270 (.pointer (some (ea (walk1 k n t v 1 4096).1))) := by unfold errV; rw [if_neg hw]
            rw [e0] at VC
            have HF := Lib.hid (show (true && fairN2 op k n t v) = false by rw [HF2.out, b4, beq_eq_false_iff_ne.2 hw]; rfl)
            clear h4 HF2 hw e0
            go_wp2_with fail
            refine VC.out.mono ?_
            rintro e w4 ⟨rfl, hb4⟩
            have HB4 := Lib.hid hb4
            clear hb4
            go_wp2_with fail
            go_meet
            exact ⟨by rw [HF.out], HB4.out⟩
      · have b1 := beq_no h1
        have HF2 := Lib.hid (show fairN2 op k n t v = (k == 0 && n == 0 && t.size == 0 && v.len == 0) by unfold fairN2; rw [if_neg h1])
        clear h1 VC
        cases f1 with
        | false =>
          go_wp2_with fail
          go_meet
          exact ⟨rfl, Below.refl _ _⟩
        | true =>
          by_cases h0 : k = 0
          case neg =>
            have b0 := beq_no h0
            have HF := Lib.hid (show (true && fairN2 op k n t v) = false by rw [HF2.out, b0]; rfl)
            clear h0 HF2
            go_wp2_with fail
            go_meet
            exact ⟨by rw [HF.out], Below.refl _ _⟩
          have b0 : (k == 0) = true := by rw [h0]; rfl
          by_cases hn : n = 0
          case neg =>
            have bn := beq_no hn
            have HF := Lib.hid (show (true && fairN2 op k n t v) = false by rw [HF2.out, b0, bn]; rfl)
            clear h0 HF2 hn
            go_wp2_with fail
            go_meet
            exact ⟨by rw [HF.out], Below.refl _ _⟩
          have bn : (n == 0) = true := by rw [hn]; rfl
          rcases empty_size t with ⟨g1, g2, g3⟩ | ⟨g1, g2, g3⟩
          case inr =>
            have HF := Lib.hid (show (true && fairN2 op k n t v) = false by rw [HF2.out, b0, bn, beq_eq_false_iff_ne.2 g3]; rfl)
            clear h0 HF2 hn g3
            go_wp2_with fail
            go_meet
            exact ⟨by rw [HF.out], Below.refl _ _⟩
          have HF := Lib.hid (show (true && fairN2 op k n t v) = ((v.len : Int) == 0) by rw [HF2.out, b0, bn, g3, show (0 : Int) = ((0 : Nat) : Int) from rfl, eq_nat]; simp)
          clear h0 HF2 hn g3
          go_wp2_with fail
          go_meet
          exact ⟨by rw [HF.out], Below.refl _ _⟩
    case rest =>
      obtain ⟨rfl, hbd⟩ := hcut
      have hN4 := HN3.out.below' hbd.out
      have HN4 := Lib.hid hN4
      have HE4 := Lib.hid (HE3.out.below hbd.out (by have := HB3.out.size; omega))
      have RC := Lib.hid (roles_c op ln s k n t (.slice va v.len vc) sa m sc wc hm)
      have y0 := hN4.c0; have y1 := hN4.c1; have y2 := hN4.c2; have y3 := hN4.c3; have y4 := hN4.c4; have y5 := hN4.c5; have y6 := hN4.c6; have y7 := hN4.c7
      have HB4 := Lib.hid (HB.out.trans (below_le' (HB3.out.trans (below_le' hbd.out HB3.out.size)) HB.out.size))
      clear hbd hN4 x0 x1 x2 x3 x4 x5 x6 x7 VC
      obtain ⟨f, hf⟩ : ∃ f, f = (f1 && fairN2 op k n t v) := ⟨_, rfl⟩
      rw [← hf] at HEQ ⊢
      clear hf
      go_wp2_with fail
      refine RC.out.mono ?_
      rintro e w5 ⟨rv, rfl, hro, hb5⟩
      have hN5 := HN4.out.below' (below_le' hb5 (Nat.le_refl _))
      have HN5 := Lib.hid hN5
      have HE5 := Lib.hid (HE4.out.below hb5 (Nat.le_of_lt HE4.out.room))
      have HB5 := Lib.hid (HB4.out.trans (below_le' hb5 HB4.out.size))
      have z0 := hN5.c0; have z2 := hN5.c2
      clear hro hb5 hN5 y0 y1 y2 y3 y4 y5 y6 y7 RC
      go_wp2_with fail
      refine (named_c op w5).mono ?_
      rintro e w6 ⟨rfl, rfl⟩
      have NC := Lib.hid (name_tc s w5 hs)
      cases f with
      | false =>
        have es := HE5.out.shape
        have HR := Lib.hid (show errV ea (ownC (ownN op s k n t v m role loop)) = .iface 270 (.pointer (some (ea 103))) by rw [HEQ.out]; rfl)
        clear HEQ
        go_wp2_with fail
        go_ret
        exact ⟨ret_val HR.out.symm, HB5.out⟩
      | true =>
        cases hb1 : (rolesP op m).2 with
        | false =>
          rw [hb1] at HEQ
          clear hb1
          have es := HE5.out.shape
          have HR := Lib.hid (show errV ea (ownC (ownN op s k n t v m role loop)) = .iface 270 (.pointer (some (ea 103))) by rw [HEQ.out]; rfl)
          clear HEQ
          go_wp2_with fail
          go_ret
          exact ⟨ret_val HR.out.symm, HB5.out⟩
        | true =>
          rw [hb1] at HEQ
          clear hb1
          cases hn1 : (namedP op).1 with
          | false =>
            rw [hn1] at HEQ
            clear hn1
            rcases empty_size s with ⟨g1, g2, g3⟩ | ⟨g1, g2, g3⟩
            · rw [g3] at HEQ
              clear g3
              have HR := Lib.hid (show errV ea (ownC (ownN op s k n t v m role loop)) = .nilIface by rw [HEQ.out]; rfl)
              clear HEQ
              go_wp2_with fail
              go_ret
              exact ⟨ret_val HR.out.symm, HB5.out⟩
            · have b3 := bne_iff_ne.2 g3
              rw [b3] at HEQ
              clear g3
              have es := HE5.out.shape
              have HR := Lib.hid (show errV ea (ownC (ownN op s k n t v m role loop)) = .iface 270 (.pointer (some (ea 103))) by rw [HEQ.out]; rfl)
              clear HEQ
              go_wp2_with fail
              go_ret
              exact ⟨ret_val HR.out.symm, HB5.out⟩
          | true =>
            rw [hn1] at HEQ
            clear hn1
            cases hnm : nameB s with
            | true =>
              rw [hnm] at HEQ NC
              clear hnm
              have HR := Lib.hid (show errV ea (ownC (ownN op s k n t v m role loop)) = .nilIface by rw [HEQ.out]; rfl)
              clear HEQ
              go_wp2_with fail
              refine NC.out.mono ?_
              rintro e w7 ⟨rfl, hb7⟩
              have hN7 := HN5.out.below' hb7
              have q2 := hN7.c2
              have en := (HE5.out.below hb7 (Nat.le_of_lt HE5.out.room)).name
              have HB7 := Lib.hid (HB5.out.trans (below_le' hb7 HB5.out.size))
              clear hb7 hN7 z0 z2
              go_wp2_with fail
              go_ret
              exact ⟨ret_val HR.out.symm, HB7.out⟩
            | false =>
              rw [hnm] at HEQ NC
              clear hnm
              cases hn2 : (namedP op).2 with
              | false =>
                rw [hn2] at HEQ
                clear hn2
                have HR := Lib.hid (show errV ea (ownC (ownN op s k n t v m role loop)) = .iface 270 (.pointer (some (ea 106))) by rw [HEQ.out]; rfl)
                clear HEQ
                go_wp2_with fail
                refine NC.out.mono ?_
                rintro e w7 ⟨rfl, hb7⟩
                have hN7 := HN5.out.below' hb7
                have q2 := hN7.c2
                have en := (HE5.out.below hb7 (Nat.le_of_lt HE5.out.room)).name
                have HB7 := Lib.hid (HB5.out.trans (below_le' hb7 HB5.out.size))
                clear hb7 hN7 z0 z2
                go_wp2_with fail
                go_ret
                exact ⟨ret_val HR.out.symm, HB7.out⟩
              | true =>
                rw [hn2] at HEQ
                clear hn2
                rcases empty_size s with ⟨g1, g2, g3⟩ | ⟨g1, g2, g3⟩
                · rw [g3] at HEQ
                  clear g3
                  have HR := Lib.hid (show errV ea (ownC (ownN op s k n t v m role loop)) = .nilIface by rw [HEQ.out]; rfl)
                  clear HEQ
                  go_wp2_with fail
                  refine NC.out.mono ?_
                  rintro e w7 ⟨rfl, hb7⟩
                  have hN7 := HN5.out.below' hb7
                  have q2 := hN7.c2
                  have en := (HE5.out.below hb7 (Nat.le_of_lt HE5.out.room)).name
                  have HB7 := Lib.hid (HB5.out.trans (below_le' hb7 HB5.out.size))
                  clear hb7 hN7 z0 z2
                  go_wp2_with fail
                  go_ret
                  exact ⟨ret_val HR.out.symm, HB7.out⟩
                · have b3 : (s.size == 0) = false := beq_eq_false_iff_ne.2 g3
                  rw [b3] at HEQ
                  clear g3
                  have HR := Lib.hid (show errV ea (ownC (ownN op s k n t v m role loop)) = .iface 270 (.pointer (some (ea 106))) by rw [HEQ.out]; rfl)
                  clear HEQ
                  go_wp2_with fail
                  refine NC.out.mono ?_
                  rintro e w7 ⟨rfl, hb7⟩
                  have hN7 := HN5.out.below' hb7
                  have q2 := hN7.c2
                  have en := (HE5.out.below hb7 (Nat.le_of_lt HE5.out.room)).name
                  have HB7 := Lib.hid (HB5.out.trans (below_le' hb7 HB5.out.size))
                  clear hb7 hN7 z0 z2
                  go_wp2_with fail
                  go_ret
                  exact ⟨ret_val HR.out.symm, HB7.out⟩
end Go.Proofs.YtggngahmafbihaaGreatDoor
namespace Go.Proofs.YtggngahmafbihaaGreatDoor

theorem roles_le8 (op : Int) (m : Nat) : ∀ x ∈ (rolesP op m).1, x ≤ 8 := by
  intro x hx
  by_cases hk : (1 ≤ op ∧ op ≤ 29) ∨ (40 ≤ op ∧ op ≤ 52)
  · have hk2 : op = 1 ∨ op = 2 ∨ op = 3 ∨ op = 4 ∨ (5 ≤ op ∧ op ≤ 18) ∨ op = 19 ∨ op = 20 ∨ op = 21 ∨ op = 22 ∨ op = 23 ∨ op = 24 ∨ op = 25 ∨ op = 26 ∨ op = 27 ∨ op = 28 ∨ op = 29 ∨ op = 40 ∨ op = 41 ∨ op = 42 ∨ op = 43 ∨ op = 44 ∨ op = 45 ∨ op = 46 ∨ op = 47 ∨ op = 48 ∨ op = 49 ∨ op = 50 ∨ op = 51 ∨ op = 52 := by omega
    rcases hk2 with rfl | rfl | rfl | rfl | hb | rfl | rfl | rfl | rfl | rfl | rfl | rfl | rfl | rfl | rfl | rfl | rfl | rfl | rfl | rfl | rfl | rfl | rfl | rfl | rfl | rfl | rfl | rfl | rfl
    · have e : x ∈ ([] : List Nat) := hx
      simp at e
    · have e : x ∈ ([] : List Nat) := hx
      simp at e
    · have e : x ∈ ([0] : List Nat) := hx
      simp at e; omega
    · have e : x ∈ ([0] : List Nat) := hx
      simp at e; omega
    · have e : (rolesP op m).1 = [0, 0] := by unfold rolesP; rw [if_neg (by omega), if_neg (by omega), if_pos (by omega)]
      rw [e] at hx
      simp at hx; omega
    · have e : x ∈ ([0, 0, 0] : List Nat) := hx
      simp at e; omega
    · have e : x ∈ ([0, 0] : List Nat) := hx
      simp at e; omega
    · have e : x ∈ ([0, 0, 0] : List Nat) := hx
      simp at e; omega
    · have e : x ∈ ([0, 0] : List Nat) := hx
      simp at e; omega
    · have e : x ∈ [0, 0] ++ List.replicate (m - 2) 1 := hx
      simp only [List.mem_append, List.mem_replicate, List.mem_cons, List.not_mem_nil, or_false] at e; omega
    · have e : x ∈ List.replicate m 1 := hx
      rw [List.mem_replicate] at e; omega
    · have e : x ∈ List.replicate m 1 := hx
      rw [List.mem_replicate] at e; omega
    · have e : x ∈ ([0] : List Nat) := hx
      simp at e; omega
    · have e : x ∈ ([2, 0] : List Nat) := hx
      simp at e; omega
    · have e : x ∈ (List.replicate (m - 2) 3 ++ (if 1 < m then [4] else [])) ++ [0] := hx
      split at e <;> simp only [List.mem_append, List.mem_replicate, List.mem_cons, List.not_mem_nil, or_false] at e <;> omega
    · have e : x ∈ [0, 5, 0].take (Nat.min m 3) := hx
      have e := List.mem_of_mem_take e
      simp at e; omega
    · have e : x ∈ ([0] : List Nat) := hx
      simp at e; omega
    · have e : x ∈ (List.range m).map (fun i => if m % 2 = 1 ∧ i = m - 1 then 6 else if i % 2 = 0 then 0 else 6) := hx
      rw [List.mem_map] at e
      obtain ⟨a, _, rfl⟩ := e
      split
      · omega
      · split <;> omega
    · have e : x ∈ ([0, 6] : List Nat) := hx
      simp at e; omega
    · have e : x ∈ ([0, 0, 6] : List Nat) := hx
      simp at e; omega
    · have e : x ∈ ([0, 6] : List Nat) := hx
      simp at e; omega
    · have e : x ∈ ([] : List Nat) := hx
      simp at e
    · have e : x ∈ ([] : List Nat) := hx
      simp at e
    · have e : x ∈ List.replicate m 0 := hx
      rw [List.mem_replicate] at e; omega
    · have e : x ∈ ([0, 6] : List Nat) := hx
      simp at e; omega
    · have e : x ∈ [6] ++ List.replicate (m - 1) 8 := hx
      simp only [List.mem_append, List.mem_replicate, List.mem_cons, List.not_mem_nil, or_false] at e; omega
    · have e : x ∈ ([5, 6] : List Nat) := hx
      simp at e; omega
    · have e : x ∈ ([6, 6] : List Nat) := hx
      simp at e; omega
    · have e : x ∈ List.replicate m 7 := hx
      rw [List.mem_replicate] at e; omega
  · have e : (rolesP op m).1 = [] := by
      unfold rolesP
      iterate 17 rw [if_neg (by omega)]
    rw [e] at hx; cases hx
theorem sub_role_le8 (op : Int) (m role : Nat) (loop : Bool) (j : Nat) : (subRole op m role loop j).1 ≤ 8 := by
  have h1 : (rolesP op m).1.getD j 0 ≤ 8 := by
    rw [List.getD_eq_getElem?_getD]
    cases e : (rolesP op m).1[j]? with
    | none => exact Nat.zero_le _
    | some x => exact roles_le8 op m x (List.mem_of_getElem? e)
  unfold subRole
  simp only
  split
  · omega
  · split
    · omega
    · split
      · omega
      · exact h1
end Go.Proofs.YtggngahmafbihaaGreatDoor
namespace Go.Proofs.YtggngahmafbihaaGreatDoor
open Go.RowKit Go.Lib
set_option linter.unusedVariables false

def CountC (N : Nat) : Prop := ∀ (l : NL) (A : Option Addr) (c : Nat) (n : Int) (w : World), l.tot < N → l.fit → l.len ≤ 140737488351232 → l.len ≤ c → RpN w (fun b => b < w.heap.size) l A → 0 ≤ n → n ≤ 4096 →
  Calls Tryz.prog 103 #[.slice A l.len c, .int .i64 n] w fun e w' => e = .returned (.int .i64 (countN l n)) ∧ Below w.heap.size w w'

set_option maxRecDepth 100000 in
set_option maxHeartbeats 1000000 in
theorem count_step (N : Nat) (ih : ∀ N', N' < N → CountC N') : CountC N := by
  intro l A c n w hN hfit hlen hc hrep hn0 hn1
  have HRP := Lib.hid hrep
  clear hrep
  go_enter Tryz.func103, Tryz.ntmps103
  go_wp2_with fail
  go_loopg [1, 9] l.len (fun kk m v wr => ∃ (i : Nat) (x : Int), m = .int .i64 x ∧ v = .int .i64 i ∧ i + kk = l.len ∧ 0 ≤ x ∧ x ≤ 4096 ∧ Below w.heap.size w wr ∧ Hid (countN (l.drop i) x = countN l n))
  case atStart => exact ⟨0, n, rfl, rfl, by omega, hn0, hn1, Below.refl _ _, by show countN (l.drop 0) _ = _; rw [NL.drop]⟩
  case round =>
    obtain ⟨i, x, rfl, rfl, hik, hx0, hx1, hbr, hcn⟩ := hrel
    by_cases hi : i < l.len
    · obtain ⟨g, rfl⟩ : ∃ g, gk = g + 1 := ⟨gk - 1, by omega⟩
      obtain ⟨b, o, op, ln, s, k, nn, t, v, sub, va, vc, sa, sc, hA, hSb, hd, c0, c1, c2, c3, c4, c5, c6, hvc, hv, c7, hsc, hs⟩ := (HRP.out.below hbr (fun b hb => hb)).nth hi
      have hfd := NL.fit_drop i l hfit
      have htd := NL.tot_drop i l
      rw [hd] at hfd htd
      simp only [NL.tot] at htd
      obtain ⟨-, -, -, -, hf5, hf6, -⟩ := hfd
      obtain ⟨wx, hwx⟩ : ∃ wx, wx = wr.alloc (.cells #[.int .i64 op, .int .i64 ln, .string s, .int .i64 k, .int .i64 nn, .string t, .slice va v.len vc, .slice sa sub.len sc] 31) := ⟨_, rfl⟩
      have hbx : Below wr.heap.size wr wx := by rw [hwx]; exact (Below.refl _ _).alloc (Nat.le_refl _) _
      have hnb : NdB wx wr.heap.size (.int .i64 op) (.int .i64 ln) (.string s) (.int .i64 k) (.int .i64 nn) (.string t) (.slice va v.len vc) (.slice sa sub.len sc) := by rw [hwx]; exact NdB.new _ _ _ _ _ _ _ _ _
      have y7 := hnb.c7
      rw [hwx] at y7
      have HST := Lib.hid hcn
      rw [hd, countN] at HST
      have HBR := Lib.hid (hbr.trans (below_le' hbx hbr.size))
      have HW := Lib.hid hwx
      subst hA
      by_cases hm : (4096 : Int) < x + 1
      · have hdd : decide (x + 1 > 4096) = true := by simp; omega
        rw [if_pos hm] at HST
        clear hbr hcn hs hv hwx hbx hnb
        go_wp2_with fail
        rw [← HW.out]
        go_ret
        exact ⟨ret_val (by rw [← HST.out]; rfl), HBR.out⟩
      · rw [if_neg hm] at HST
        have hr := countN_range sub (x + 1) (by omega) (by omega)
        have IHC := Lib.hid (ih (sub.tot + 1) (by omega) sub sa sc (x + 1) wx (by omega) hf6 hf5 hsc (hs.keep (fun b hb => hbx.block b (by have := hbr.size; omega)) (fun b hb => by have := hbr.size; have := hbx.size; omega)) (by omega) (by omega))
        obtain ⟨r, hrr⟩ : ∃ r, r = countN sub (x + 1) := ⟨_, rfl⟩
        rw [← hrr] at IHC HST hr
        clear hbr hcn hs hv hwx hbx hnb hrr
        go_wp2_with fail
        rw [← HW.out]
        refine IHC.out.mono ?_
        rintro e w2 ⟨rfl, hb2⟩
        have HB2 := Lib.hid (HBR.out.trans (below_le' hb2 HBR.out.size))
        clear hb2 y7 c0 c1 c2 c3 c4 c5 c6 c7
        by_cases hm2 : (4096 : Int) < r
        · rw [if_pos hm2] at HST
          go_wp2_with fail
          go_ret
          exact ⟨ret_val (by rw [← HST.out]; rfl), HB2.out⟩
        · rw [if_neg hm2] at HST
          go_wp2_with fail
          go_roundg g
          case measure => omega
          case rel => exact ⟨i + 1, r, rfl, by go_num, by omega, hr.1, by omega, HB2.out, HST.out⟩
    · obtain rfl : i = l.len := by omega
      rw [NL.drop_len] at hcn
      have HN := Lib.hid hcn
      have HBR := Lib.hid hbr
      clear hcn hbr
      go_wp2_with fail
      go_ret
      exact ⟨ret_val (by rw [← HN.out]; rfl), HBR.out⟩

theorem count_c (N : Nat) : CountC N := by
  induction N using Nat.strongRecOn with
  | _ N ih => exact count_step N ih

/-- How deep the first so many are. -/
theorem deep_take_succ {i : Nat} {l : NL} {op ln : Int} {s : ByteArray} {k n : Int} {t : ByteArray} {v : VL} {sub : NL} (hd : l.drop i = .cons op ln s k n t v sub (l.drop (i + 1))) : (l.take (i + 1)).deep = Nat.max (l.take i).deep (1 + sub.deep) := by
  rw [NL.take_succ i l op ln s k n t v sub hd, NL.deep_app]
  simp only [NL.deep]
  congr 1
  exact Nat.max_eq_left (Nat.zero_le _)
def DeepC (N : Nat) : Prop := ∀ (l : NL) (A : Option Addr) (c : Nat) (w : World), l.tot < N → l.tot ≤ 4096 → l.fit → l.len ≤ 140737488351232 → l.len ≤ c → RpN w (fun b => b < w.heap.size) l A →
  Calls Tryz.prog 104 #[.slice A l.len c] w fun e w' => e = .returned (.int .i64 l.deep) ∧ Below w.heap.size w w'

set_option maxRecDepth 100000 in
set_option maxHeartbeats 1000000 in
theorem deep_step (N : Nat) (ih : ∀ N', N' < N → DeepC N') : DeepC N := by
  intro l A c w hN h4 hfit hlen hc hrep
  have HRP := Lib.hid hrep
  clear hrep
  go_enter Tryz.func104, Tryz.ntmps104
  go_wp2_with fail
  go_loopg [3, 8] l.len (fun kk m v wr => ∃ (i : Nat) (x : Nat), m = .int .i64 x ∧ v = .int .i64 i ∧ i + kk = l.len ∧ x ≤ 4096 ∧ Below w.heap.size w wr ∧ Hid (x = (l.take i).deep))
  case atStart => exact ⟨0, 0, rfl, rfl, by omega, by omega, Below.refl _ _, by show 0 = (l.take 0).deep; rw [NL.take]; rfl⟩
  case round =>
    obtain ⟨i, x, rfl, rfl, hik, hx1, hbr, hcn⟩ := hrel
    by_cases hi : i < l.len
    · obtain ⟨g, rfl⟩ : ∃ g, gk = g + 1 := ⟨gk - 1, by omega⟩
      obtain ⟨b, o, op, ln, s, k, nn, t, v, sub, va, vc, sa, sc, hA, hSb, hd, c0, c1, c2, c3, c4, c5, c6, hvc, hv, c7, hsc, hs⟩ := (HRP.out.below hbr (fun b hb => hb)).nth hi
      have hfd := NL.fit_drop i l hfit
      have htd := NL.tot_drop i l
      rw [hd] at hfd htd
      simp only [NL.tot] at htd
      obtain ⟨-, -, -, -, hf5, hf6, -⟩ := hfd
      obtain ⟨wx, hwx⟩ : ∃ wx, wx = wr.alloc (.cells #[.int .i64 op, .int .i64 ln, .string s, .int .i64 k, .int .i64 nn, .string t, .slice va v.len vc, .slice sa sub.len sc] 31) := ⟨_, rfl⟩
      have hbx : Below wr.heap.size wr wx := by rw [hwx]; exact (Below.refl _ _).alloc (Nat.le_refl _) _
      have hnb : NdB wx wr.heap.size (.int .i64 op) (.int .i64 ln) (.string s) (.int .i64 k) (.int .i64 nn) (.string t) (.slice va v.len vc) (.slice sa sub.len sc) := by rw [hwx]; exact NdB.new _ _ _ _ _ _ _ _ _
      have y7 := hnb.c7
      rw [hwx] at y7
      have HST := Lib.hid (deep_take_succ hd)
      have hds := NL.deep_tot sub
      have HBR := Lib.hid (hbr.trans (below_le' hbx hbr.size))
      have HW := Lib.hid hwx
      have IHC := Lib.hid (ih (sub.tot + 1) (by omega) sub sa sc wx (by omega) (by omega) hf6 hf5 hsc (hs.keep (fun b hb => hbx.block b (by have := hbr.size; omega)) (fun b hb => by have := hbr.size; have := hbx.size; omega)))
      obtain ⟨d, hdd⟩ : ∃ d, d = sub.deep := ⟨_, rfl⟩
      rw [← hdd] at IHC HST hds
      have HX := Lib.hid hcn
      subst hA
      clear hbr hcn hs hv hwx hbx hnb hdd
      have e1 : IntKind.i64.wrap (1 + (d : Int)) = 1 + (d : Int) := IntWalk.i64_in _ (by omega)
      go_wp2_with fail
      rw [← HW.out]
      refine IHC.out.mono ?_
      rintro e w2 ⟨rfl, hb2⟩
      have HB2 := Lib.hid (HBR.out.trans (below_le' hb2 HBR.out.size))
      clear hb2 y7 c0 c1 c2 c3 c4 c5 c6 c7
      by_cases hm2 : x < 1 + d
      · have q1 : (x : Int) < 1 + (d : Int) := by omega
        go_wp2_with fail
        go_roundg g
        case measure => omega
        case rel => exact ⟨i + 1, 1 + d, by go_num, by go_num, by omega, by omega, HB2.out, by show 1 + d = _; rw [HST.out, ← HX.out]; exact (Nat.max_eq_right (by omega)).symm⟩
      · have q1 : 1 + (d : Int) ≤ (x : Int) := by omega
        go_wp2_with fail
        go_roundg g
        case measure => omega
        case rel => exact ⟨i + 1, x, by go_num, by go_num, by omega, hx1, HB2.out, by show x = _; rw [HST.out, ← HX.out]; exact (Nat.max_eq_left (by omega)).symm⟩
    · obtain rfl : i = l.len := by omega
      rw [NL.take_len] at hcn
      have HN := Lib.hid hcn
      have HBR := Lib.hid hbr
      clear hcn hbr
      go_wp2_with fail
      go_ret
      exact ⟨ret_val (by rw [← HN.out.out]; rfl), HBR.out⟩

theorem deep_c (N : Nat) : DeepC N := by
  induction N using Nat.strongRecOn with
  | _ N ih => exact deep_step N ih
end Go.Proofs.YtggngahmafbihaaGreatDoor
