/- Contracts of the functions that the statement reaches, and the plain mathematics beneath: several texts joined. -/
import Derived.Deep.AppendLies
import Derived.Deep.DeepCutAuto
import Derived.Deep.CutBlock
import Derived.Test.YtggngahmafbihaaGreatDoorPbiAM
import Derived.Test.YtggngahmafbihaaGreatDoorPbiAZ
import Derived.Test.YtggngahmafbihaaGreatDoorPbiAQ
import Derived.Test.YtggngahmafbihaaGreatDoorPbiAX
import Derived.Test.YtggngahmafbihaaGreatDoorPbiAY
import Derived.Test.YtggngahmafbihaaGreatDoorPbiAO
import Derived.Test.YtggngahmafbihaaGreatDoorPbiAV
import Derived.Test.YtggngahmafbihaaGreatDoorPbiAN
namespace Go.Proofs.YtggngahmafbihaaGreatDoor
open Go.RowKit Go.Lib
set_option linter.unusedVariables false

def rolI (i : Nat) : Nat := if i % 2 = 0 then 0 else 6
theorem rows_succ (i : Nat) : ints ((List.range (i + 1)).map rolI) = ints ((List.range i).map rolI) ++ [.int .i64 (rolI i : Int)] := by
  rw [List.range_succ, List.map_append, ints_app]; rfl
theorem rows_len (i : Nat) : ((List.range i).map rolI).length = i := by simp
theorem roles_41_even (m : Nat) (h : m % 2 = 0) : (rolesP 41 m).1 = (List.range m).map rolI := by
  show (List.range m).map (fun i => if m % 2 = 1 ∧ i = m - 1 then 6 else if i % 2 = 0 then 0 else 6) = _
  apply List.map_congr_left
  intro i _
  rw [if_neg (by omega)]; rfl
theorem roles_41_odd (m : Nat) (h : m % 2 = 1) : ints (rolesP 41 m).1 = (ints ((List.range m).map rolI)).set (m - 1) (.int .i64 6) := by
  obtain ⟨j, rfl⟩ : ∃ j, m = j + 1 := ⟨m - 1, by omega⟩
  have e : (rolesP 41 (j + 1)).1 = (List.range (j + 1)).map (fun i => if (j + 1) % 2 = 1 ∧ i = j + 1 - 1 then 6 else if i % 2 = 0 then 0 else 6) := rfl
  rw [e, rows_succ, List.range_succ, List.map_append, ints_app, show j + 1 - 1 = j from rfl, List.set_append_right _ _ (by rw [ints_len, rows_len]; exact Nat.le_refl _), ints_len, rows_len, Nat.sub_self]
  congr 1
  · congr 1
    apply List.map_congr_left
    intro i hi
    rw [List.mem_range] at hi
    rw [if_neg (by omega)]; rfl
  · show ints [if (j + 1) % 2 = 1 ∧ j = j then 6 else _] = _
    rw [if_pos ⟨h, rfl⟩]; rfl

set_option maxRecDepth 100000 in
set_option maxHeartbeats 4000000 in
theorem roles_41 (ln : Int) (s : ByteArray) (k n : Int) (t : ByteArray) (vv : Value) (sa : Option Addr) (m sc : Nat) (w : World) (hm : m ≤ 4096) :
    Calls Tryz.prog 150 #[.agg #[.int .i64 41, .int .i64 ln, .string s, .int .i64 k, .int .i64 n, .string t, vv, .slice sa m sc]] w (RolesOut w 41 m) := by
  obtain ⟨wa, hwa⟩ : ∃ wa, wa = w.alloc (.cells #[.int .i64 41, .int .i64 ln, .string s, .int .i64 k, .int .i64 n, .string t, vv, .slice sa m sc] 31) := ⟨_, rfl⟩
  have hb : Below w.heap.size w wa := by rw [hwa]; exact (Below.refl _ _).alloc (Nat.le_refl _) _
  have hN : NdB wa w.heap.size (.int .i64 41) (.int .i64 ln) (.string s) (.int .i64 k) (.int .i64 n) (.string t) vv (.slice sa m sc) := by rw [hwa]; exact NdB.new _ _ _ _ _ _ _ _ _
  have v0 := hN.c0; have v7 := hN.c7
  rw [hwa] at v0 v7
  have HB := Lib.hid hb
  have HWA := Lib.hid hwa
  clear hb hN hwa
  obtain ⟨i0, hi0, hz0, hz1, hz2⟩ := info_partsN int_info
  go_enter Tryz.func150, Tryz.ntmps150
  go_wp2_with fail
  rw [← HWA.out]
  go_loopg [7, 114] m (fun kk ov v wr => ∃ (bv : Value) (i : Nat), bv = ov ∧ v = .int .i64 i ∧ i + kk = m ∧ wr.ownsRow wa.heap.size 3 1 bv i (ints ((List.range i).map rolI)) ∧ Below w.heap.size w wr ∧ wa.heap.size ≤ wr.heap.size)
  case atStart => exact ⟨.slice none 0 0, 0, rfl, rfl, by omega, World.ownsRow_nil _ _ _ _, HB.out, Nat.le_refl _⟩
  case round =>
    obtain ⟨bv, i, rfl, rfl, hik, hrow, hbr, hrz⟩ := hrel
    by_cases hi : i < m
    · obtain ⟨g, rfl⟩ : ∃ g, gk = g + 1 := ⟨gk - 1, by omega⟩
      have HROW := Lib.hid hrow
      have HBR := Lib.hid hbr
      clear hrow hbr
      obtain ⟨wx, hwx⟩ : ∃ wx, wx = wr.alloc (.cells #[.int .i64 0, .int .i64 6] 3) := ⟨_, rfl⟩
      have hbx : Below wr.heap.size wr wx := by rw [hwx]; exact (Below.refl _ _).alloc (Nat.le_refl _) _
      have hxh := heap_alloc_new wr (.cells #[.int .i64 0, .int .i64 6] 3)
      have x0 := cell_of_row _ wr.heap.size 0 _ _ _ hxh
      have x1 := cell_of_row _ wr.heap.size 1 _ _ _ hxh
      have hxz : wx.heap.size = wr.heap.size + 1 := by rw [hwx]; simp
      have HX := Lib.hid (own_belowN HROW.out hbx)
      have HBX := Lib.hid (HBR.out.trans (below_le' hbx HBR.out.size))
      have HWX := Lib.hid hwx
      clear hbx hxh hwx
      rcases Nat.mod_two_eq_zero_or_one i with hp | hp
      · have t1 : Int.tmod (i : Int) 2 = 0 := by rw [Int.tmod_eq_emod_of_nonneg (by omega)]; omega
        have hri : rolI i = 0 := by unfold rolI; rw [if_pos hp]
        go_wp2_with (at_builtin; refine wpList_append_own _ rfl (.tmp 117) (.tmp 123) 24 rfl wa.heap.size 3 i0 (.int .i64 0) 1 8 Tryz.underlying24 hi0 hz0 hz1 hz2 rfl (by decide) bv i (ints ((List.range i).map rolI)) rfl (own_belowN (by rw [← HWX.out]; exact HX.out) ((Below.refl _ _).alloc (Nat.le_refl _) _)) ⟨wr.heap.size + 1, 0, none⟩ 1 1 [.int .i64 0] rfl rfl ?c1 ?c2 ?c3 ?c4 ?c5 ?c6
                     case c1 => have h := cell_one_new (wr.alloc (.cells #[.int .i64 0, .int .i64 6] 3)) (.int .i64 0) 3; rw [show (wr.alloc (.cells #[.int .i64 0, .int .i64 6] 3)).heap.size = wr.heap.size + 1 by simp] at h; exact h
                     case c2 => intro u hu; simp at hu; subst hu; rfl
                     case c3 => unfold maxLen; omega
                     case c4 => omega
                     case c5 => simp; omega
                     rw [← HWX.out]
                     intro v' w11 hown' hgrow _
                     have hb3 := HBX.out.alloc HBX.out.size (.cells #[.int .i64 0] 3)
                     have HB11 := Lib.hid (grown_belowN hb3 hb3.size hgrow (fun k hk => Nat.le_trans HB.out.size (own_geN HX.out k hk)))
                     have HZ11 := Lib.hid (show wa.heap.size ≤ w11.heap.size by have := hgrow.size; simp at this; omega)
                     have HO11 := Lib.hid hown'
                     clear hown' hgrow hb3)
        go_roundg g
        case measure => omega
        case rel => exact ⟨v', i + 1, rfl, by go_num, by omega, by rw [rows_succ, hri]; exact HO11.out, HB11.out, HZ11.out⟩
      · have t1 : Int.tmod (i : Int) 2 = 1 := by rw [Int.tmod_eq_emod_of_nonneg (by omega)]; omega
        have hri : rolI i = 6 := by unfold rolI; rw [if_neg (by omega)]
        go_wp2_with (at_builtin; refine wpList_append_own _ rfl (.tmp 117) (.tmp 123) 24 rfl wa.heap.size 3 i0 (.int .i64 0) 1 8 Tryz.underlying24 hi0 hz0 hz1 hz2 rfl (by decide) bv i (ints ((List.range i).map rolI)) rfl (own_belowN (by rw [← HWX.out]; exact HX.out) ((Below.refl _ _).alloc (Nat.le_refl _) _)) ⟨wr.heap.size + 1, 0, none⟩ 1 1 [.int .i64 6] rfl rfl ?d1 ?d2 ?d3 ?d4 ?d5 ?d6
                     case d1 => have h := cell_one_new (wr.alloc (.cells #[.int .i64 0, .int .i64 6] 3)) (.int .i64 6) 3; rw [show (wr.alloc (.cells #[.int .i64 0, .int .i64 6] 3)).heap.size = wr.heap.size + 1 by simp] at h; exact h
                     case d2 => intro u hu; simp at hu; subst hu; rfl
                     case d3 => unfold maxLen; omega
                     case d4 => omega
                     case d5 => simp; omega
                     rw [← HWX.out]
                     intro v' w11 hown' hgrow _
                     have hb3 := HBX.out.alloc HBX.out.size (.cells #[.int .i64 6] 3)
                     have HB11 := Lib.hid (grown_belowN hb3 hb3.size hgrow (fun k hk => Nat.le_trans HB.out.size (own_geN HX.out k hk)))
                     have HZ11 := Lib.hid (show wa.heap.size ≤ w11.heap.size by have := hgrow.size; simp at this; omega)
                     have HO11 := Lib.hid hown'
                     clear hown' hgrow hb3)
        go_roundg g
        case measure => omega
        case rel => exact ⟨v', i + 1, rfl, by go_num, by omega, by rw [rows_succ, hri]; exact HO11.out, HB11.out, HZ11.out⟩
    · obtain rfl : i = m := by omega
      have HR2 := Lib.hid (show decide ((2 : Int) ≤ (i : Int)) = (rolesP 41 i).2 by rw [show (rolesP 41 i).2 = decide (2 ≤ i) from rfl, ← le_nat]; rfl)
      rcases Nat.mod_two_eq_zero_or_one i with hp | hp
      · have t1 : Int.tmod (i : Int) 2 = 0 := by rw [Int.tmod_eq_emod_of_nonneg (by omega)]; omega
        have HROW := Lib.hid hrow
        have HBR := Lib.hid hbr
        have HRE := Lib.hid (roles_41_even i hp)
        clear hrow hbr hp
        go_wp2_with fail
        go_ret2
        refine ⟨bv, ret_tup (c := .nilIface) HR2.out, ?_, HBR.out⟩
        rw [HRE.out, rows_len]
        exact own_lower HROW.out HB.out.size
      · have t1 : Int.tmod (i : Int) 2 = 1 := by rw [Int.tmod_eq_emod_of_nonneg (by omega)]; omega
        have q0 : (0 : Int) < (i : Int) := by omega
        obtain ⟨j, hj⟩ : ∃ j : Nat, i = j + 1 := ⟨i - 1, by omega⟩
        have e1 : IntKind.i64.wrap ((i : Int) - 1) = (j : Int) := by rw [show (i : Int) - 1 = (j : Int) by omega]; exact IntWalk.i64_in _ (by omega)
        have g4 : j < i := by omega
        obtain ⟨g, cap, hv, hbg, hlt⟩ := hrow.form (by omega)
        subst hv
        have f0 := hrow.frozenAt j
        obtain ⟨u0, hu0⟩ : ∃ u0 : Nat, (ints ((List.range i).map rolI))[j]? = some (.int .i64 (u0 : Int)) := by
          refine ⟨rolI j, ?_⟩
          simp [ints, g4]
        have c0 : wr.cell? ⟨g, j, none⟩ = some (.int .i64 (u0 : Int)) := by rw [hrow.cellAt j (by omega)]; exact hu0
        have hst := hrow.stored j (.int .i64 6)
        have HRO := Lib.hid (roles_41_odd i hp)
        rw [show i - 1 = j by omega] at HRO
        rw [← HRO.out] at hst
        have HS := Lib.hid hst
        have HBR := Lib.hid hbr
        have HL := Lib.hid (show (rolesP 41 i).1.length = i by show ((List.range i).map _).length = i; rw [List.length_map, List.length_range])
        clear hrow hbr hst hp hu0 hj
        go_wp2_with fail
        go_ret2
        refine ⟨_, ret_tup (c := .nilIface) HR2.out, ?_, grown_belowN HBR.out HBR.out.size HS.out.2 (fun k hk => by injection hk with hk; subst hk; have := HB.out.size; omega)⟩
        rw [HL.out]
        exact own_lower HS.out.1 HB.out.size
end Go.Proofs.YtggngahmafbihaaGreatDoor
namespace Go.Proofs.YtggngahmafbihaaGreatDoor
open Go.RowKit Go.Lib
set_option linter.unusedVariables false

theorem roles_c (op ln : Int) (s : ByteArray) (k n : Int) (t : ByteArray) (vv : Value) (sa : Option Addr) (m sc : Nat) (w : World) (hm : m ≤ 4096) :
    Calls Tryz.prog 150 #[.agg #[.int .i64 op, .int .i64 ln, .string s, .int .i64 k, .int .i64 n, .string t, vv, .slice sa m sc]] w (RolesOut w op m) := by
  by_cases h : (1 ≤ op ∧ op ≤ 29) ∨ (40 ≤ op ∧ op ≤ 52)
  · have hk : op = 1 ∨ op = 2 ∨ op = 3 ∨ op = 4 ∨ op = 5 ∨ op = 6 ∨ op = 7 ∨ op = 8 ∨ op = 9 ∨ op = 10 ∨ op = 11 ∨ op = 12 ∨ op = 13 ∨ op = 14 ∨ op = 15 ∨ op = 16 ∨ op = 17 ∨ op = 18 ∨ op = 19 ∨ op = 20 ∨ op = 21 ∨ op = 22 ∨ op = 23 ∨ op = 24 ∨ op = 25 ∨ op = 26 ∨ op = 27 ∨ op = 28 ∨ op = 29 ∨ op = 40 ∨ op = 41 ∨ op = 42 ∨ op = 43 ∨ op = 44 ∨ op = 45 ∨ op = 46 ∨ op = 47 ∨ op = 48 ∨ op = 49 ∨ op = 50 ∨ op = 51 ∨ op = 52 := by omega
    rcases hk with rfl | rfl | rfl | rfl | rfl | rfl | rfl | rfl | rfl | rfl | rfl | rfl | rfl | rfl | rfl | rfl | rfl | rfl | rfl | rfl | rfl | rfl | rfl | rfl | rfl | rfl | rfl | rfl | rfl | rfl | rfl | rfl | rfl | rfl | rfl | rfl | rfl | rfl | rfl | rfl | rfl | rfl
    · exact roles_1 ln s k n t vv sa m sc w hm
    · exact roles_2 ln s k n t vv sa m sc w hm
    · exact roles_3 ln s k n t vv sa m sc w hm
    · exact roles_4 ln s k n t vv sa m sc w hm
    · exact roles_5 ln s k n t vv sa m sc w hm
    · exact roles_6 ln s k n t vv sa m sc w hm
    · exact roles_7 ln s k n t vv sa m sc w hm
    · exact roles_8 ln s k n t vv sa m sc w hm
    · exact roles_9 ln s k n t vv sa m sc w hm
    · exact roles_10 ln s k n t vv sa m sc w hm
    · exact roles_11 ln s k n t vv sa m sc w hm
    · exact roles_12 ln s k n t vv sa m sc w hm
    · exact roles_13 ln s k n t vv sa m sc w hm
    · exact roles_14 ln s k n t vv sa m sc w hm
    · exact roles_15 ln s k n t vv sa m sc w hm
    · exact roles_16 ln s k n t vv sa m sc w hm
    · exact roles_17 ln s k n t vv sa m sc w hm
    · exact roles_18 ln s k n t vv sa m sc w hm
    · exact roles_19 ln s k n t vv sa m sc w hm
    · exact roles_20 ln s k n t vv sa m sc w hm
    · exact roles_21 ln s k n t vv sa m sc w hm
    · exact roles_22 ln s k n t vv sa m sc w hm
    · exact roles_23 ln s k n t vv sa m sc w hm
    · exact roles_24 ln s k n t vv sa m sc w hm
    · exact roles_25 ln s k n t vv sa m sc w hm
    · exact roles_26 ln s k n t vv sa m sc w hm
    · exact roles_27 ln s k n t vv sa m sc w hm
    · exact roles_28 ln s k n t vv sa m sc w hm
    · exact roles_29 ln s k n t vv sa m sc w hm
    · exact roles_40 ln s k n t vv sa m sc w hm
    · exact roles_41 ln s k n t vv sa m sc w hm
    · exact roles_42 ln s k n t vv sa m sc w hm
    · exact roles_43 ln s k n t vv sa m sc w hm
    · exact roles_44 ln s k n t vv sa m sc w hm
    · exact roles_45 ln s k n t vv sa m sc w hm
    · exact roles_46 ln s k n t vv sa m sc w hm
    · exact roles_47 ln s k n t vv sa m sc w hm
    · exact roles_48 ln s k n t vv sa m sc w hm
    · exact roles_49 ln s k n t vv sa m sc w hm
    · exact roles_50 ln s k n t vv sa m sc w hm
    · exact roles_51 ln s k n t vv sa m sc w hm
    · exact roles_52 ln s k n t vv sa m sc w hm
  · exact roles_none ln s k n t vv sa m sc w hm op h
end Go.Proofs.YtggngahmafbihaaGreatDoor
namespace Go.Proofs.YtggngahmafbihaaGreatDoor
open Go.RowKit Go.Lib
set_option linter.unusedVariables false

/-- What is amiss, by the errors' numbers. -/
def ownC (c : Nat) : Nat := if c = 0 then 0 else if c = 1 then 103 else 106
theorem empty_size (s : ByteArray) : (s.toList.isEmpty = true ∧ s.toList = [] ∧ s.size = 0) ∨ (s.toList.isEmpty = false ∧ ¬s.toList = [] ∧ s.size ≠ 0) := by
  have hs : s.data.toList.length = s.size := by rw [Array.length_toList]; rfl
  rcases empty_iff s with ⟨h1, h2, h3⟩ | ⟨h1, h2, h3⟩
  · exact .inl ⟨h1, h2, by rw [← hs, h3]; rfl⟩
  · exact .inr ⟨h1, h2, fun e => h3 (List.eq_nil_of_length_eq_zero (by omega))⟩
/-- May a node stand there, as far as it itself goes? -/
def fairN1 (op : Int) (role : Nat) (loop : Bool) : Bool := standsP op role && (loop || (op != 45 && op != 46))
def fairN2 (op k n : Int) (t : ByteArray) (v : VL) : Bool := if op = 1 then k != 4 && (walk1 k n t v 1 4096).1 == 0 && (k != 0 || n != -9223372036854775808) else k == 0 && n == 0 && t.size == 0 && v.len == 0
theorem ownN_eq (op : Int) (s : ByteArray) (k n : Int) (t : ByteArray) (v : VL) (m role : Nat) (loop : Bool) :
    ownN op s k n t v m role loop = if (!(fairN1 op role loop && fairN2 op k n t v) || !(rolesP op m).2 || (!(namedP op).1 && s.size != 0)) = true then 1 else if ((namedP op).1 && !nameB s && !((namedP op).2 && s.size == 0)) = true then 2 else 0 := rfl

set_option maxRecDepth 100000 in
set_option maxHeartbeats 4000000 in
theorem own_tc (op ln : Int) (s : ByteArray) (k n : Int) (t : ByteArray) (v : VL) (va : Option Addr) (vc : Nat) (sa : Option Addr) (m sc : Nat) (role : Nat) (loop : Bool) (ea : Nat → Addr) (w : World) (he : ErrsAt w ea)
    (hs : s.size ≤ 140737488351232) (ht : t.size ≤ 140737488351232) (hl : v.len ≤ 140737488351232) (hf : v.fit) (hvc : v.len ≤ vc) (hm : m ≤ 4096) (hr : role ≤ 8) (hv : RpL w (fun b => b < w.heap.size) v va) :
    Calls Tryz.prog 149 #[.agg #[.int .i64 op, .int .i64 ln, .string s, .int .i64 k, .int .i64 n, .string t, .slice va v.len vc, .slice sa m sc], .int .i64 (role : Int), .bool loop] w
      fun e w' => e = .returned (errV ea (ownC (ownN op s k n t v m role loop))) ∧ Below w.heap.size w w' := by
  have hroom := he.room
  obtain ⟨wa, hwa⟩ : ∃ wa, wa = w.alloc (.cells #[.int .i64 op, .int .i64 ln, .string s, .int .i64 k, .int .i64 n, .string t, .slice va v.len vc, .slice sa m sc] 31) := ⟨_, rfl⟩
  have hb : Below w.heap.size w wa := by rw [hwa]; exact (Below.refl _ _).alloc (Nat.le_refl _) _
  have hN : NdB wa w.heap.size (.int .i64 op) (.int .i64 ln) (.string s) (.int .i64 k) (.int .i64 n) (.string t) (.slice va v.len vc) (.slice sa m sc) := by rw [hwa]; exact NdB.new _ _ _ _ _ _ _ _ _
  have v0 := hN.c0; have v1 := hN.c1; have v2 := hN.c2; have v3 := hN.c3; have v4 := hN.c4; have v5 := hN.c5; have v6 := hN.c6; have v7 := hN.c7
  have STC := Lib.hid (stands_c op ln s k n t (.slice va v.len vc) (.slice sa m sc) role wa hr)
  have HN := Lib.hid hN
  have HB := Lib.hid hb
  have HWA := Lib.hid hwa
  have HE := Lib.hid (he.below hb (Nat.le_of_lt hroom))
  have HV := Lib.hid (hv.keep (w' := wa) (fun b hlt => hb.block b hlt) (fun b hlt => Nat.lt_of_lt_of_le hlt hb.size))
  have hza : 24 < wa.heap.size := by have := hb.size; omega
  clear hb hN hwa he hv
  go_enter Tryz.func149, Tryz.ntmps149
  go_upto_region 1 with fail
  rw [← HWA.out]
  go_cut [7] (fun c wx => c = .bool (fairN1 op role loop) ∧ Hid (Below wa.heap.size wa wx))
  case first =>
    go_wp2_with fail
    refine STC.out.mono ?_
    rintro e w2 ⟨rfl, hb2⟩
    have hN2 := HN.out.below' hb2
    have x0 := hN2.c0
    have HB2 := Lib.hid hb2
    clear hb2 hN2 v0 v1 v2 v3 v4 v5 v6 v7
    cases hsx : standsP op role with
    | false =>
      have HF := Lib.hid (show fairN1 op role loop = false by unfold fairN1; rw [hsx]; rfl)
      clear hsx
      go_wp2_with fail
      go_meet
      exact ⟨by rw [HF.out], HB2.out⟩
    | true =>
      cases loop with
      | true =>
        have HF := Lib.hid (show fairN1 op role true = true by unfold fairN1; rw [hsx]; rfl)
        clear hsx
        go_wp2_with fail
        go_meet
        exact ⟨by rw [HF.out], HB2.out⟩
      | false =>
        by_cases h45 : op = 45
        · have HF := Lib.hid (show fairN1 op role false = false by unfold fairN1; rw [hsx, h45]; rfl)
          have b1 : (op != 45) = false := by rw [h45]; rfl
          clear hsx h45
          go_wp2_with fail
          go_meet
          exact ⟨by rw [HF.out], HB2.out⟩
        have b1 := bne_yes h45
        by_cases h46 : op = 46
        · have HF := Lib.hid (show fairN1 op role false = false by unfold fairN1; rw [hsx, h46]; rfl)
          have b2 : (op != 46) = false := by rw [h46]; rfl
          clear hsx h46 h45
          go_wp2_with fail
          go_meet
          exact ⟨by rw [HF.out], HB2.out⟩
        have b2 := bne_yes h46
        have HF := Lib.hid (show fairN1 op role false = true by unfold fairN1; rw [hsx, b1, b2]; rfl)
        clear hsx h46 h45
        go_wp2_with fail
        go_meet
        exact ⟨by rw [HF.out], HB2.out⟩
  case rest =>
    obtain ⟨rfl, hbx⟩ := hcut
    have hN3 := HN.out.below' hbx.out
    have HN3 := Lib.hid hN3
    have HE3 := Lib.hid (HE.out.below hbx.out (Nat.le_of_lt hza))
    have HV3 := Lib.hid (HV.out.keep (w' := wc) (fun b hlt => hbx.out.block b hlt) (fun b hlt => Nat.lt_of_lt_of_le hlt hbx.out.size))
    have HB3 := Lib.hid hbx.out
    have x0 := hN3.c0; have x1 := hN3.c1; have x2 := hN3.c2; have x3 := hN3.c3; have x4 := hN3.c4; have x5 := hN3.c5; have x6 := hN3.c6; have x7 := hN3.c7
    have VC := Lib.hid (valid_c k n t v va vc ea wc HE3.out ht hl hf hvc HV3.out)
    clear hbx hN3 v0 v1 v2 v3 v4 v5 v6 v7 STC
    have HEQ := Lib.hid (ownN_eq op s k n t v m role loop)
    obtain ⟨f1, hf1⟩ : ∃ f1, f1 = fairN1 op role loop := ⟨_, rfl⟩
    rw [← hf1] at HEQ ⊢
    clear hf1
    go_upto_if 30 with fail
    go_cut [7] (fun c wx => c = .bool (f1 && fairN2 op k n t v) ∧ Hid (Below wc.heap.size wc wx))
    case first =>
      by_cases h1 : op = 1
      · have b1 : (op == 1) = true := by rw [h1]; rfl
        have HF2 := Lib.hid (show fairN2 op k n t v = (k != 4 && (walk1 k n t v 1 4096).1 == 0 && (k != 0 || n != -9223372036854775808)) by unfold fairN2; rw [if_pos h1])
        clear h1
        cases f1 with
        | false =>
          go_wp2_with fail
          go_meet
          exact ⟨rfl, Below.refl _ _⟩
        | true =>
          by_cases h4 : k = 4
          · have b4 : (k != 4) = false := by rw [h4]; rfl
            have HF := Lib.hid (show (true && fairN2 op k n t v) = false by rw [HF2.out, b4]; rfl)
            clear h4 HF2
            go_wp2_with fail
            go_meet
            exact ⟨by rw [HF.out], Below.refl _ _⟩
          have b4 := bne_yes h4
          by_cases hw : (walk1 k n t v 1 4096).1 = 0
          · have e0 : errV ea (walk1 k n t v 1 4096).1 = .nilIface := by rw [hw]; rfl
            rw [e0] at VC
            have HF3 := Lib.hid (show fairN2 op k n t v = (k != 0 || n != -9223372036854775808) by rw [HF2.out, b4, hw]; rfl)
            clear h4 HF2 hw e0
            by_cases h0 : k = 0
            · have b0 : (k != 0) = false := by rw [h0]; rfl
              have HF := Lib.hid (show (true && fairN2 op k n t v) = (n != -9223372036854775808) by rw [HF3.out, b0]; simp)
              clear h0 HF3
              go_wp2_with fail
              refine VC.out.mono ?_
              rintro e w4 ⟨rfl, hb4⟩
              have hN4 := HN3.out.below' hb4
              have y3 := hN4.c3; have y4 := hN4.c4
              have HB4 := Lib.hid hb4
              clear hb4 hN4 x0 x1 x2 x3 x4 x5 x6 x7
              go_wp2_with fail
              go_meet
              exact ⟨by rw [HF.out], HB4.out⟩
            · have b0 := bne_yes h0
              have HF := Lib.hid (show (true && fairN2 op k n t v) = true by rw [HF3.out, b0]; rfl)
              clear h0 HF3
              go_wp2_with fail
              refine VC.out.mono ?_
              rintro e w4 ⟨rfl, hb4⟩
              have hN4 := HN3.out.below' hb4
              have y3 := hN4.c3; have y4 := hN4.c4
              have HB4 := Lib.hid hb4
              clear hb4 hN4 x0 x1 x2 x3 x4 x5 x6 x7
              go_wp2_with fail
              go_meet
              exact ⟨by rw [HF.out], HB4.out⟩
          · have e0 : errV ea (walk1 k n t v 1 4096).1 = .iface 270 (.pointer (some (ea (walk1 k n t v 1 4096).1))) := by unfold errV; rw [if_neg hw]
            rw [e0] at VC
            have HF := Lib.hid (show (true && fairN2 op k n t v) = false by rw [HF2.out, b4, beq_eq_false_iff_ne.2 hw]; rfl)
            clear h4 HF2 hw e0
            go_wp2_with fail
            refine VC.out.mono ?_
            rintro e w4 ⟨rfl, hb4⟩
            have HB4 := Lib.hid hb4
            clear hb4
            go_wp2_with fail
            go_meet
            exact ⟨by rw [HF.out], HB4.out⟩
      · have b1 := beq_no h1
        have HF2 := Lib.hid (show fairN2 op k n t v = (k == 0 && n == 0 && t.size == 0 && v.len == 0) by unfold fairN2; rw [if_neg h1])
        clear h1 VC
        cases f1 with
        | false =>
          go_wp2_with fail
          go_meet
          exact ⟨rfl, Below.refl _ _⟩
        | true =>
          by_cases h0 : k = 0
          case neg =>
            have b0 := beq_no h0
            have HF := Lib.hid (show (true && fairN2 op k n t v) = false by rw [HF2.out, b0]; rfl)
            clear h0 HF2
            go_wp2_with fail
            go_meet
            exact ⟨by rw [HF.out], Below.refl _ _⟩
          have b0 : (k == 0) = true := by rw [h0]; rfl
          by_cases hn : n = 0
          case neg =>
            have bn := beq_no hn
            have HF := Lib.hid (show (true && fairN2 op k n t v) = false by rw [HF2.out, b0, bn]; rfl)
            clear h0 HF2 hn
            go_wp2_with fail
            go_meet
            exact ⟨by rw [HF.out], Below.refl _ _⟩
          have bn : (n == 0) = true := by rw [hn]; rfl
          rcases empty_size t with ⟨g1, g2, g3⟩ | ⟨g1, g2, g3⟩
          case inr =>
            have HF := Lib.hid (show (true && fairN2 op k n t v) = false by rw [HF2.out, b0, bn, beq_eq_false_iff_ne.2 g3]; rfl)
            clear h0 HF2 hn g3
            go_wp2_with fail
            go_meet
            exact ⟨by rw [HF.out], Below.refl _ _⟩
          have HF := Lib.hid (show (true && fairN2 op k n t v) = ((v.len : Int) == 0) by rw [HF2.out, b0, bn, g3, show (0 : Int) = ((0 : Nat) : Int) from rfl, eq_nat]; simp)
          clear h0 HF2 hn g3
          go_wp2_with fail
          go_meet
          exact ⟨by rw [HF.out], Below.refl _ _⟩
    case rest =>
      obtain ⟨rfl, hbd⟩ := hcut
      have hN4 := HN3.out.below' hbd.out
      have HN4 := Lib.hid hN4
      have HE4 := Lib.hid (HE3.out.below hbd.out (by have := HB3.out.size; omega))
      have RC := Lib.hid (roles_c op ln s k n t (.slice va v.len vc) sa m sc wc hm)
      have y0 := hN4.c0; have y1 := hN4.c1; have y2 := hN4.c2; have y3 := hN4.c3; have y4 := hN4.c4; have y5 := hN4.c5; have y6 := hN4.c6; have y7 := hN4.c7
      have HB4 := Lib.hid (HB.out.trans (below_le' (HB3.out.trans (below_le' hbd.out HB3.out.size)) HB.out.size))
      clear hbd hN4 x0 x1 x2 x3 x4 x5 x6 x7 VC
      obtain ⟨f, hf⟩ : ∃ f, f = (f1 && fairN2 op k n t v) := ⟨_, rfl⟩
      rw [← hf] at HEQ ⊢
      clear hf
      go_wp2_with fail
      refine RC.out.mono ?_
      rintro e w5 ⟨rv, rfl, hro, hb5⟩
      have hN5 := HN4.out.below' (below_le' hb5 (Nat.le_refl _))
      have HN5 := Lib.hid hN5
      have HE5 := Lib.hid (HE4.out.below hb5 (Nat.le_of_lt HE4.out.room))
      have HB5 := Lib.hid (HB4.out.trans (below_le' hb5 HB4.out.size))
      have z0 := hN5.c0; have z2 := hN5.c2
      clear hro hb5 hN5 y0 y1 y2 y3 y4 y5 y6 y7 RC
      go_wp2_with fail
      refine (named_c op w5).mono ?_
      rintro e w6 ⟨rfl, rfl⟩
      have NC := Lib.hid (name_tc s w5 hs)
      cases f with
      | false =>
        have es := HE5.out.shape
        have HR := Lib.hid (show errV ea (ownC (ownN op s k n t v m role loop)) = .iface 270 (.pointer (some (ea 103))) by rw [HEQ.out]; rfl)
        clear HEQ
        go_wp2_with fail
        go_ret
        exact ⟨ret_val HR.out.symm, HB5.out⟩
      | true =>
        cases hb1 : (rolesP op m).2 with
        | false =>
          rw [hb1] at HEQ
          clear hb1
          have es := HE5.out.shape
          have HR := Lib.hid (show errV ea (ownC (ownN op s k n t v m role loop)) = .iface 270 (.pointer (some (ea 103))) by rw [HEQ.out]; rfl)
          clear HEQ
          go_wp2_with fail
          go_ret
          exact ⟨ret_val HR.out.symm, HB5.out⟩
        | true =>
          rw [hb1] at HEQ
          clear hb1
          cases hn1 : (namedP op).1 with
          | false =>
            rw [hn1] at HEQ
            clear hn1
            rcases empty_size s with ⟨g1, g2, g3⟩ | ⟨g1, g2, g3⟩
            · rw [g3] at HEQ
              clear g3
              have HR := Lib.hid (show errV ea (ownC (ownN op s k n t v m role loop)) = .nilIface by rw [HEQ.out]; rfl)
              clear HEQ
              go_wp2_with fail
              go_ret
              exact ⟨ret_val HR.out.symm, HB5.out⟩
            · have b3 := bne_iff_ne.2 g3
              rw [b3] at HEQ
              clear g3
              have es := HE5.out.shape
              have HR := Lib.hid (show errV ea (ownC (ownN op s k n t v m role loop)) = .iface 270 (.pointer (some (ea 103))) by rw [HEQ.out]; rfl)
              clear HEQ
              go_wp2_with fail
              go_ret
              exact ⟨ret_val HR.out.symm, HB5.out⟩
          | true =>
            rw [hn1] at HEQ
            clear hn1
            cases hnm : nameB s with
            | true =>
              rw [hnm] at HEQ NC
              clear hnm
              have HR := Lib.hid (show errV ea (ownC (ownN op s k n t v m role loop)) = .nilIface by rw [HEQ.out]; rfl)
              clear HEQ
              go_wp2_with fail
              refine NC.out.mono ?_
              rintro e w7 ⟨rfl, hb7⟩
              have hN7 := HN5.out.below' hb7
              have q2 := hN7.c2
              have en := (HE5.out.below hb7 (Nat.le_of_lt HE5.out.room)).name
              have HB7 := Lib.hid (HB5.out.trans (below_le' hb7 HB5.out.size))
              clear hb7 hN7 z0 z2
              go_wp2_with fail
              go_ret
              exact ⟨ret_val HR.out.symm, HB7.out⟩
            | false =>
              rw [hnm] at HEQ NC
              clear hnm
              cases hn2 : (namedP op).2 with
              | false =>
                rw [hn2] at HEQ
                clear hn2
                have HR := Lib.hid (show errV ea (ownC (ownN op s k n t v m role loop)) = .iface 270 (.pointer (some (ea 106))) by rw [HEQ.out]; rfl)
                clear HEQ
                go_wp2_with fail
                refine NC.out.mono ?_
                rintro e w7 ⟨rfl, hb7⟩
                have hN7 := HN5.out.below' hb7
                have q2 := hN7.c2
                have en := (HE5.out.below hb7 (Nat.le_of_lt HE5.out.room)).name
                have HB7 := Lib.hid (HB5.out.trans (below_le' hb7 HB5.out.size))
                clear hb7 hN7 z0 z2
                go_wp2_with fail
                go_ret
                exact ⟨ret_val HR.out.symm, HB7.out⟩
              | true =>
                rw [hn2] at HEQ
                clear hn2
                rcases empty_size s with ⟨g1, g2, g3⟩ | ⟨g1, g2, g3⟩
                · rw [g3] at HEQ
                  clear g3
                  have HR := Lib.hid (show errV ea (ownC (ownN op s k n t v m role loop)) = .nilIface by rw [HEQ.out]; rfl)
                  clear HEQ
                  go_wp2_with fail
                  refine NC.out.mono ?_
                  rintro e w7 ⟨rfl, hb7⟩
                  have hN7 := HN5.out.below' hb7
                  have q2 := hN7.c2
                  have en := (HE5.out.below hb7 (Nat.le_of_lt HE5.out.room)).name
                  have HB7 := Lib.hid (HB5.out.trans (below_le' hb7 HB5.out.size))
                  clear hb7 hN7 z0 z2
                  go_wp2_with fail
                  go_ret
                  exact ⟨ret_val HR.out.symm, HB7.out⟩
                · have b3 : (s.size == 0) = false := beq_eq_false_iff_ne.2 g3
                  rw [b3] at HEQ
                  clear g3
                  have HR := Lib.hid (show errV ea (ownC (ownN op s k n t v m role loop)) = .iface 270 (.pointer (some (ea 106))) by rw [HEQ.out]; rfl)
                  clear HEQ
                  go_wp2_with fail
                  refine NC.out.mono ?_
                  rintro e w7 ⟨rfl, hb7⟩
                  have hN7 := HN5.out.below' hb7
                  have q2 := hN7.c2
                  have en := (HE5.out.below hb7 (Nat.le_of_lt HE5.out.room)).name
                  have HB7 := Lib.hid (HB5.out.trans (below_le' hb7 HB5.out.size))
                  clear hb7 hN7 z0 z2
                  go_wp2_with fail
                  go_ret
                  exact ⟨ret_val HR.out.symm, HB7.out⟩
end Go.Proofs.YtggngahmafbihaaGreatDoor
namespace Go.Proofs.YtggngahmafbihaaGreatDoor
open Go.RowKit Go.Lib
set_option linter.unusedVariables false

/-- What is amiss with one node and what it has. -/
def walkNode (op ln : Int) (s : ByteArray) (k n : Int) (t : ByteArray) (v : VL) (sub : NL) (role : Nat) (loop : Bool) : Option (Int × Nat) :=
  if ownN op s k n t v sub.len role loop ≠ 0 then some (ln, ownN op s k n t v sub.len role loop) else walkN sub (subRole op sub.len role loop) 0
theorem walkN_cons (op ln : Int) (s : ByteArray) (k n : Int) (t : ByteArray) (v : VL) (sub r : NL) (f : Nat → Nat × Bool) (i : Nat) :
    walkN (.cons op ln s k n t v sub r) f i = (match walkNode op ln s k n t v sub (f i).1 (f i).2 with | some e => some e | none => walkN r f (i + 1)) := by
  rw [walkN]
  unfold walkNode
  by_cases h : ownN op s k n t v sub.len (f i).1 (f i).2 ≠ 0
  · rw [if_pos h, if_pos h]
  · rw [if_neg h, if_neg h]
    cases walkN sub (subRole op sub.len (f i).1 (f i).2) 0 <;> rfl
/-- What a call of walk leaves. -/
def PW (w : World) (ea : Nat → Addr) (res : Option (Int × Nat)) (e : Ending) (w' : World) : Prop :=
  Below w.heap.size w w' ∧ match res with
    | none => e = .returned .nilIface
    | some (l, c) => ∃ A, w.heap.size ≤ A ∧ w'.heap[A]? = some (.cells #[.int .i64 l, errV ea (ownC c)] 73 (0, 0)) ∧ e = .returned (.iface 70 (.pointer (some ⟨A, 0, none⟩)))

theorem roles_len {op : Int} {m : Nat} (h : (rolesP op m).2 = true) : (rolesP op m).1.length = m := by
  by_cases hk : (1 ≤ op ∧ op ≤ 29) ∨ (40 ≤ op ∧ op ≤ 52)
  · have hk2 : op = 1 ∨ op = 2 ∨ op = 3 ∨ op = 4 ∨ (5 ≤ op ∧ op ≤ 18) ∨ op = 19 ∨ op = 20 ∨ op = 21 ∨ op = 22 ∨ op = 23 ∨ op = 24 ∨ op = 25 ∨ op = 26 ∨ op = 27 ∨ op = 28 ∨ op = 29 ∨ op = 40 ∨ op = 41 ∨ op = 42 ∨ op = 43 ∨ op = 44 ∨ op = 45 ∨ op = 46 ∨ op = 47 ∨ op = 48 ∨ op = 49 ∨ op = 50 ∨ op = 51 ∨ op = 52 := by omega
    rcases hk2 with rfl | rfl | rfl | rfl | hb | rfl | rfl | rfl | rfl | rfl | rfl | rfl | rfl | rfl | rfl | rfl | rfl | rfl | rfl | rfl | rfl | rfl | rfl | rfl | rfl | rfl | rfl | rfl | rfl
    case inr.inr.inr.inr.inl =>
      have e : rolesP op m = ([0, 0], m == 2) := by unfold rolesP; rw [if_neg (by omega), if_neg (by omega), if_pos (by omega)]
      rw [e] at h ⊢
      simp at h ⊢; omega
    case inr.inr.inr.inr.inr.inr.inr.inr.inr.inr.inr.inr.inr.inr.inl =>
      have e : rolesP 28 m = ((List.replicate (m - 2) 3 ++ (if 1 < m then [4] else [])) ++ [0], decide (2 ≤ m)) := rfl
      rw [e] at h ⊢
      simp only [decide_eq_true_eq] at h
      rw [if_pos (by omega)]
      simp; omega
    case inr.inr.inr.inr.inr.inr.inr.inr.inr.inr.inr.inr.inr.inr.inr.inl =>
      have e : rolesP 29 m = ([0, 5, 0].take (min m 3), m == 2 || m == 3) := rfl
      rw [e] at h ⊢
      simp at h
      rcases h with rfl | rfl <;> rfl
    all_goals (simp [rolesP] at h ⊢; try omega)
  · have e : rolesP op m = ([], false) := by
      unfold rolesP
      iterate 17 rw [if_neg (by omega)]
    rw [e] at h; cases h
theorem roles_at {op : Int} {m : Nat} {v : Value} {w : World} {B : Nat} (ho : w.ownsRow B 3 1 v (rolesP op m).1.length (ints (rolesP op m).1)) {i : Nat} (hi : i < (rolesP op m).1.length) :
    ∃ g cap, v = .slice (some ⟨g, 0, none⟩) (rolesP op m).1.length cap ∧ g < w.heap.size ∧ w.cell? ⟨g, i, none⟩ = some (.int .i64 (((rolesP op m).1.getD i 0 : Nat) : Int)) := by
  obtain ⟨g, cap, cur, hv, hbg, hh, hq, hcm, hcs, ht⟩ : ∃ g cap cur, v = .slice (some ⟨g, 0, none⟩) (rolesP op m).1.length cap ∧ B ≤ g ∧ w.heap[g]? = some (.cells cur 3 (0, 0)) ∧ (rolesP op m).1.length ≤ cap ∧ cap ≤ maxLen ∧ cur.size = cap * 1 ∧ cur.toList.take ((rolesP op m).1.length * 1) = ints (rolesP op m).1 := by
    rcases ho.2 with ⟨_, h0⟩ | h
    · omega
    · exact h
  refine ⟨g, cap, hv, ?_, ?_⟩
  · rcases Nat.lt_or_ge g w.heap.size with hlt | hge
    · exact hlt
    · rw [Array.getElem?_eq_none hge] at hh; cases hh
  · subst hv
    rw [ho.cellAt i (by omega)]
    unfold ints
    rw [List.getElem?_map, List.getD_eq_getElem?_getD]
    rw [List.getElem?_eq_getElem hi]; rfl

theorem sub_role_1 (op : Int) (m role : Nat) (loop : Bool) (j : Nat) : (subRole op m role loop j).1 = if role = 5 then 0 else if role = 2 ∧ op = 20 ∧ j = 0 then 2 else if role = 4 ∧ op = 26 then 3 else (rolesP op m).1.getD j 0 := rfl
theorem sub_role_2 (op : Int) (m role : Nat) (loop : Bool) (j : Nat) : (subRole op m role loop j).2 = ((loop && op != 48) || (loopsP op && (subRole op m role loop j).1 == 6)) := rfl
theorem int_beq {a b : Nat} (h : a ≠ b) : ((a : Int) == (b : Int)) = false := beq_no (by omega)

def WalkTC (N : Nat) : Prop := ∀ (op ln : Int) (s : ByteArray) (k n : Int) (t : ByteArray) (v : VL) (va : Option Addr) (vc : Nat) (sub : NL) (sa : Option Addr) (sc : Nat) (role : Nat) (loop : Bool) (ea : Nat → Addr) (w : World), sub.tot < N → sub.tot ≤ 4096 → ErrsAt w ea →
  s.size ≤ 140737488351232 → t.size ≤ 140737488351232 → v.len ≤ 140737488351232 → v.fit → v.len ≤ vc → sub.fit → sub.len ≤ sc → role ≤ 8 → RpL w (fun b => b < w.heap.size) v va → RpN w (fun b => b < w.heap.size) sub sa →
  Calls Tryz.prog 105 #[.agg #[.int .i64 op, .int .i64 ln, .string s, .int .i64 k, .int .i64 n, .string t, .slice va v.len vc, .slice sa sub.len sc], .int .i64 (role : Int), .bool loop] w
    (PW w ea (walkNode op ln s k n t v sub role loop))

set_option maxRecDepth 100000 in
set_option maxHeartbeats 4000000 in
theorem walk_tstep (N : Nat) (ih : ∀ N', N' < N → WalkTC N') : WalkTC N := by
  intro op ln s k n t v va vc sub sa sc role loop ea w hN h4 he hs ht hl hf hvc hsf hsc hr hv hsub
  have hroom := he.room
  have hsl := NL.len_tot sub
  obtain ⟨wa, hwa⟩ : ∃ wa, wa = w.alloc (.cells #[.int .i64 op, .int .i64 ln, .string s, .int .i64 k, .int .i64 n, .string t, .slice va v.len vc, .slice sa sub.len sc] 31) := ⟨_, rfl⟩
  have hb : Below w.heap.size w wa := by rw [hwa]; exact (Below.refl _ _).alloc (Nat.le_refl _) _
  have hN1 : NdB wa w.heap.size (.int .i64 op) (.int .i64 ln) (.string s) (.int .i64 k) (.int .i64 n) (.string t) (.slice va v.len vc) (.slice sa sub.len sc) := by rw [hwa]; exact NdB.new _ _ _ _ _ _ _ _ _
  have v0 := hN1.c0; have v1 := hN1.c1; have v2 := hN1.c2; have v3 := hN1.c3; have v4 := hN1.c4; have v5 := hN1.c5; have v6 := hN1.c6; have v7 := hN1.c7
  rw [hwa] at v0 v1 v2 v3 v4 v5 v6 v7
  have hea := he.below hb (Nat.le_of_lt hroom)
  have OC := Lib.hid (own_tc op ln s k n t v va vc sa sub.len sc role loop ea wa hea hs ht hl hf hvc (by omega) hr (hv.keep (w' := wa) (fun b hlt => hb.block b hlt) (fun b hlt => Nat.lt_of_lt_of_le hlt hb.size)))
  have HN := Lib.hid hN1
  have HB := Lib.hid hb
  have HWA := Lib.hid hwa
  have HE := Lib.hid hea
  have HS := Lib.hid (hsub.keep (w' := wa) (fun b hlt => hb.block b hlt) (fun b hlt => Nat.lt_of_lt_of_le hlt hb.size))
  have hza : 24 < wa.heap.size := by have := hb.size; omega
  clear hb hN1 hwa he hv hsub hea
  go_enter Tryz.func105, Tryz.ntmps105
  go_wp2_with fail
  rw [← HWA.out]
  refine OC.out.mono ?_
  rintro e w2 ⟨rfl, hb2⟩
  have HB2 := Lib.hid hb2
  have HN2 := Lib.hid (HN.out.below' hb2)
  have HE2 := Lib.hid (HE.out.below hb2 (Nat.le_of_lt hza))
  have HS2 := Lib.hid (HS.out.keep (w' := w2) (fun b hlt => hb2.block b hlt) (fun b hlt => Nat.lt_of_lt_of_le hlt hb2.size))
  have HBW := Lib.hid (HB.out.trans (below_le' hb2 HB.out.size))
  have x0 := HN2.out.c0; have x1 := HN2.out.c1; have x2 := HN2.out.c2; have x3 := HN2.out.c3; have x4 := HN2.out.c4; have x5 := HN2.out.c5; have x6 := HN2.out.c6; have x7 := HN2.out.c7
  clear hb2 v0 v1 v2 v3 v4 v5 v6 v7 OC
  by_cases ho : ownN op s k n t v sub.len role loop ≠ 0
  · have HR := Lib.hid (show walkNode op ln s k n t v sub role loop = some (ln, ownN op s k n t v sub.len role loop) by unfold walkNode; rw [if_pos ho])
    obtain ⟨c, hc⟩ : ∃ c, c = ownN op s k n t v sub.len role loop := ⟨_, rfl⟩
    rw [← hc] at HR ho ⊢
    have hne : errV ea (ownC c) = .iface 270 (.pointer (some (ea (ownC c)))) := by
      unfold errV ownC; rw [if_neg]
      by_cases h1 : c = 1
      · rw [if_neg ho, if_pos h1]; decide
      · rw [if_neg ho, if_neg h1]; decide
    have HNE := Lib.hid hne
    rw [hne]
    clear hc hne ho
    go_wp2_with fail
    go_ret
    rw [HR.out]
    refine ⟨HBW.out.alloc HBW.out.size _, w2.heap.size, HBW.out.size, ?_, rfl⟩
    rw [heap_alloc_new, HNE.out]
  have ho0 : ownN op s k n t v sub.len role loop = 0 := by omega
  have HRES := Lib.hid (show walkNode op ln s k n t v sub role loop = walkN sub (subRole op sub.len role loop) 0 by unfold walkNode; rw [if_neg ho])
  have hrl : (rolesP op sub.len).2 = true := by
    obtain ⟨A, B, C, D, e⟩ : ∃ A B C D : Bool, ownN op s k n t v sub.len role loop = (if (!A || !B || C) = true then 1 else if D = true then 2 else 0) ∧ B = (rolesP op sub.len).2 := ⟨_, _, _, _, rfl, rfl⟩
    rw [e.1] at ho0
    rw [← e.2]
    cases A <;> cases B <;> cases C <;> cases D <;> simp_all
  have hrlen := roles_len hrl
  rw [ho0, show errV ea (ownC 0) = .nilIface from rfl]
  clear ho ho0
  have RC := Lib.hid (roles_c op ln s k n t (.slice va v.len vc) sa sub.len sc w2 (by omega))
  go_wp2_with fail
  refine RC.out.mono ?_
  rintro e w3 ⟨rv, rfl, hro, hb3⟩
  have HRO := Lib.hid hro
  have HN3 := Lib.hid (HN2.out.below' hb3)
  have HE3 := Lib.hid (HE2.out.below hb3 (Nat.le_of_lt HE2.out.room))
  have HS3 := Lib.hid (HS2.out.keep (w' := w3) (fun b hlt => hb3.block b hlt) (fun b hlt => Nat.lt_of_lt_of_le hlt hb3.size))
  have HB3 := Lib.hid (HBW.out.trans (below_le' hb3 HBW.out.size))
  have z0 := HN3.out.c0; have z7 := HN3.out.c7
  clear hro hb3 x0 x1 x2 x3 x4 x5 x6 x7 RC
  go_wp2_with fail
  go_loopg [35] sub.len (fun kk v wr => ∃ (i : Nat), v = .int .i64 i ∧ i + kk = sub.len ∧ Hid (Below w3.heap.size w3 wr) ∧ Hid (walkN (sub.drop i) (subRole op sub.len role loop) i = walkN sub (subRole op sub.len role loop) 0))
  case atStart => exact ⟨0, rfl, by omega, Below.refl _ _, by show walkN (sub.drop 0) _ _ = _; rw [NL.drop]⟩
  case round =>
    obtain ⟨i, rfl, hik, hbr, hwn⟩ := hrel
    by_cases hi : i < sub.len
    · obtain ⟨g, rfl⟩ : ∃ g, gk = g + 1 := ⟨gk - 1, by omega⟩
      obtain ⟨b, o, op', ln', s', k', n', t', v', sub', va', vc', sa', sc', hA, hSb, hd, c0, c1, c2, c3, c4, c5, c6, hvc', hv', c7, hsc', hs'⟩ := (HS3.out.below hbr.out (fun b hb => hb)).nth hi
      have hfd := NL.fit_drop i sub hsf
      have htd := NL.tot_drop i sub
      rw [hd] at hfd htd
      simp only [NL.tot] at htd
      obtain ⟨hf1, hf2, hf3, hf4, hf5, hf6, -⟩ := hfd
      obtain ⟨wx, hwx⟩ : ∃ wx, wx = wr.alloc (.cells #[.int .i64 op', .int .i64 ln', .string s', .int .i64 k', .int .i64 n', .string t', .slice va' v'.len vc', .slice sa' sub'.len sc'] 31) := ⟨_, rfl⟩
      have hbx : Below wr.heap.size wr wx := by rw [hwx]; exact (Below.refl _ _).alloc (Nat.le_refl _) _
      have hnb : NdB wx wr.heap.size (.int .i64 op') (.int .i64 ln') (.string s') (.int .i64 k') (.int .i64 n') (.string t') (.slice va' v'.len vc') (.slice sa' sub'.len sc') := by rw [hwx]; exact NdB.new _ _ _ _ _ _ _ _ _
      have hzr := hbr.out.size
      have HBX := Lib.hid (hbr.out.trans (below_le' hbx hzr))
      have hzx := HBX.out.size
      have HNX := Lib.hid (HN3.out.below' HBX.out)
      have HEX := Lib.hid (HE3.out.below HBX.out (Nat.le_of_lt HE3.out.room))
      obtain ⟨rg, rcap, hrv, hrg, hrc⟩ := roles_at (own_belowN HRO.out HBX.out) (i := i) (by omega)
      rw [hrlen] at hrv
      subst hrv
      have y0 := hnb.c0; have y1 := hnb.c1; have y2 := hnb.c2; have y3 := hnb.c3; have y4 := hnb.c4; have y5 := hnb.c5; have y6 := hnb.c6; have y7 := hnb.c7
      have p0 := HNX.out.c0
      have HY := Lib.hid hnb
      have HWX := Lib.hid hwx
      have HST := Lib.hid hwn.out
      rw [hd, walkN_cons] at HST
      have hrle : (subRole op sub.len role loop i).1 ≤ 8 := sub_role_le8 _ _ _ _ _
      have IHC := Lib.hid (ih (sub'.tot + 1) (by omega) op' ln' s' k' n' t' v' va' vc' sub' sa' sc' (subRole op sub.len role loop i).1 (subRole op sub.len role loop i).2 ea wx (by omega) (by omega) HEX.out hf1 hf2 hf3 hf4 hvc' hf6 hsc' hrle
        (hv'.keep (fun b hb => hbx.block b (by omega)) (fun b hb => by have := hbx.size; omega)) (hs'.keep (fun b hb => hbx.block b (by omega)) (fun b hb => by have := hbx.size; omega)))
      subst hA
      clear hbr hwn hbx hnb hv' hs' hd
      have HR1 := Lib.hid (sub_role_1 op sub.len role loop i)
      have HR2 := Lib.hid (sub_role_2 op sub.len role loop i)
      obtain ⟨r0, hr0⟩ : ∃ r0, r0 = (rolesP op sub.len).1.getD i 0 := ⟨_, rfl⟩
      rw [← hr0] at HR1 hrc
      clear hr0
      have hrc' := hrc
      have p0' := p0
      rw [hwx] at hrc' p0'
      clear hwx
      go_upto_block 2 with fail
      rw [← HWX.out]
      obtain ⟨rP, hrP⟩ : ∃ rP, rP = (subRole op sub.len role loop i).1 := ⟨_, rfl⟩
      obtain ⟨iP, hiP⟩ : ∃ iP, iP = (subRole op sub.len role loop i).2 := ⟨_, rfl⟩
      rw [← hrP] at HR1 HR2 IHC HST hrle
      rw [← hiP] at HR2 IHC HST
      clear hrP hiP
      go_cut [12] (fun c wz => c = .int .i64 (rP : Int) ∧ wz = wx)
      case first =>
        by_cases h5 : role = 5
        · have e5 : ((role : Int) == 5) = true := by rw [h5]; rfl
          have HF := Lib.hid (HR1.out.trans (if_pos h5))
          clear h5
          go_wp2_with fail
          go_meet
          exact ⟨by rw [HF.out]; rfl, rfl⟩
        have e5 : ((role : Int) == 5) = false := int_beq h5
        by_cases h2 : role = 2
        · have e2 : ((role : Int) == 2) = true := by rw [h2]; rfl
          have e4 : ((role : Int) == 4) = false := by rw [h2]; rfl
          by_cases h20 : op = 20
          · have e20 : (op == 20) = true := by rw [h20]; rfl
            by_cases h0 : i = 0
            · have e0 : ((i : Int) == 0) = true := by rw [h0]; rfl
              have HF := Lib.hid (show rP = 2 by rw [HR1.out, if_neg h5, if_pos ⟨h2, h20, h0⟩])
              clear h5 h2 h20 h0
              go_wp2_with fail
              go_meet
              exact ⟨by rw [HF.out]; rfl, rfl⟩
            · have e0 : ((i : Int) == 0) = false := int_beq h0
              have HF := Lib.hid (show rP = r0 by rw [HR1.out, if_neg h5, if_neg (by omega), if_neg (by omega)])
              clear h5 h2 h20 h0
              go_wp2_with fail
              go_meet
              exact ⟨by rw [HF.out], rfl⟩
          · have e20 := beq_no h20
            have HF := Lib.hid (show rP = r0 by rw [HR1.out, if_neg h5, if_neg (by omega), if_neg (by omega)])
            clear h5 h2 h20
            go_wp2_with fail
            go_meet
            exact ⟨by rw [HF.out], rfl⟩
        have e2 : ((role : Int) == 2) = false := int_beq h2
        by_cases h4 : role = 4
        · have e4 : ((role : Int) == 4) = true := by rw [h4]; rfl
          by_cases h26 : op = 26
          · have e26 : (op == 26) = true := by rw [h26]; rfl
            have HF := Lib.hid (show rP = 3 by rw [HR1.out, if_neg h5, if_neg (by omega), if_pos ⟨h4, h26⟩])
            clear h5 h2 h4 h26
            go_wp2_with fail
            go_meet
            exact ⟨by rw [HF.out]; rfl, rfl⟩
          · have e26 := beq_no h26
            have HF := Lib.hid (show rP = r0 by rw [HR1.out, if_neg h5, if_neg (by omega), if_neg (by omega)])
            clear h5 h2 h4 h26
            go_wp2_with fail
            go_meet
            exact ⟨by rw [HF.out], rfl⟩
        · have e4 : ((role : Int) == 4) = false := int_beq h4
          have HF := Lib.hid (show rP = r0 by rw [HR1.out, if_neg h5, if_neg (by omega), if_neg (by omega)])
          clear h5 h2 h4
          go_wp2_with fail
          go_meet
          exact ⟨by rw [HF.out], rfl⟩
      case rest =>
        obtain ⟨rfl, rfl⟩ := hcut
        go_upto_region 15 with fail
        obtain ⟨wy, hwy⟩ : ∃ wy, wy = wc := ⟨_, rfl⟩
        go_cut [13] (fun c wz => c = .bool iP ∧ wz = wy)
        case first =>
          have LC := Lib.hid (fun W => loops_c op W)
          have hd2 : loop = true ∧ op ≠ 48 ∨ (loop && op != 48) = false := by
            cases loop with
            | false => exact .inr rfl
            | true =>
              by_cases h : op = 48
              · exact .inr (by rw [h]; rfl)
              · exact .inl ⟨rfl, h⟩
          rcases hd2 with ⟨hl1, h48⟩ | hl0
          · subst hl1
            have e48 := bne_yes h48
            have HF := Lib.hid (show iP = true by rw [HR2.out, e48]; rfl)
            clear h48
            go_wp2_with fail
            go_meet
            exact ⟨by rw [HF.out], hwy.symm⟩
          · have HF := Lib.hid (show iP = (loopsP op && rP == 6) by rw [HR2.out, hl0]; rfl)
            have hl2 : loop = false ∨ (loop = true ∧ (op != 48) = false) := by
              cases loop with
              | false => exact .inl rfl
              | true => exact .inr ⟨rfl, by simpa using hl0⟩
            clear hl0
            cases hlp : loopsP op with
            | false =>
              rw [hlp] at HF LC
              clear hlp
              rcases hl2 with h | ⟨h, e48⟩
              · subst h
                go_wp2_with fail
                refine (LC.out _).mono ?_
                rintro e w9 ⟨rfl, rfl⟩
                go_wp2_with fail
                go_meet
                exact ⟨by rw [HF.out]; rfl, hwy.symm⟩
              · subst h
                go_wp2_with fail
                refine (LC.out _).mono ?_
                rintro e w9 ⟨rfl, rfl⟩
                go_wp2_with fail
                go_meet
                exact ⟨by rw [HF.out]; rfl, hwy.symm⟩
            | true =>
              have HF3 := Lib.hid (show iP = ((rP : Int) == 6) by rw [HF.out, hlp, show (6 : Int) = ((6 : Nat) : Int) from rfl, eq_nat]; rfl)
              rw [hlp] at LC
              clear hlp HF
              rcases hl2 with h | ⟨h, e48⟩
              · subst h
                go_wp2_with fail
                refine (LC.out _).mono ?_
                rintro e w9 ⟨rfl, rfl⟩
                go_wp2_with fail
                go_meet
                exact ⟨by rw [HF3.out], hwy.symm⟩
              · subst h
                go_wp2_with fail
                refine (LC.out _).mono ?_
                rintro e w9 ⟨rfl, rfl⟩
                go_wp2_with fail
                go_meet
                exact ⟨by rw [HF3.out], hwy.symm⟩
        case rest =>
          obtain ⟨rfl, rfl⟩ := hcut
          subst hwy
          obtain ⟨res, hres⟩ : ∃ res, res = walkNode op' ln' s' k' n' t' v' sub' rP iP := ⟨_, rfl⟩
          rw [← hres] at IHC HST
          clear hres
          go_wp2_with fail
          refine IHC.out.mono ?_
          rintro e w5 ⟨hb5, hpw⟩
          have HB5 := Lib.hid (HBX.out.trans (below_le' hb5 HBX.out.size))
          clear hb5
          cases res with
          | none =>
            subst hpw
            go_wp2_with fail
            go_roundg g
            case measure => omega
            case rel => exact ⟨i + 1, by go_num, by omega, HB5.out, HST.out⟩
          | some lc =>
            obtain ⟨l, c⟩ := lc
            obtain ⟨A, hA1, hA2, rfl⟩ := hpw
            go_wp2_with fail
            go_ret
            rw [HRES.out, ← HST.out]
            exact ⟨HB3.out.trans (below_le' HB5.out HB3.out.size), A, by have := HB3.out.size; have := HBX.out.size; omega, hA2, rfl⟩
    · obtain rfl : i = sub.len := by omega
      have HN9 := Lib.hid hwn.out
      rw [NL.drop_len] at HN9
      have HBR := Lib.hid hbr.out
      clear hwn hbr
      go_wp2_with fail
      go_ret
      rw [HRES.out, ← HN9.out]
      exact ⟨HB3.out.trans (below_le' HBR.out HB3.out.size), rfl⟩

theorem walk_tc (N : Nat) : WalkTC N := by
  induction N using Nat.strongRecOn with
  | _ N ih => exact walk_tstep N ih
end Go.Proofs.YtggngahmafbihaaGreatDoor
