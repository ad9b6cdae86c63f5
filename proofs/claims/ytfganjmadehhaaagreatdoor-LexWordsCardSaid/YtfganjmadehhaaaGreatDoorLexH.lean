/- Contracts of the functions that the statement reaches, and the plain mathematics beneath: several texts joined. -/
import Derived.Test.YtfganjmadehhaaaGreatDoorLexF
import Derived.Test.YtfganjmadehhaaaGreatDoorLexG
import Derived.Test.YtfganjmadehhaaaGreatDoorLexE
import Derived.Test.YtfganjmadehhaaaGreatDoorLexD
import Derived.Laws.OwnMore
import Derived.OwnWalk
import Derived.Test.YtfganjmadehhaaaGreatDoorLexA
import Derived.Test.YtfganjmadehhaaaGreatDoorLexB
import Derived.Test.YtfganjmadehhaaaGreatDoorLexC
namespace Go.Proofs.YtfganjmadehhaaaGreatDoor
open Go.RowKit Go.Lib
set_option linter.unusedVariables false

def okC (c : UInt8) : Prop := prC c = true ∧ c ≠ 34 ∧ c ≠ 92
theorem size_list (b : ByteArray) : b.size = b.data.toList.length := by rw [Array.length_toList]; rfl
theorem mem_pk {s : ByteArray} (h : ∀ j, j < s.size → okC (pk s j)) : ∀ c ∈ s.data.toList, okC c := by
  intro c hc
  obtain ⟨j, hj, rfl⟩ := List.getElem_of_mem hc
  have hj' : j < s.size := by rw [size_list]; exact hj
  have := h j hj'
  unfold pk at this
  rw [List.getD_eq_getElem?_getD, List.getElem?_eq_getElem hj] at this
  exact this

set_option maxRecDepth 100000 in
set_option maxHeartbeats 8000000 in
theorem lexEnds_c (a : Int) (s : ByteArray) (ea : Nat → Addr) (w : World) (ha0 : -9223372036854775808 ≤ a) (ha1 : a ≤ 9223372036854775807) (hsz : s.size ≤ 140737488351232) (hse : SeesAt w ea) (hst : StrcAt w) (hsp : SpaceAt w) :
    Calls Tryz.prog 4 #[.int .i64 a, .string s] w fun e w' => e = .returned (.bool true) ∧ Below w.heap.size w w' := by
  have he : LxEnv w ea := ⟨hse.errs, hsp, hst⟩
  have hroom := hse.room
  have F := Lib.hid (lfirst_c ea w he)
  have EV := Lib.hid (fun W (hW : Below w.heap.size w W) => he.below hW (by omega))
  have SV := Lib.hid (fun W (hW : Below w.heap.size w W) => hse.below hW)
  have NC := Lib.hid (fun W => wnumber_c a 20 W ha0 ha1 (by decide) (by decide))
  clear he hse hst hsp
  by_cases h50 : 50 < s.size
  · have hd : (50 : Int) < (s.size : Int) := by omega
    clear h50
    go_enter Tryz.func4, Tryz.ntmps4
    go_wp2_with fail
    refine F.out.mono ?_
    rintro e w2 ⟨rfl, hb2⟩
    have HB2 := Lib.hid hb2
    clear hb2
    go_wp2_with fail
    refine (NC.out w2).mono ?_
    rintro e w3 ⟨L, hL, rfl, rfl⟩
    go_wp2_with fail
    go_ret
    exact ⟨rfl, HB2.out⟩
  have hs50 : (s.size : Int) ≤ 50 := by omega
  go_enter Tryz.func4, Tryz.ntmps4
  go_wp2_with fail
  refine F.out.mono ?_
  rintro e w2 ⟨rfl, hb2⟩
  have HB2 := Lib.hid hb2
  clear hb2
  go_wp2_with fail
  refine (NC.out w2).mono ?_
  rintro e w3 ⟨L, hL, rfl, rfl⟩
  go_wp2_with fail
  go_loopg [6, 7] L (fun kk pv iv wr => ∃ (p : ByteArray) (i : Nat), pv = .string p ∧ iv = .int .i64 (i : Int) ∧ i + kk = L ∧ w2 = wr ∧ Hid (p.data.toList = List.replicate i 10))
  case atStart => exact ⟨⟨#[]⟩, 0, rfl, rfl, by omega, rfl, rfl⟩
  case round =>
    obtain ⟨p, i, rfl, rfl, hk, rfl, hp⟩ := hrel
    by_cases hi : i < L
    · obtain ⟨kk, rfl⟩ : ∃ kk, gk = kk + 1 := ⟨gk - 1, by omega⟩
      have HP := Lib.hid (show (p ++ (⟨#[10]⟩ : ByteArray)).data.toList = List.replicate (i + 1) 10 by
        rw [ByteArray.data_append, Array.toList_append, hp.out, List.replicate_succ'])
      have hpz : p.size ≤ 20 := by rw [size_list, hp.out, List.length_replicate]; omega
      clear hp
      go_wp2_with fail
      go_roundg kk
      case measure => omega
      case rel => exact ⟨_, i + 1, rfl, by go_num, by omega, rfl, HP.out⟩
    · obtain rfl : i = L := by omega
      have HP := Lib.hid hp.out
      have hpz : p.size = i := by rw [size_list, hp.out, List.length_replicate]
      have hp20 : p.size ≤ 20 := by omega
      have hs50' : s.size ≤ 50 := by omega
      have HPZ := Lib.hid hpz
      clear hp hk hpz
      go_wp2_with fail
      go_loopg [8] s.size (fun kk jv wr => ∃ (j : Nat), jv = .int .i64 (j : Int) ∧ j + kk = s.size ∧ w2 = wr ∧ Hid (∀ x, x < j → okC (pk s x)))
      case atStart => exact ⟨0, rfl, by omega, rfl, fun x hx => by omega⟩
      case round =>
        obtain ⟨j, rfl, hk, rfl, hq⟩ := hrel
        by_cases hj : j < s.size
        · obtain ⟨kk, rfl⟩ : ∃ kk, gk = kk + 1 := ⟨gk - 1, by omega⟩
          have hpk := pk_in s j hj
          by_cases h34 : pk s j = 34
          · have t34 : (((s[j]'hj).toNat : Int) == 34) = true := by rw [← hpk, h34]; rfl
            clear hq hpk h34
            go_wp2_with fail
            go_ret
            exact ⟨rfl, HB2.out⟩
          have t34 : (((s[j]'hj).toNat : Int) == 34) = false := by rw [← hpk]; exact byte_f (d := 34) (k := 34) rfl h34
          by_cases h92 : pk s j = 92
          · have t92 : (((s[j]'hj).toNat : Int) == 92) = true := by rw [← hpk, h92]; rfl
            clear hq hpk h34 h92
            go_wp2_with fail
            go_ret
            exact ⟨rfl, HB2.out⟩
          have t92 : (((s[j]'hj).toNat : Int) == 92) = false := by rw [← hpk]; exact byte_f (d := 92) (k := 92) rfl h92
          by_cases hlo : (pk s j).toNat < 32
          · have tlo : ((s[j]'hj).toNat : Int) < 32 := by rw [← hpk]; omega
            clear hq hpk h34 h92 hlo
            go_wp2_with fail
            go_ret
            exact ⟨rfl, HB2.out⟩
          have tlo : 32 ≤ ((s[j]'hj).toNat : Int) := by rw [← hpk]; omega
          by_cases hhi : 126 < (pk s j).toNat
          · have thi : 126 < ((s[j]'hj).toNat : Int) := by rw [← hpk]; omega
            clear hq hpk h34 h92 hlo hhi
            go_wp2_with fail
            go_ret
            exact ⟨rfl, HB2.out⟩
          have thi : ((s[j]'hj).toNat : Int) ≤ 126 := by rw [← hpk]; omega
          have HQ := Lib.hid (show ∀ x, x < j + 1 → okC (pk s x) from fun x hx => by
            rcases Nat.lt_or_ge x j with h | h
            · exact hq.out x h
            · obtain rfl : x = j := by omega
              exact ⟨decide_eq_true (by omega), h34, h92⟩)
          clear hq hpk h34 h92 hlo hhi
          go_wp2_with fail
          go_roundg kk
          case measure => omega
          case rel => exact ⟨j + 1, by go_num, by omega, rfl, HQ.out⟩
        · obtain rfl : j = s.size := by omega
          have hok := mem_pk hq.out
          have T1 := Lib.hid (ends_e (s := p ++ (⟨#[34]⟩ : ByteArray) ++ s ++ (⟨#[10, 34]⟩ : ByteArray)) (L := i) (l := s.data.toList) hok (by simp [HP.out]))
          have T2 := Lib.hid (ends_f (s := p ++ (⟨#[57, 50, 50, 51, 51, 55, 50, 48, 51, 54, 56, 53, 52, 55, 55, 53, 56, 48, 56]⟩ : ByteArray)) (L := i) (by rw [ByteArray.data_append, Array.toList_append, HP.out]; rfl))
          have T3 := Lib.hid (ends_g (s := p ++ (⟨#[35, 50, 49, 52, 55, 52, 56, 51, 54, 52, 56]⟩ : ByteArray)) (L := i) (by rw [ByteArray.data_append, Array.toList_append, HP.out]; rfl))
          have T4 := Lib.hid (ends_h (s := p ++ (⟨#[57, 50, 50, 51, 51, 55, 50, 48, 51, 54, 56, 53, 52, 55, 55, 53, 56, 48, 55, 32, 35, 45, 50, 49, 52, 55, 52, 56, 51, 54, 52, 56]⟩ : ByteArray)) (L := i) (by rw [ByteArray.data_append, Array.toList_append, HP.out]; rfl))
          clear hq hok hk
          go_wp2_with fail
          refine (all_bad ea _ (EV.out _ HB2.out) (by simp only [ByteArray.size_append]; show p.size + 1 + s.size + 2 ≤ 32768; omega) T1.out).mono ?_
          rintro e w3 ⟨A1, hA1, hh1, rfl, hb3⟩
          have HB3 := Lib.hid (HB2.out.trans (below_le' hb3 HB2.out.size))
          have X1 := Lib.hid (show AtAt w3 A1 (1 + (i : Int)) (.iface 199 (.pointer (some (ea (101 + 10))))) from hh1)
          clear hA1 hh1 hb3
          go_wp2_with fail
          refine (all_bad ea _ (EV.out _ HB3.out) (by simp only [ByteArray.size_append]; show p.size + 19 ≤ 32768; omega) T2.out).mono ?_
          rintro e w4 ⟨A2, hA2, hh2, rfl, hb4⟩
          have HB4 := Lib.hid (HB3.out.trans (below_le' hb4 HB3.out.size))
          have X12 := Lib.hid (X1.out.below hb4)
          have X2 := Lib.hid (show AtAt w4 A2 (1 + (i : Int)) (.iface 199 (.pointer (some (ea (101 + 4))))) from hh2)
          clear hA2 hh2 hb4
          go_wp2_with fail
          refine (all_bad ea _ (EV.out _ HB4.out) (by simp only [ByteArray.size_append]; show p.size + 11 ≤ 32768; omega) T3.out).mono ?_
          rintro e w5 ⟨A3, hA3, hh3, rfl, hb5⟩
          have HB5 := Lib.hid (HB4.out.trans (below_le' hb5 HB4.out.size))
          have X13 := Lib.hid (X12.out.below hb5)
          have X23 := Lib.hid (X2.out.below hb5)
          have X3 := Lib.hid (show AtAt w5 A3 (1 + (i : Int)) (.iface 199 (.pointer (some (ea (101 + 4))))) from hh3)
          clear hA3 hh3 hb5
          go_wp2_with fail
          refine (all_some ea _ (EV.out _ HB5.out) (by simp only [ByteArray.size_append]; show p.size + 32 ≤ 32768; omega) T4.out Nat.two_pos).mono ?_
          rintro e w6 ⟨g, cap, rfl, hg1, hg2, hb6, hcap, ht⟩
          have HB6 := Lib.hid (HB5.out.trans (below_le' hb6 HB5.out.size))
          have X14 := Lib.hid (X13.out.below hb6)
          have X24 := Lib.hid (X23.out.below hb6)
          have X34 := Lib.hid (X3.out.below hb6)
          obtain ⟨sa0, sc0, t0⟩ := ht 0 _ rfl
          obtain ⟨sa1, sc1, t1⟩ := ht 1 _ rfl
          have KK := Lib.hid (fun W (hW : Below w6.heap.size w6 W) => (⟨(t0.below hW hg2).c4, (t1.below hW hg2).c4⟩ : W.cell? ⟨g, 4, none⟩ = some (.int .i64 9223372036854775807) ∧ W.cell? ⟨g, 11, none⟩ = some (.int .i64 (-2147483648))))
          clear hg1 hb6 hcap ht t0 t1
          rw [show [(⟨3, 1 + (i : Int), ⟨#[]⟩, 0, 9223372036854775807, ⟨#[]⟩⟩ : Tok), ⟨3, 1 + (i : Int), ⟨#[]⟩, 1, -2147483648, ⟨#[]⟩⟩].length = 2 from rfl]
          go_wp2_with fail
          refine (placed_c 105 _ rfl _).mono ?_
          rintro e w7 ⟨he7, hb7⟩
          have he7' : e = .returned (.agg #[.int .i64 105, .bool true, .int .i64 (1 + (i : Int)), .int .i64 0, .int .i64 0, .string ⟨#[]⟩, .slice none 0 0]) := he7
          subst he7'
          obtain ⟨w8, hw8⟩ : ∃ w8, w8 = w7.alloc (.cells #[.int .i64 105, .bool true, .int .i64 (1 + (i : Int)), .int .i64 0, .int .i64 0, .string ⟨#[]⟩, .slice none 0 0] 40) := ⟨_, rfl⟩
          have hb8 : Below w6.heap.size w6 w8 := by rw [hw8]; exact hb7.alloc hb7.size _
          have hF8 : StF w8 w7.heap.size (.int .i64 105) (.bool true) (.int .i64 (1 + (i : Int))) (.int .i64 0) (.int .i64 0) (.string ⟨#[]⟩) (.slice none 0 0) := by rw [hw8]; exact StF.new w7 _ _ _ _ _ _ _
          have hz8 : w7.heap.size < w8.heap.size := by rw [hw8]; simp
          have HF8 := Lib.hid hF8
          have H68 := Lib.hid hb8
          have HW8 := Lib.hid hw8
          clear he7 hb7 hb8 hF8 hw8
          go_wp2_with fail
          rw [← HW8.out]
          refine (placed_c 111 _ rfl _).mono ?_
          rintro e w9 ⟨rfl, hb9⟩
          have H69 := Lib.hid (H68.out.trans (below_le' hb9 H68.out.size))
          have HF9 := Lib.hid (HF8.out.below hb9)
          have hz9 := hb9.size
          clear hb9
          go_wp2_with fail
          refine (same_c _ 111 true _ _ (fun W hW => fault_at ea 10 A1 _ W (SV.out W (HB6.out.trans (below_le' (H69.out.trans (below_le' hW H69.out.size)) HB6.out.size))) (by decide) (X14.out.below (H69.out.trans (below_le' hW H69.out.size))))).mono ?_
          rintro e w10 ⟨rfl, hb10⟩
          have H610 := Lib.hid (H69.out.trans (below_le' hb10 H69.out.size))
          have hF10 := HF9.out.below hb10
          have HF10 := Lib.hid hF10
          have hz10 := hb10.size
          obtain ⟨f0, f1, f2, f3, f4, f5, f6⟩ := hF10.cells
          clear hb10 hF10
          go_wp2_with fail
          refine (same_c _ 105 true (1 + (i : Int)) _ (fun W hW => fault_at ea 4 A2 _ W (SV.out W (HB6.out.trans (below_le' (H610.out.trans (below_le' hW H610.out.size)) HB6.out.size))) (by decide) (X24.out.below (H610.out.trans (below_le' hW H610.out.size))))).mono ?_
          rintro e w11 ⟨rfl, hb11⟩
          have H611 := Lib.hid (H610.out.trans (below_le' hb11 H610.out.size))
          have hF11 := HF10.out.below hb11
          clear f0 f1 f2 f3 f4 f5 f6
          obtain ⟨f0, f1, f2, f3, f4, f5, f6⟩ := hF11.cells
          clear hb11 hF11
          go_wp2_with fail
          refine (same_c _ 105 true (1 + (i : Int)) _ (fun W hW => fault_at ea 4 A3 _ W (SV.out W (HB6.out.trans (below_le' (H611.out.trans (below_le' hW H611.out.size)) HB6.out.size))) (by decide) (X34.out.below (H611.out.trans (below_le' hW H611.out.size))))).mono ?_
          rintro e w12 ⟨rfl, hb12⟩
          have H612 := Lib.hid (H611.out.trans (below_le' hb12 H611.out.size))
          obtain ⟨k4, k11⟩ := KK.out w12 H612.out
          clear hb12 f0 f1 f2 f3 f4 f5 f6
          go_wp2_with fail
          go_ret
          exact ⟨rfl, HB6.out.trans (below_le' H612.out HB6.out.size)⟩
end Go.Proofs.YtfganjmadehhaaaGreatDoor
namespace Go.Proofs.YtfganjmadehhaaaGreatDoor
open Go.RowKit Go.Lib
set_option linter.unusedVariables false

theorem allL_of {p : ByteArray → Bool} {l : List ByteArray} (h : l.all p = true) (j : Nat) (hj : j < l.length) : p (l.getD j ByteArray.empty) = true := by
  rw [List.getD_eq_getElem?_getD, List.getElem?_eq_getElem hj]
  exact List.all_eq_true.1 h _ (List.getElem_mem hj)
theorem keys_size : ∀ x ∈ keysL, x.size ≤ 20 := by decide +kernel
theorem signs_size : ∀ x ∈ signsL, x.size ≤ 20 := by decide +kernel
theorem getD_mem {l : List ByteArray} (j : Nat) (hj : j < l.length) : l.getD j ByteArray.empty ∈ l := by
  rw [List.getD_eq_getElem?_getD, List.getElem?_eq_getElem hj]; exact List.getElem_mem hj
theorem key_ne : ∀ x ∈ keysL, x.data.toList ≠ [] := by decide +kernel

set_option maxRecDepth 100000 in
set_option maxHeartbeats 1000000 in
theorem is_c (v : Value) (c : Int) (w : World) (H : ∀ W, Below w.heap.size w W → Calls Tryz.prog 24 #[v] W fun e w' => e = .returned (fltV c false 0) ∧ Below W.heap.size W w') :
    Calls Tryz.prog 12 #[v, .int .i64 c] w fun e w' => e = .returned (.bool true) ∧ Below w.heap.size w w' := by
  have HH := Lib.hid H
  clear H
  go_enter Tryz.func12, Tryz.ntmps12
  go_wp2_with fail
  refine (bare_c c _).mono ?_
  rintro e w2 ⟨rfl, hb2⟩
  have HB2 := Lib.hid hb2
  clear hb2
  go_wp2_with fail
  refine (same_c v c false 0 _ (fun W hW => HH.out W (HB2.out.trans (below_le' hW HB2.out.size)))).mono ?_
  rintro e w3 ⟨rfl, hb3⟩
  have HB3 := Lib.hid (HB2.out.trans (below_le' hb3 HB2.out.size))
  clear hb3
  go_wp2_with fail
  go_ret
  exact ⟨rfl, HB3.out⟩

/-- So many letters written, the rest still 0. -/
def fillX (n i : Nat) : List UInt8 := List.replicate i 120 ++ List.replicate (n - i) 0
theorem fillX_len (n i : Nat) (h : i ≤ n) : (fillX n i).length = n := by unfold fillX; rw [List.length_append, List.length_replicate, List.length_replicate]; omega
theorem fillX_get (n i : Nat) (h : i < n) : (u8s (fillX n i))[i]? = some (.int .u8 0) := by
  unfold u8s fillX
  rw [List.getElem?_map, List.getElem?_append_right (by rw [List.length_replicate]; exact Nat.le_refl _), List.length_replicate, Nat.sub_self, List.getElem?_replicate, if_pos (by omega)]; rfl
theorem fillX_set (n i : Nat) (h : i < n) : (u8s (fillX n i)).set i (.int .u8 120) = u8s (fillX n (i + 1)) := by
  unfold u8s fillX
  obtain ⟨k, hk⟩ : ∃ k, n - i = k + 1 := ⟨n - i - 1, by omega⟩
  rw [show n - (i + 1) = k from by omega, hk, List.map_append, List.map_append, List.set_append_right _ _ (by rw [List.length_map, List.length_replicate]; exact Nat.le_refl _), List.length_map, List.length_replicate, Nat.sub_self, List.replicate_succ, List.map_cons, List.set_cons_zero, List.replicate_succ', List.map_append, List.append_assoc]
  rfl
theorem made_fill (n : Nat) : (madeCells (Value.int .u8 0).cells (n * 1)).toList = u8s (fillX n 0) := by
  rw [Nat.mul_one, show (Value.int IntKind.u8 0).cells = #[Value.int .u8 0] from rfl, toList_madeCells_one]
  unfold u8s fillX
  simp

set_option maxRecDepth 100000 in
set_option maxHeartbeats 8000000 in
theorem lexWords_c (a : Int) (ea : Nat → Addr) (w : World) (ha0 : -9223372036854775808 ≤ a) (ha1 : a ≤ 9223372036854775807) (hse : SeesAt w ea) (hst : StrcAt w) (hsp : SpaceAt w) :
    Calls Tryz.prog 3 #[.int .i64 a] w fun e w' => e = .returned (.bool true) ∧ Below w.heap.size w w' := by
  have he : LxEnv w ea := ⟨hse.errs, hsp, hst⟩
  have hroom := hse.room
  have F := Lib.hid (lfirst_c ea w he)
  have EV := Lib.hid (fun W (hW : Below w.heap.size w W) => he.below hW (by omega))
  have SV := Lib.hid (fun W (hW : Below w.heap.size w W) => hse.below hW)
  have NC := Lib.hid (fun W => wnumber_c a 40000 W ha0 ha1 (by decide) (by decide))
  clear he hse hst hsp
  go_enter Tryz.func3, Tryz.ntmps3
  go_wp2_with fail
  refine F.out.mono ?_
  rintro e w2 ⟨rfl, hb2⟩
  have HB2 := Lib.hid hb2
  clear hb2
  go_wp2_with fail
  refine (keys_c w2 (EV.out w2 HB2.out).spc).mono ?_
  rintro e w3 ⟨kg, rfl, hkg, hks, hb3⟩
  have HB3 := Lib.hid (HB2.out.trans (below_le' hb3 HB2.out.size))
  have HK := Lib.hid hks
  clear hb3 hks
  go_wp2_with fail
  refine (signs_c w3 (EV.out w3 HB3.out).spc).mono ?_
  rintro e w4 ⟨sg, cap, rfl, hsg1, hsg2, hss, hb4⟩
  have HB4 := Lib.hid (HB3.out.trans (below_le' hb4 HB3.out.size))
  have HK4 := Lib.hid (HK.out.below hb4 hkg)
  have HS4 := Lib.hid hss
  have hkg4 : kg < w4.heap.size := by have := hb4.size; omega
  clear hb4 hss
  go_wp2_with fail
  go_loopg [6] 19 (fun kk iv wr => ∃ (i : Nat), iv = .int .i64 (i : Int) ∧ i + kk = 19 ∧ Below w4.heap.size w4 wr)
  case atStart => exact ⟨0, rfl, by omega, Below.refl _ _⟩
  case round =>
    obtain ⟨i, rfl, hk, hbr⟩ := hrel
    have HBR := Lib.hid hbr
    have HBW := Lib.hid (HB4.out.trans (below_le' hbr HB4.out.size))
    by_cases hi : i < 19
    · obtain ⟨kk, rfl⟩ : ∃ kk, gk = kk + 1 := ⟨gk - 1, by omega⟩
      obtain ⟨x, hx⟩ : ∃ x, x = keysL.getD i ByteArray.empty := ⟨_, rfl⟩
      have hc := HK4.out.below hbr hkg4 i hi
      rw [← hx, Nat.zero_add] at hc
      have hxz : x.size ≤ 20 := by rw [hx]; exact keys_size _ (getD_mem i hi)
      have hone := oneW_of (allL_of keys_one i hi)
      rw [← hx] at hone
      have AC := Lib.hid (all_some ea wr (EV.out wr HBW.out) (by omega) hone Nat.one_pos)
      have hse := str_eq x
      clear hx hone hbr
      go_wp2_with fail
      refine AC.out.mono ?_
      rintro e w5 ⟨g, cp, rfl, hg1, hg2, hb5, hcp, ht⟩
      obtain ⟨sa, sc, t0⟩ := ht 0 _ rfl
      have k0 : w5.cell? ⟨g, 0, none⟩ = some (.int .i64 2) := t0.c0
      have k2 : w5.cell? ⟨g, 2, none⟩ = some (.string x) := t0.c2
      have hc5 : w5.cell? ⟨kg, i, none⟩ = some (.string x) := cell_below7 hb5 hc (by have := HBR.out.size; show kg < _; omega)
      have HB5 := Lib.hid (HBR.out.trans (below_le' hb5 HBR.out.size))
      clear hc ht t0 hb5 hg1 hg2 hcp
      rw [show [(⟨2, 1, x, 0, 0, ⟨#[]⟩⟩ : Tok)].length = 1 from rfl]
      go_wp2_with fail
      go_quiet (fail)
      go_wp2_with fail
      go_roundg kk
      case measure => omega
      case rel => exact ⟨i + 1, by go_num, by omega, below_drewN HB5.out _⟩
    · obtain rfl : i = 19 := by omega
      clear hbr hk
      obtain ⟨wo, rfl⟩ : ∃ wo : World, wo = wr := ⟨_, rfl⟩
      go_wp2_with fail
      go_loopg [9] 33 (fun kk iv wr => ∃ (i : Nat), iv = .int .i64 (i : Int) ∧ i + kk = 33 ∧ Below w4.heap.size w4 wr)
      case atStart => exact ⟨0, rfl, by omega, HBR.out⟩
      case round =>
        obtain ⟨i, rfl, hk, hbr⟩ := hrel
        have HBR := Lib.hid hbr
        have HBW := Lib.hid (HB4.out.trans (below_le' hbr HB4.out.size))
        by_cases hi : i < 33
        · obtain ⟨kk, rfl⟩ : ∃ kk, gk = kk + 1 := ⟨gk - 1, by omega⟩
          obtain ⟨x, hx⟩ : ∃ x, x = signsL.getD i ByteArray.empty := ⟨_, rfl⟩
          have hc := HS4.out.below hbr hsg2 i hi
          rw [← hx, Nat.zero_add] at hc
          have hxz : x.size ≤ 20 := by rw [hx]; exact signs_size _ (getD_mem i hi)
          have hone := oneW_of (allL_of signs_one i hi)
          rw [← hx] at hone
          have AC := Lib.hid (all_some ea wr (EV.out wr HBW.out) (by omega) hone Nat.one_pos)
          have hse := str_eq x
          clear hx hone hbr
          go_wp2_with fail
          refine AC.out.mono ?_
          rintro e w5 ⟨g, cp, rfl, hg1, hg2, hb5, hcp, ht⟩
          obtain ⟨sa, sc, t0⟩ := ht 0 _ rfl
          have k0 : w5.cell? ⟨g, 0, none⟩ = some (.int .i64 4) := t0.c0
          have k2 : w5.cell? ⟨g, 2, none⟩ = some (.string x) := t0.c2
          have hc5 : w5.cell? ⟨sg, i, none⟩ = some (.string x) := cell_below7 hb5 hc (by have := HBR.out.size; show sg < _; omega)
          have HB5 := Lib.hid (HBR.out.trans (below_le' hb5 HBR.out.size))
          clear hc ht t0 hb5 hg1 hg2 hcp
          rw [show [(⟨4, 1, x, 0, 0, ⟨#[]⟩⟩ : Tok)].length = 1 from rfl]
          go_wp2_with fail
          go_quiet (fail)
          go_wp2_with fail
          go_roundg kk
          case measure => omega
          case rel => exact ⟨i + 1, by go_num, by omega, below_drewN HB5.out _⟩
        · obtain rfl : i = 33 := by omega
          clear hbr hk
          obtain ⟨wp, hwp⟩ : ∃ wp : World, wp = wr := ⟨_, rfl⟩
          rw [← hwp]
          rw [← hwp] at HBW
          clear hwp HBR
          go_wp2_with fail
          refine (NC.out wp).mono ?_
          rintro e w6 ⟨n, hn, rfl, rfl⟩
          obtain ⟨i0, hi0, hz0, hz1, hz2⟩ := info_parts u8_info
          go_wp2_with (refine wpList_make_full _ rfl (.tmp 101) (.tmp 101) 36 rfl wp.heap.size 5 i0 _ 1 Tryz.underlying36 hi0 hz0 hz1 .i64 .i64 (n : Int) (n : Int) n rfl rfl rfl rfl (by rw [hz2]; omega) (by unfold maxLen; omega) (Nat.le_refl _) ?_
                       intro w7 hown hgrow
                       rw [made_fill] at hown
                       have HO := Lib.hid hown
                       have HG := Lib.hid (show Below wp.heap.size wp w7 from ⟨hgrow.os, hgrow.tape, hgrow.output, hgrow.size, fun k hk => hgrow.block k hk (by simp)⟩)
                       clear hown hgrow)
          go_loopg [13] n (fun kk iv wr => ∃ (i : Nat), iv = .int .i64 (i : Int) ∧ i + kk = n ∧ wr.ownsRow wp.heap.size 5 1 (.slice (some ⟨wp.heap.size, 0, none⟩) n n) n (u8s (fillX n i)) ∧ Below wp.heap.size wp wr)
          case atStart => exact ⟨0, rfl, by omega, HO.out, HG.out⟩
          case round =>
            obtain ⟨i, rfl, hk, hor, hbr⟩ := hrel
            have HOR := Lib.hid hor
            have HBR := Lib.hid hbr
            by_cases hi : i < n
            · obtain ⟨kk, rfl⟩ : ∃ kk, gk = kk + 1 := ⟨gk - 1, by omega⟩
              have hc := (hor.cellAt i (by omega)).trans (fillX_get n i hi)
              have hf := hor.frozenAt i
              clear hor hbr
              go_wp2_with fail
              go_roundg kk
              case measure => omega
              case rel => exact ⟨i + 1, by go_num, by omega, by rw [← fillX_set n i hi]; exact (HOR.out.stored i _).1, HBR.out.setCell (Nat.le_refl _) _⟩
            · obtain rfl : i = n := by omega
              have hfl : fillX i i = List.replicate i 120 := by unfold fillX; rw [Nat.sub_self]; simp
              have hcv := conv_text wr wp.heap.size (.slice (some ⟨wp.heap.size, 0, none⟩) i i) (List.replicate i 120) (by rw [List.length_replicate, ← hfl]; exact hor)
              rw [show (⟨(List.replicate i (120 : UInt8)).toArray⟩ : ByteArray) = xsB i from rfl] at hcv
              obtain ⟨X, hX⟩ : ∃ X, X = xsB i := ⟨_, rfl⟩
              have hXz : X.size = i := by rw [hX]; exact xsB_size i
              have hall := xs_all i
              rw [← hX] at hcv hall
              have HX := Lib.hid hXz
              have HA := Lib.hid hall
              have HBX := Lib.hid (HBW.trans (below_le' hbr HBW.size))
              clear hor hbr hk hfl hX hXz hall
              by_cases hbig : 32768 < i
              · have hd : 32768 < (i : Int) := by omega
                have AM := Lib.hid (all_many X ea wr (EV.out wr HBX.out).err (by rw [HX.out]; exact hbig) (by rw [HX.out]; omega))
                clear hbig
                go_wp2_with fail
                refine AM.out.mono ?_
                rintro e w8 ⟨rfl, hb8⟩
                have HB8 := Lib.hid (HBX.out.trans (below_le' hb8 HBX.out.size))
                clear hb8
                go_wp2_with fail
                refine (is_c _ 104 _ (fun W hW => fault_bare ea 3 W (SV.out W (HB8.out.trans (below_le' hW HB8.out.size))) (by decide))).mono ?_
                rintro e w9 ⟨rfl, hb9⟩
                have HB9 := Lib.hid (HB8.out.trans (below_le' hb9 HB8.out.size))
                clear hb9
                go_wp2_with fail
                go_ret
                exact ⟨rfl, HB9.out⟩
              have hd : (i : Int) ≤ 32768 := by omega
              by_cases h32 : 32 < i
              · have hd2 : 32 < (i : Int) := by omega
                have AM := Lib.hid (all_bad ea wr (EV.out wr HBX.out) (by rw [HX.out]; omega) (HA.out.trans (if_pos h32)))
                clear hbig h32
                go_wp2_with fail
                refine AM.out.mono ?_
                rintro e w8 ⟨A, hA, hh, rfl, hb8⟩
                have HB8 := Lib.hid (HBX.out.trans (below_le' hb8 HBX.out.size))
                have HAT := Lib.hid (show AtAt w8 A 1 (.iface 199 (.pointer (some (ea (101 + 10))))) from hh)
                clear hb8 hA hh
                go_wp2_with fail
                refine (placed_c 111 1 rfl _).mono ?_
                rintro e w9 ⟨rfl, hb9⟩
                have HB9 := Lib.hid (HB8.out.trans (below_le' hb9 HB8.out.size))
                have HAT9 := Lib.hid (HAT.out.below hb9)
                clear hb9
                go_wp2_with fail
                refine (same_c _ 111 true 1 _ (fun W hW => fault_at ea 10 A 1 W (SV.out W (HB9.out.trans (below_le' hW HB9.out.size))) (by decide) (HAT9.out.below hW))).mono ?_
                rintro e w10 ⟨rfl, hb10⟩
                have HB10 := Lib.hid (HB9.out.trans (below_le' hb10 HB9.out.size))
                clear hb10
                go_wp2_with fail
                go_ret
                exact ⟨rfl, HB10.out⟩
              have hd2 : (i : Int) ≤ 32 := by omega
              by_cases h0 : i = 0
              · have AM := Lib.hid (all_none ea wr (EV.out wr HBX.out) (by rw [HX.out]; omega) (HA.out.trans ((if_neg h32).trans (if_pos h0))))
                subst h0
                clear hbig h32
                go_wp2_with fail
                refine AM.out.mono ?_
                rintro e w8 ⟨⟨VA, VC, rfl⟩, hb8⟩
                have HB8 := Lib.hid (HBX.out.trans (below_le' hb8 HBX.out.size))
                clear hb8
                go_wp2_with fail
                go_ret
                exact ⟨rfl, HB8.out⟩
              · have AM := Lib.hid (all_some ea wr (EV.out wr HBX.out) (by rw [HX.out]; omega) (HA.out.trans ((if_neg h32).trans (if_neg h0))) Nat.one_pos)
                have hd3 : 1 ≤ (i : Int) := by omega
                clear hbig h32 h0
                go_wp2_with fail
                refine AM.out.mono ?_
                rintro e w8 ⟨g, cp, rfl, hg1, hg2, hb8, hcp, ht⟩
                have HB8 := Lib.hid (HBX.out.trans (below_le' hb8 HBX.out.size))
                clear hb8 hg1 hg2 hcp ht
                simp only [List.length_cons, List.length_nil]
                have HM := Lib.hid (show ((1 : Int) == min (i : Int) 1) = true by rw [beq_iff_eq]; omega)
                go_wp2_with fail
                go_ret
                exact ⟨ret_bool HM.out, HB8.out⟩
end Go.Proofs.YtfganjmadehhaaaGreatDoor
