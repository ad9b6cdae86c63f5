/- Contracts of the functions that the statement reaches, and the plain mathematics beneath: several texts joined. -/
import Derived.IntWalk
import Derived.Test.YtagajoagdhickaaObrAC
import Derived.Test.YtagajoagdhickaaObrAA
namespace Go.Proofs.Ytagajoagdhickaa
open Go.RowKit Go.Lib
set_option linter.unusedVariables false

theorem allCs_at : ∀ (l : List OB) (i : Nat) (y : OB) (j : Nat), l[i]? = some y → j < 10 → (allCs l)[10 * i + j]? = (bareCs y)[j]?
  | [], i, y, j, h, _ => by simp at h
  | x :: r, 0, y, j, h, hj => by
    simp only [List.getElem?_cons_zero, Option.some.injEq] at h
    subst h
    unfold allCs
    rw [List.flatMap_cons, Nat.mul_zero, Nat.zero_add, List.getElem?_append_left (by simp [bareCs]; omega)]
    simp
  | x :: r, i + 1, y, j, h, hj => by
    simp only [List.getElem?_cons_succ] at h
    have ih := allCs_at r i y j h hj
    unfold allCs at ih ⊢
    rw [List.flatMap_cons, List.getElem?_append_right (by simp [bareCs]; omega)]
    rw [show 10 * (i + 1) + j - (bareCs x).toList.length = 10 * i + j from by simp [bareCs]; omega]
    exact ih

theorem obr_chain {w5 w7 w8 W : World} (h : Below w5.heap.size w5 w7) (hb : Below W.heap.size W w8) (hW : Below w7.heap.size w7 W) : Below w5.heap.size w5 w8 :=
  (h.trans (hW.mono h.size)).trans (hb.mono (Nat.le_trans h.size hW.size))
set_option maxRecDepth 100000 in
set_option maxHeartbeats 8000000 in
theorem objsRecycles_c (l1 : List Int) (A1 : Option Addr) (c1 : Nat) (l2 : List Int) (A2 : Option Addr) (c2 : Nat) (gn : Int) (w : World) (hl1 : ArgI w A1 l1) (hc1 : l1.length ≤ 9223372036854775807) (hl2 : ArgI w A2 l2) (hc2 : l2.length ≤ 9223372036854775807) (hgn : I64 gn) :
    Calls Try.prog 5 #[.slice A1 l1.length c1, .slice A2 l2.length c2, .int .i64 gn] w fun e w' => e = .returned (.bool true) ∧ Below w.heap.size w w' := by
  have HL1 := Lib.hid hl1
  have HL2 := Lib.hid hl2
  clear hl1 hl2
  by_cases hb1 : 10 < l1.length
  · go_enter Try.func5, Try.ntmps5
    go_wp2_with fail
    refine (ofirst_c w).mono ?_
    rintro e w1 ⟨rfl, hbw⟩
    have HB1 := Lib.hid hbw
    clear hbw
    go_wp2_with fail
    go_ret
    exact ⟨rfl, HB1.out⟩
  by_cases hb2 : 10 < l2.length
  · go_enter Try.func5, Try.ntmps5
    go_wp2_with fail
    refine (ofirst_c w).mono ?_
    rintro e w1 ⟨rfl, hbw⟩
    have HB1 := Lib.hid hbw
    clear hbw
    go_wp2_with fail
    go_ret
    exact ⟨rfl, HB1.out⟩
  go_enter Try.func5, Try.ntmps5
  go_wp2_with fail
  refine (ofirst_c w).mono ?_
  rintro e w1 ⟨rfl, hbw⟩
  have HB1 := Lib.hid hbw
  clear hbw
  go_wp2_with fail
  refine (new_c w1).mono ?_
  rintro e w2 ⟨rfl, ht2, hbw2⟩
  have HT2 := Lib.hid (tb_new (w := w1) ht2)
  have HB2 := Lib.hid hbw2
  clear ht2 hbw2
  go_wp2_with fail
  go_loopg [10] (l1.length + 1) (fun kk iv wr => ∃ (i : Nat) (T : List OM), iv = .int .i64 (i : Int) ∧ i + kk = l1.length + 1 ∧ TB wr w1.heap.size (w1.heap.size + 1) w1.heap.size T ((i : Int) - 1) ∧ T.length ≤ i ∧ Hid (idsO (obT T) = idR i) ∧ Below w1.heap.size w1 wr)
  case atStart => exact ⟨0, [], rfl, by omega, HT2.out, by simp, rfl, HB2.out⟩
  case round =>
    obtain ⟨i, T, rfl, hik, htb, hTl, hid, hbr⟩ := hrel
    by_cases hi : i < l1.length + 1
    · obtain ⟨j, rfl⟩ : ∃ j, gk = j + 1 := ⟨gk - 1, by omega⟩
      have HID := Lib.hid hid.out
      have hrz := hbr.size
      by_cases hi0 : i = 0
      · subst hi0
        have CC := Lib.hid (create_yes (p := -1) htb ⟨by omega, by omega⟩ (.inl rfl) (by omega) (by omega))
        have HTB := Lib.hid htb
        have HBR := Lib.hid hbr
        clear htb hbr hid
        go_wp2_with fail
        refine CC.out.mono ?_
        rintro e w4 ⟨rfl, hst⟩
        have HN := Lib.hid hst.tb
        have HB := Lib.hid (HBR.out.trans (hst.below HTB.out hrz))
        clear hst
        go_wp2_with fail
        go_roundg j
        case measure => omega
        case rel => exact ⟨1, _, by go_num, by omega, HN.out, by rw [List.length_append]; simp only [List.length_cons, List.length_nil]; omega, by
          show idsO (obT (T ++ _)) = idR (0 + 1)
          rw [idR_succ, ← HID.out]
          simp [idsO, obT, newM, newO], HB.out⟩
      · obtain ⟨x, hx⟩ : ∃ x, l1[i - 1]? = some x := ⟨l1[i - 1]'(by omega), List.getElem?_eq_getElem (by omega)⟩
        obtain ⟨hxi, b, o, rfl, hcx⟩ := HL1.out.at_ (HB1.out.trans (hbr.mono HB1.out.size)) hx
        obtain ⟨i', rfl⟩ : ∃ i', i = i' + 1 := ⟨i - 1, by omega⟩
        rw [show i' + 1 - 1 = i' from by omega] at hcx
        have CN := Lib.hid (fun W => onumber_c x (((i' + 1 : Nat) : Int) + 1) W hxi (by omega) (by omega))
        have hk0 := Int.emod_nonneg x (show (((i' + 1 : Nat) : Int) + 1) ≠ 0 by omega)
        have hk1 := Int.emod_lt_of_pos x (show 0 < (((i' + 1 : Nat) : Int) + 1) by omega)
        obtain ⟨k, hkk⟩ : ∃ k, k = x % (((i' + 1 : Nat) : Int) + 1) := ⟨_, rfl⟩
        rw [← hkk] at CN hk0 hk1
        have hpp : k - 1 = -1 ∨ hasO (obT T) (k - 1) = true := by
          by_cases h : k = 0
          · left; omega
          · right; exact (has_idR HID.out (k - 1)).2 ⟨by omega, by omega⟩
        have CC := Lib.hid (create_yes (p := k - 1) htb ⟨by omega, by omega⟩ hpp (by omega) (by omega))
        have HTB := Lib.hid htb
        have HBR := Lib.hid hbr
        have hii : ((i' + 1 : Nat) : Int) - 1 = (i' : Int) := by omega
        clear htb hbr hid hx hkk hpp
        go_wp2_with fail
        refine (CN.out _).mono ?_
        rintro e w3 ⟨rfl, rfl⟩
        go_wp2_with fail
        refine CC.out.mono ?_
        rintro e w4 ⟨rfl, hst⟩
        have HN := Lib.hid hst.tb
        have HB := Lib.hid (HBR.out.trans (hst.below HTB.out hrz))
        clear hst
        go_wp2_with fail
        go_roundg j
        case measure => omega
        case rel => exact ⟨i' + 1 + 1, _, by go_num, by omega, by have := HN.out; rw [show ((i' + 1 : Nat) : Int) - 1 + 1 = ((i' + 1 + 1 : Nat) : Int) - 1 from by omega] at this; exact this, by simp; omega, by
          show idsO (obT (T ++ _)) = idR (i' + 1 + 1)
          rw [idR_succ, ← HID.out]
          simp [idsO, obT, newM, newO], HB.out⟩
    · obtain rfl : i = l1.length + 1 := by omega
      have hmx : ((l1.length + 1 : Nat) : Int) - 1 = (l1.length : Int) := by omega
      rw [hmx] at htb
      have HTB := Lib.hid htb
      have HBR := Lib.hid hbr
      have HID := Lib.hid hid.out
      clear htb hbr hid hTl hmx hik
      go_wp2_with fail
      go_loopg [12] l2.length (fun kk iv wr => ∃ (i : Nat) (T : List OM), iv = .int .i64 (i : Int) ∧ i + kk = l2.length ∧ TB wr w1.heap.size (w1.heap.size + 1) w1.heap.size T (l1.length : Int) ∧ Hid (idsO (obT T) = idR (l1.length + 1)) ∧ Below w1.heap.size w1 wr)
      case atStart => exact ⟨0, T, rfl, by omega, HTB.out, HID.out, HBR.out⟩
      case round =>
        clear hi
        obtain ⟨i, T, rfl, hik, htb, hid, hbr⟩ := hrel
        have hrz := hbr.size
        by_cases hgo : i < l2.length ∧ i < l1.length + 1
        · obtain ⟨hi, hi2⟩ := hgo
          obtain ⟨j, rfl⟩ : ∃ j, gk = j + 1 := ⟨gk - 1, by omega⟩
          obtain ⟨x, hx⟩ : ∃ x, l2[i]? = some x := ⟨l2[i], List.getElem?_eq_some_iff.2 ⟨hi, rfl⟩⟩
          obtain ⟨hxi, b, o, rfl, hcx⟩ := HL2.out.at_ (HB1.out.trans (hbr.mono HB1.out.size)) hx
          have CN := Lib.hid (fun W => onumber_c x ((l1.length : Int) + 1 + 1) W hxi (by omega) (by omega))
          have hk0 := Int.emod_nonneg x (show ((l1.length : Int) + 1 + 1) ≠ 0 by omega)
          have hk1 := Int.emod_lt_of_pos x (show 0 < ((l1.length : Int) + 1 + 1) by omega)
          obtain ⟨k, hkk⟩ : ∃ k, k = x % ((l1.length : Int) + 1 + 1) := ⟨_, rfl⟩
          rw [← hkk] at CN hk0 hk1
          have CM := Lib.hid (move_c (o := (i : Int)) (p := k - 1) htb ⟨by omega, by omega⟩ ⟨by omega, by omega⟩)
          have HTB := Lib.hid htb
          have HBR := Lib.hid hbr
          have HID := Lib.hid hid.out
          clear htb hbr hid hx hkk
          go_wp2_with fail
          refine (CN.out _).mono ?_
          rintro e w3 ⟨rfl, rfl⟩
          go_wp2_with fail
          refine CM.out.mono ?_
          rintro e w4 ⟨cc, T', rfl, hst, hids⟩
          have HN := Lib.hid hst.tb
          have HB := Lib.hid (HBR.out.trans (hst.below HTB.out hrz))
          have HI2 := Lib.hid hids
          clear hst hids
          go_wp2_with fail
          go_roundg j
          case measure => omega
          case rel => exact ⟨i + 1, T', by go_num, by omega, HN.out, by show _ = _; rw [HI2.out, HID.out], HB.out⟩
        · have HTB := Lib.hid htb
          have HBR := Lib.hid hbr
          have HID := Lib.hid hid.out
          clear htb hbr hid
          have CN := Lib.hid (fun W => onumber_c gn ((l1.length : Int) + 1) W hgn (by omega) (by omega))
          have hk0 := Int.emod_nonneg gn (show ((l1.length : Int) + 1) ≠ 0 by omega)
          have hk1 := Int.emod_lt_of_pos gn (show 0 < ((l1.length : Int) + 1) by omega)
          obtain ⟨K, hkk⟩ : ∃ K : Nat, gn % ((l1.length : Int) + 1) = (K : Int) := ⟨(gn % ((l1.length : Int) + 1)).toNat, by omega⟩
          rw [hkk] at CN hk0 hk1
          have hki : I64 (K : Int) := ⟨by omega, by omega⟩
          have CA := Lib.hid (all_c HTB.out)
          have hhk : hasO (obT T) (K : Int) = true := (has_idR HID.out (K : Int)).2 ⟨by omega, by omega⟩
          obtain ⟨x0, hx0⟩ := hasT hhk
          have HHK := Lib.hid hhk
          have HX0 := Lib.hid hx0
          have hTn : T.length = l1.length + 1 := by
            have h1 := congrArg List.length HID.out
            rw [idR_len] at h1
            simpa [idsO, obT] using h1
          rw [hTn] at CA
          have HTN := Lib.hid hTn
          clear hkk hhk hx0 hTn
          by_cases hi : i < l2.length
          case' pos =>
            have hi2 : ¬ i < l1.length + 1 := fun h => hgo ⟨hi, h⟩
            clear hgo
            go_wp2_with fail
          case' neg =>
            clear hgo
            go_wp2_with fail
          all_goals
            refine (CN.out _).mono ?_
            rintro e w3 ⟨rfl, rfl⟩
            go_wp2_with fail
            refine CA.out.mono ?_
            rintro e w4 ⟨v, rfl, hrow, hb4⟩
            obtain ⟨Av, cv, rfl, hnc, hcm, hA, hcell⟩ := own_formO hrow
            unfold maxLen at hcm
            have hT4 := HTB.out.keep hb4
            have CR := Lib.hid (recycle_yes hT4 hki HX0.out)
            have HROW := Lib.hid hrow
            have HCL := Lib.hid hcell
            have HB4 := Lib.hid (HBR.out.trans (hb4.mono hrz))
            have HT4 := Lib.hid hT4
            have HLT := Lib.hid (show ∀ b ∈ (w1.heap.size + 1) :: w1.heap.size :: blkT T, b < wr.heap.size from HTB.out.tab.lt)
            clear hrow hcell hb4 hT4
            go_wp2_with fail
            refine CR.out.mono ?_
            rintro e w5 ⟨rfl, T', hst, heq⟩
            have HST := Lib.hid hst
            have HEQ := Lib.hid heq
            have CH := has_c hst.tb.tab hki
            rw [heq, rcl_has HTB.out.ok.sort HHK.out] at CH
            have CH := Lib.hid CH
            have CR2 := Lib.hid (recycle_no hst.tb hki (by rw [heq]; exact rcl_has HTB.out.ok.sort HHK.out))
            clear hst heq
            go_wp2_with fail
            refine CH.out.mono ?_
            rintro e w6 ⟨rfl, rfl⟩
            go_wp2_with fail
            refine CR2.out.mono ?_
            rintro e w6 ⟨rfl, rfl⟩
            have HB5 := Lib.hid (HB4.out.trans (HST.out.below HT4.out HB4.out.size))
            go_wp2_with fail
            go_loopg [15] (l1.length + 1) (fun kk iv wr => ∃ (ii : Nat), iv = .int .i64 (ii : Int) ∧ ii + kk = l1.length + 1 ∧ Below w5.heap.size w5 wr)
            case atStart => exact ⟨0, rfl, by omega, Below.refl _ _⟩
            case round =>
              obtain ⟨ii, rfl, hik2, hb6⟩ := hrel
              by_cases hii : ii < l1.length + 1
              · obtain ⟨jj, rfl⟩ : ∃ jj, gk = jj + 1 := ⟨gk - 1, by omega⟩
                by_cases hiK : ii = K
                · subst hiK
                  have HB6 := Lib.hid hb6
                  clear hb6
                  go_wp2_with fail
                  go_roundg jj
                  case measure => omega
                  case rel => exact ⟨ii + 1, by go_num, by omega, HB6.out⟩
                have hiK' : ((ii : Int) == (K : Int)) = false := by simp; omega
                obtain ⟨y, hy, hyid⟩ := at_idR HID.out (i := ii) (by omega)
                have hget := get_rcl (p := x0.o.parent) HTB.out.ok.sort HHK.out (List.mem_of_getElem? hy) (by omega)
                rw [← HEQ.out, getO_obT, hyid] at hget
                obtain ⟨x', hx', hxo⟩ : ∃ x', findT T' (ii : Int) = some x' ∧ x'.o = gone (K : Int) x0.o.parent y := by
                  cases hf : findT T' (ii : Int) with
                  | none => rw [hf] at hget; cases hget
                  | some x' => rw [hf] at hget; exact ⟨x', rfl, Option.some.inj hget⟩
                have CG0 := Lib.hid (get_c (HST.out.tb.keep hb6) (o := (ii : Int)) ⟨by omega, by omega⟩ hx')
                have HXO := Lib.hid hxo
                obtain ⟨g, rfl, _⟩ := HCL.out (10 * ii + 0) (.int .i64 y.id) (by rw [allCs_at _ _ _ 0 hy (by omega)]; rfl)
                have hgr := HROW.out.lt g rfl
                have hg5 : g < w5.heap.size := by have := HST.out.chg.size; omega
                have hgb : w5.heap[g]? = w4.heap[g]? := HST.out.chg.block g hgr.2 (fun e => by have := HLT.out g e; omega)
                have HC5 : ∀ (W : World), Below w5.heap.size w5 W → ∀ (j : Nat) (u : Value), (allCs (obT T))[j]? = some u → W.cell? ⟨g, j, none⟩ = some u := fun W hW j u hu => by
                  obtain ⟨g', e, h⟩ := HCL.out j u hu
                  obtain rfl : g = g' := by injection e with e; injection e
                  rw [hW.cell (p := ⟨g, j, none⟩) hg5, World.cell?_of_block (a := ⟨g, j, none⟩) hgb]
                  exact h
                have HD := Lib.hid (fun W (hW : Below w5.heap.size w5 W) => (show W.cell? ⟨g, ii * 10, none⟩ = some (.int .i64 y.id) ∧ W.cell? ⟨g, ii * 10 + 1, none⟩ = some (.int .i64 y.parent) ∧ W.cell? ⟨g, ii * 10 + 2, none⟩ = some (.int .i64 y.owner) ∧ W.cell? ⟨g, ii * 10 + 3, none⟩ = some (.int .i64 y.place) ∧ W.cell? ⟨g, ii * 10 + 4, none⟩ = some (.int .i64 y.flags) ∧ W.cell? ⟨g, ii * 10 + 5, none⟩ = some (.int .i64 y.quota) ∧ W.cell? ⟨g, ii * 10 + 6, none⟩ = some (.string y.name) ∧ W.cell? ⟨g, ii * 10 + 7, none⟩ = some (.slice none 0 0) ∧ W.cell? ⟨g, ii * 10 + 8, none⟩ = some (.slice none 0 0) ∧ W.cell? ⟨g, ii * 10 + 9, none⟩ = some (.slice none 0 0) from by
                  have key : ∀ j u, j < 10 → (bareCs y)[j]? = some u → W.cell? ⟨g, ii * 10 + j, none⟩ = some u := fun j u hj hu => by
                    have := HC5 W hW (10 * ii + j) u (by rw [allCs_at _ _ _ j hy hj]; exact hu)
                    rw [Nat.mul_comm] at this
                    exact this
                  exact ⟨key 0 _ (by omega) rfl, key 1 _ (by omega) rfl, key 2 _ (by omega) rfl, key 3 _ (by omega) rfl, key 4 _ (by omega) rfl, key 5 _ (by omega) rfl, key 6 _ (by omega) rfl, key 7 _ (by omega) rfl, key 8 _ (by omega) rfl, key 9 _ (by omega) rfl⟩))
                obtain ⟨yk, hyk, hykid⟩ := at_idR HID.out (i := K) (by omega)
                have hyx : yk = x0.o := by
                  have h1 := getO_of_mem HTB.out.ok.sort (List.mem_of_getElem? hyk)
                  rw [hykid, getO_some' HX0.out] at h1
                  exact (Option.some.inj h1).symm
                have HDK := Lib.hid (fun W (hW : Below w5.heap.size w5 W) => (show W.cell? ⟨g, K * 10 + 1, none⟩ = some (.int .i64 x0.o.parent) from by
                  have := HC5 W hW (10 * K + 1) (.int .i64 x0.o.parent) (by rw [allCs_at _ _ _ 1 hyk (by omega), hyx]; rfl)
                  rw [Nat.mul_comm] at this
                  exact this))
                clear hy hyk hyx HC5 hget hx' hxo hgb hyid hykid
                by_cases hpk : y.parent = (K : Int)
                · by_cases hlk : y.place = (K : Int)
                  · have hxo : x'.o = ⟨y.id, x0.o.parent, y.owner, (-1), y.flags, y.quota, y.name, y.defs, y.slots⟩ := by rw [HXO.out]; unfold gone; rw [if_pos hpk, if_pos hlk]
                    have CG := CG0.out
                    rw [hxo] at CG
                    unfold bareCs at CG
                    have CS := fun W => sameObject_c ⟨y.id, x0.o.parent, y.owner, (-1), y.flags, y.quota, y.name, y.defs, y.slots⟩ W
                    unfold bareCs at CS
                    have CG := Lib.hid CG
                    have CS := Lib.hid CS
                    have hpb : (y.parent == (K : Int)) = true := by simpa using hpk
                    have hlb : (y.place == (K : Int)) = true := by simpa using hlk
                    clear hpk hlk hxo
                    go_wp2_with fail
                    refine CG.out.mono ?_
                    rintro e w7 ⟨rfl, hb7⟩
                    have HB7 := Lib.hid (hb6.trans (hb7.mono hb6.size))
                    obtain ⟨d0, d1, d2, d3, d4, d5, d6, d7, d8, d9⟩ := HD.out w7 HB7.out
                    have dk := HDK.out w7 HB7.out
                    have hgw : g < w7.heap.size := by have := HB7.out.size; omega
                    clear hb7
                    go_wp2_with fail
                    refine (CS.out _).mono ?_
                    rintro e w8 ⟨rfl, hb8⟩
                    have HB8 := Lib.hid (obr_chain HB7.out hb8 (((Below.refl _ _).alloc (Nat.le_refl _) _).alloc (by simp) _))
                    clear hb8 d0 d1 d2 d3 d4 d5 d6 d7 d8 d9 dk
                    go_wp2_with fail
                    go_roundg jj
                    case measure => omega
                    case rel => exact ⟨ii + 1, by go_num, by omega, HB8.out⟩
                  · have hxo : x'.o = ⟨y.id, x0.o.parent, y.owner, y.place, y.flags, y.quota, y.name, y.defs, y.slots⟩ := by rw [HXO.out]; unfold gone; rw [if_pos hpk, if_neg hlk]
                    have CG := CG0.out
                    rw [hxo] at CG
                    unfold bareCs at CG
                    have CS := fun W => sameObject_c ⟨y.id, x0.o.parent, y.owner, y.place, y.flags, y.quota, y.name, y.defs, y.slots⟩ W
                    unfold bareCs at CS
                    have CG := Lib.hid CG
                    have CS := Lib.hid CS
                    have hpb : (y.parent == (K : Int)) = true := by simpa using hpk
                    have hlb : (y.place == (K : Int)) = false := by simpa using hlk
                    clear hpk hlk hxo
                    go_wp2_with fail
                    refine CG.out.mono ?_
                    rintro e w7 ⟨rfl, hb7⟩
                    have HB7 := Lib.hid (hb6.trans (hb7.mono hb6.size))
                    obtain ⟨d0, d1, d2, d3, d4, d5, d6, d7, d8, d9⟩ := HD.out w7 HB7.out
                    have dk := HDK.out w7 HB7.out
                    have hgw : g < w7.heap.size := by have := HB7.out.size; omega
                    clear hb7
                    go_wp2_with fail
                    refine (CS.out _).mono ?_
                    rintro e w8 ⟨rfl, hb8⟩
                    have HB8 := Lib.hid (obr_chain HB7.out hb8 (((Below.refl _ _).alloc (Nat.le_refl _) _).alloc (by simp) _))
                    clear hb8 d0 d1 d2 d3 d4 d5 d6 d7 d8 d9 dk
                    go_wp2_with fail
                    go_roundg jj
                    case measure => omega
                    case rel => exact ⟨ii + 1, by go_num, by omega, HB8.out⟩
                · by_cases hlk : y.place = (K : Int)
                  · have hxo : x'.o = ⟨y.id, y.parent, y.owner, (-1), y.flags, y.quota, y.name, y.defs, y.slots⟩ := by rw [HXO.out]; unfold gone; rw [if_neg hpk, if_pos hlk]
                    have CG := CG0.out
                    rw [hxo] at CG
                    unfold bareCs at CG
                    have CS := fun W => sameObject_c ⟨y.id, y.parent, y.owner, (-1), y.flags, y.quota, y.name, y.defs, y.slots⟩ W
                    unfold bareCs at CS
                    have CG := Lib.hid CG
                    have CS := Lib.hid CS
                    have hpb : (y.parent == (K : Int)) = false := by simpa using hpk
                    have hlb : (y.place == (K : Int)) = true := by simpa using hlk
                    clear hpk hlk hxo
                    go_wp2_with fail
                    refine CG.out.mono ?_
                    rintro e w7 ⟨rfl, hb7⟩
                    have HB7 := Lib.hid (hb6.trans (hb7.mono hb6.size))
                    obtain ⟨d0, d1, d2, d3, d4, d5, d6, d7, d8, d9⟩ := HD.out w7 HB7.out
                    have dk := HDK.out w7 HB7.out
                    have hgw : g < w7.heap.size := by have := HB7.out.size; omega
                    clear hb7
                    go_wp2_with fail
                    refine (CS.out _).mono ?_
                    rintro e w8 ⟨rfl, hb8⟩
                    have HB8 := Lib.hid (obr_chain HB7.out hb8 (((Below.refl _ _).alloc (Nat.le_refl _) _).alloc (by simp) _))
                    clear hb8 d0 d1 d2 d3 d4 d5 d6 d7 d8 d9 dk
                    go_wp2_with fail
                    go_roundg jj
                    case measure => omega
                    case rel => exact ⟨ii + 1, by go_num, by omega, HB8.out⟩
                  · have hxo : x'.o = ⟨y.id, y.parent, y.owner, y.place, y.flags, y.quota, y.name, y.defs, y.slots⟩ := by rw [HXO.out]; unfold gone; rw [if_neg hpk, if_neg hlk]
                    have CG := CG0.out
                    rw [hxo] at CG
                    unfold bareCs at CG
                    have CS := fun W => sameObject_c ⟨y.id, y.parent, y.owner, y.place, y.flags, y.quota, y.name, y.defs, y.slots⟩ W
                    unfold bareCs at CS
                    have CG := Lib.hid CG
                    have CS := Lib.hid CS
                    have hpb : (y.parent == (K : Int)) = false := by simpa using hpk
                    have hlb : (y.place == (K : Int)) = false := by simpa using hlk
                    clear hpk hlk hxo
                    go_wp2_with fail
                    refine CG.out.mono ?_
                    rintro e w7 ⟨rfl, hb7⟩
                    have HB7 := Lib.hid (hb6.trans (hb7.mono hb6.size))
                    obtain ⟨d0, d1, d2, d3, d4, d5, d6, d7, d8, d9⟩ := HD.out w7 HB7.out
                    have dk := HDK.out w7 HB7.out
                    have hgw : g < w7.heap.size := by have := HB7.out.size; omega
                    clear hb7
                    go_wp2_with fail
                    refine (CS.out _).mono ?_
                    rintro e w8 ⟨rfl, hb8⟩
                    have HB8 := Lib.hid (obr_chain HB7.out hb8 (((Below.refl _ _).alloc (Nat.le_refl _) _).alloc (by simp) _))
                    clear hb8 d0 d1 d2 d3 d4 d5 d6 d7 d8 d9 dk
                    go_wp2_with fail
                    go_roundg jj
                    case measure => omega
                    case rel => exact ⟨ii + 1, by go_num, by omega, HB8.out⟩
              · have CM := Lib.hid (max_c (HST.out.tb.keep hb6).tab)
                have CA2 := Lib.hid (all_c (HST.out.tb.keep hb6))
                have hT'n : T'.length = l1.length := by
                  rw [← obT_len T', HEQ.out, rcl_length HID.out HTB.out.ok.sort (by omega) (by omega)]
                  omega
                rw [hT'n] at CA2
                have HB6 := Lib.hid hb6
                clear hb6 hT'n
                go_wp2_with fail
                refine CM.out.mono ?_
                rintro e w7 ⟨rfl, rfl⟩
                go_wp2_with fail
                refine CA2.out.mono ?_
                rintro e w7 ⟨v7, rfl, hr7, hb7⟩
                obtain ⟨A7, c7, rfl, _⟩ := own_formO hr7
                have HB7 := Lib.hid (HB6.out.trans (hb7.mono HB6.out.size))
                clear hb7 hr7
                go_wp2_with fail
                go_ret
                exact ⟨rfl, (HB1.out.trans (HB5.out.mono HB1.out.size)).trans (HB7.out.mono (by have h1 := HB5.out.size; have h2 := HB1.out.size; omega))⟩
end Go.Proofs.Ytagajoagdhickaa
