/- Contracts of the functions that the statement reaches, and the plain mathematics beneath: several texts joined. -/
import Derived.Maps.Views
import Derived.StringKeys
import Derived.Test.YtnphgcbknfmapaaGreatDoorWquAH
import Derived.Test.YtnphgcbknfmapaaGreatDoorWquAF
import Derived.Test.YtnphgcbknfmapaaGreatDoorWquAB
import Derived.Test.YtnphgcbknfmapaaGreatDoorWquAC
namespace Go.Proofs.YtnphgcbknfmapaaGreatDoor
open Go.RowKit Go.Lib
set_option linter.unusedVariables false

theorem take_snocO {l : List OB} {i : Nat} {x : OB} (h : l[i]? = some x) : l.take (i + 1) = l.take i ++ [x] := by
  rw [List.take_succ_eq_append_getElem (List.getElem?_eq_some_iff.1 h).1, (List.getElem?_eq_some_iff.1 h).2]
/-- What is told of a table that is laid. -/
def BrT (T : List OM) : Prop := ∀ x ∈ T, (x.o.slots = [] → x.sv = .slice none 0 0) ∧ (x.o.defs = [] → x.dv = .slice none 0 0)
theorem getO_take {l : List OB} (hs : SortO l) {i : Nat} {x : OB} (hx : l[i]? = some x) : getO (l.take i) x.id = none := by
  rw [getO_none]
  intro y hy e
  obtain ⟨j, hj⟩ := List.mem_iff_getElem?.1 hy
  rw [List.getElem?_take] at hj
  split at hj
  · rename_i hji
    obtain ⟨l1, e1⟩ := List.getElem?_eq_some_iff.1 hj
    obtain ⟨l2, e2⟩ := List.getElem?_eq_some_iff.1 hx
    have := List.pairwise_iff_getElem.1 hs j i l1 l2 hji
    rw [e1, e2] at this
    omega
  · cases hj
theorem lt_take {l : List OB} (hs : SortO l) {i : Nat} {x : OB} (hx : l[i]? = some x) : ∀ y ∈ l.take i, y.id < x.id := by
  intro y hy
  obtain ⟨j, hj⟩ := List.mem_iff_getElem?.1 hy
  rw [List.getElem?_take] at hj
  split at hj
  · rename_i hji
    obtain ⟨l1, e1⟩ := List.getElem?_eq_some_iff.1 hj
    obtain ⟨l2, e2⟩ := List.getElem?_eq_some_iff.1 hx
    have := List.pairwise_iff_getElem.1 hs j i l1 l2 hji
    rw [e1, e2] at this
    exact this
  · cases hj
/-- The number of the object ahead of a place; -1: there is none. -/
def lastO (l : List OB) : Nat → Int
  | 0 => -1
  | i + 1 => match l[i]? with
    | none => -1
    | some x => x.id
theorem lastO_0 (l : List OB) : lastO l 0 = -1 := rfl
theorem lastO_s {l : List OB} {i : Nat} {x : OB} (h : l[i]? = some x) : lastO l (i + 1) = x.id := by
  simp only [lastO, h]
theorem lastO_lt {l : List OB} {mx : Int} (h : OkS l mx) {i : Nat} {x : OB} (hx : l[i]? = some x) : lastO l i < x.id := by
  cases i with
  | zero => have := (h.rngS (List.mem_of_getElem? hx)).1; rw [lastO_0]; omega
  | succ i =>
    obtain ⟨l2, e2⟩ := List.getElem?_eq_some_iff.1 hx
    have hy : l[i]? = some l[i] := List.getElem?_eq_some_iff.2 ⟨by omega, rfl⟩
    rw [lastO_s hy]
    have := List.pairwise_iff_getElem.1 h.sortS i (i + 1) (by omega) l2 (by omega)
    rw [e2] at this
    exact this

set_option maxRecDepth 100000 in
set_option maxHeartbeats 4000000 in
theorem load_c {w : World} {gl cap : Nat} {mx : Int} (xs : List OM) (hin : RowsIn w gl xs) (hn : xs.length ≤ 512) (hok : OkS (obT xs) mx) (hlast : lastO (obT xs) xs.length = mx) (hmx : mx < 1073741824) (hfair : ∀ x ∈ xs, FairO (obT xs) x.o) :
    Calls Tryz.prog 11 #[.slice (some ⟨gl, 0, none⟩) xs.length cap] w fun e w' => ∃ a m T, e = .returned (.tuple #[.pointer (some ⟨a, 0, none⟩), .nilIface]) ∧ TS w' w.heap.size a m T mx ∧ obT T = obT xs ∧ Below w.heap.size w w' := by
  have HIN := Lib.hid hin
  have HOK := Lib.hid hok
  have HF := Lib.hid hfair
  have HLA := Lib.hid hlast
  have hgl := hin.lt
  have CN := Lib.hid (new_c w)
  clear hin hok hfair hlast
  go_enter Tryz.func11, Tryz.ntmps11
  go_wp2_with fail
  refine CN.out.mono ?_
  rintro e w1 ⟨rfl, ht1, hb1⟩
  have HT1 := Lib.hid (TabG.of_tab (mx := 1073741823) ht1 (by omega))
  have HB1 := Lib.hid hb1
  clear ht1 hb1 CN
  go_wp2_with fail
  go_loopg [18] xs.length (fun kk iv wr => ∃ (i : Nat) (T : List OM), iv = .int .i64 (i : Int) ∧ i + kk = xs.length ∧ TabG wr w.heap.size (w.heap.size + 1) w.heap.size T (-1) 1073741823 ∧ obT T = (obT xs).take i ∧ BrT T ∧ Below w.heap.size w wr)
  case atStart => exact ⟨0, [], rfl, by omega, HT1.out, by simp [obT], (fun x hx => nomatch hx), HB1.out⟩
  case round =>
    obtain ⟨i, T, rfl, hik, htr, hoT, hbT, hbr⟩ := hrel
    have hrz := hbr.size
    by_cases hi : i < xs.length
    · obtain ⟨j, rfl⟩ : ∃ j, gk = j + 1 := ⟨gk - 1, by omega⟩
      obtain ⟨x, hx⟩ : ∃ x, xs[i]? = some x := ⟨xs[i], List.getElem?_eq_some_iff.2 ⟨hi, rfl⟩⟩
      have hxm := List.mem_of_getElem? hx
      obtain ⟨Ad, cd, hdv⟩ : ∃ A C, x.dv = .slice A x.o.defs.length C := by obtain ⟨A, C, e, _⟩ := own_formO (HIN.out.defs x hxm); exact ⟨A, C, e⟩
      obtain ⟨As, cs, hsv⟩ : ∃ A C, x.sv = .slice A x.o.slots.length C := by obtain ⟨A, C, e, _⟩ := own_formO (HIN.out.slots x hxm); exact ⟨A, C, e⟩
      obtain ⟨ob, gx, dv, sv⟩ := x
      simp only at hdv hsv
      subst hdv
      subst hsv
      have hxo : (obT xs)[i]? = some ob := by unfold obT; rw [List.getElem?_map, hx]; rfl
      have hTl : T.length = i := by
        have := congrArg List.length hoT
        rw [List.length_take, oT_len, oT_len] at this
        omega
      have hxr := HOK.out.rngS (List.mem_of_getElem? hxo)
      have hfn : findT T ob.id = none := by
        have h1 := getO_take HOK.out.sortS hxo
        rw [← hoT, getO_obT] at h1
        cases hf : findT T ob.id with
        | none => rfl
        | some z => rw [hf] at h1; cases h1
      have hri := HIN.out.keep hbr
      have hr := fun j u hj hu => hri.cell i _ hx j u hj hu
      have r0 := hr 0 (.int .i64 ob.id) (by omega) rfl
      rw [Nat.add_zero] at r0
      have r1 := hr 1 (.int .i64 ob.parent) (by omega) rfl
      have r2 := hr 2 (.int .i64 ob.owner) (by omega) rfl
      have r3 := hr 3 (.int .i64 ob.place) (by omega) rfl
      have r4 := hr 4 (.int .i64 ob.flags) (by omega) rfl
      have r5 := hr 5 (.int .i64 ob.quota) (by omega) rfl
      have r6 := hr 6 (.string ob.name) (by omega) rfl
      have r7 := hr 7 (.slice Ad ob.defs.length cd) (by omega) rfl
      have r8 := hr 8 (.slice As ob.slots.length cs) (by omega) rfl
      have r9 := hr 9 (.slice none 0 0) (by omega) rfl
      obtain ⟨wx, hwx⟩ : ∃ wx, wx = wr.alloc (.cells #[.int .i64 ob.id, .int .i64 ob.parent, .int .i64 ob.owner, .int .i64 ob.place, .int .i64 ob.flags, .int .i64 ob.quota, .string ob.name, (.slice Ad ob.defs.length cd), (.slice As ob.slots.length cs), .slice none 0 0] 29) := ⟨_, rfl⟩
      have hbx : Below wr.heap.size wr wx := by rw [hwx]; exact (Below.refl _ _).alloc (Nat.le_refl _) _
      have hxz : wx.heap.size = wr.heap.size + 1 := by rw [hwx]; simp
      have hgx : wx.heap[wr.heap.size]? = some (.cells #[.int .i64 ob.id, .int .i64 ob.parent, .int .i64 ob.owner, .int .i64 ob.place, .int .i64 ob.flags, .int .i64 ob.quota, .string ob.name, (.slice Ad ob.defs.length cd), (.slice As ob.slots.length cs), .slice none 0 0] 29 (0, 0)) := by rw [hwx]; exact heap_alloc_new wr _
      have KB : ∀ W, Below wx.heap.size wx W → ∀ j, W.cell? ⟨wr.heap.size, j, none⟩ = (#[.int .i64 ob.id, .int .i64 ob.parent, .int .i64 ob.owner, .int .i64 ob.place, .int .i64 ob.flags, .int .i64 ob.quota, .string ob.name, (.slice Ad ob.defs.length cd), (.slice As ob.slots.length cs), .slice none 0 0] : Array Value)[j]? := fun W hW j => cell_of_row W _ j _ _ _ ((hW.block _ (by omega)).trans hgx)
      have hki : I64 ob.id := ⟨by omega, by omega⟩
      have hfair := HF.out _ hxm
      have CO := Lib.hid (show ∀ W, Below wr.heap.size wr W → Calls Tryz.prog 43 #[.agg #[.int .i64 ob.id, .int .i64 ob.parent, .int .i64 ob.owner, .int .i64 ob.place, .int .i64 ob.flags, .int .i64 ob.quota, .string ob.name, .slice Ad ob.defs.length cd, .slice As ob.slots.length cs, .slice none 0 0]] W fun e w' => ∃ A2 c2 A3 c3, e = .returned (.agg #[.int .i64 ob.id, .int .i64 ob.parent, .int .i64 ob.owner, .int .i64 ob.place, .int .i64 ob.flags, .int .i64 ob.quota, .string ob.name, .slice A2 ob.defs.length c2, .slice A3 ob.slots.length c3, .slice none 0 0]) ∧ CpO W w' ob (.slice A2 ob.defs.length c2) (.slice A3 ob.slots.length c3) from fun W hW => by
        refine (object_r (w := W) ⟨ob, gx, .slice Ad ob.defs.length cd, .slice As ob.slots.length cs⟩ ((hri.keep hW).defs _ hxm) ((hri.keep hW).slots _ hxm) (hri.nild _ hxm) (fun s hs => (hfair.sf s hs).1) (Nat.le_trans hfair.dl (by omega)) hfair.sl).mono ?_
        rintro e w3 ⟨dv', sv', rfl, hcp⟩
        obtain ⟨Ad2, cd2, rfl⟩ : ∃ A C, dv' = .slice A ob.defs.length C := by obtain ⟨A, C, e, _⟩ := own_formO hcp.defs; exact ⟨A, C, e⟩
        obtain ⟨As2, cs2, rfl⟩ : ∃ A C, sv' = .slice A ob.slots.length C := by obtain ⟨A, C, e, _⟩ := own_formO hcp.slots; exact ⟨A, C, e⟩
        exact ⟨_, _, _, _, rfl, hcp⟩)
      have KL : ∀ W, Below wx.heap.size wx W → (W.cell? ⟨w.heap.size + 1, 0, none⟩ = some (.map (some w.heap.size)) ∧ W.cell? ⟨wr.heap.size, 0, none⟩ = some (.int .i64 ob.id) ∧ (Instr.lookup 82 (.map (some w.heap.size)) (.int .i64 ob.id) false).run Tryz.prog W = .ok (.pointer none) W) := by
        intro W hW
        have h1 := htr.below (hbx.trans (hW.mono hbx.size))
        refine ⟨h1.c0, KB W hW 0, ?_⟩
        have h2 := h1.look hki
        rw [ptrT_none hfn] at h2
        exact h2
      have K1 := KL wx.drew (Below.refl _ wx).drew
      have KLH := Lib.hid KL
      have HWX := Lib.hid hwx
      have HKB := Lib.hid KB
      have HBX := Lib.hid hbx
      have HXZ := Lib.hid hxz
      have HTR := Lib.hid htr
      have HBR := Lib.hid hbr
      have HOT := Lib.hid hoT
      have HBT := Lib.hid hbT
      have HXO := Lib.hid hxo
      have HFN := Lib.hid hfn
      clear hr hri KL KB hbx hxz hgx hwx hoT hbT hfn htr hbr hfair hxo
      go_wp2_with fail
      rw [← HWX.out]
      clear r0 r1 r2 r3 r4 r5 r6 r7 r8 r9
      go_region_held3 (fun W => W.cell? ⟨w.heap.size + 1, 0, none⟩ = some (.map (some w.heap.size)) ∧ W.cell? ⟨wr.heap.size, 0, none⟩ = some (.int .i64 ob.id) ∧ (Instr.lookup 82 (.map (some w.heap.size)) (.int .i64 ob.id) false).run Tryz.prog W = .ok (.pointer none) W)
        (first | (with_reducible assumption) | (with_reducible exact K1))
        (fail)
      clear K1
      have hbd : Below wx.heap.size wx wx.drew := (Below.refl _ wx).drew
      have k0 := HKB.out _ hbd 0
      have k1 := HKB.out _ hbd 1
      have k2 := HKB.out _ hbd 2
      have k3 := HKB.out _ hbd 3
      have k4 := HKB.out _ hbd 4
      have k5 := HKB.out _ hbd 5
      have k6 := HKB.out _ hbd 6
      have k7 := HKB.out _ hbd 7
      have k8 := HKB.out _ hbd 8
      have k9 := HKB.out _ hbd 9
      have HBD := Lib.hid hbd
      clear hbd
      go_wp2_with fail
      refine (CO.out _ HBX.out.drew).mono ?_
      rintro e w3 ⟨Ad2, cd2, As2, cs2, rfl, hcp⟩
      have hb3 : Below wx.heap.size wx w3 := HBD.out.trans hcp.below
      obtain ⟨wq, hwq⟩ : ∃ wq, wq = w3.alloc (.cells #[.int .i64 ob.id, .int .i64 ob.parent, .int .i64 ob.owner, .int .i64 ob.place, .int .i64 ob.flags, .int .i64 ob.quota, .string ob.name, .slice Ad2 ob.defs.length cd2, .slice As2 ob.slots.length cs2, .slice none 0 0] 29) := ⟨_, rfl⟩
      have hbq : Below wx.heap.size wx wq := by rw [hwq]; exact hb3.alloc hb3.size _
      have hgq : wq.heap[w3.heap.size]? = some (.cells #[.int .i64 ob.id, .int .i64 ob.parent, .int .i64 ob.owner, .int .i64 ob.place, .int .i64 ob.flags, .int .i64 ob.quota, .string ob.name, .slice Ad2 ob.defs.length cd2, .slice As2 ob.slots.length cs2, .slice none 0 0] 29 (0, 0)) := by rw [hwq]; exact heap_alloc_new w3 _
      have hbq3 : Below w3.heap.size w3 wq := by rw [hwq]; exact (Below.refl _ _).alloc (Nat.le_refl _) _
      obtain ⟨q0, q1, _⟩ := KLH.out wq hbq
      have HWQ := Lib.hid hwq
      have HBQ := Lib.hid hbq
      have HGQ := Lib.hid hgq
      have HB3 := Lib.hid hbq3
      have HCP := Lib.hid hcp
      clear hcp hb3 hwq hbq hgq hbq3 k0 k1 k2 k3 k4 k5 k6 k7 k8 k9
      go_wp2_with fail
      rw [← HWQ.out]
      go_still_tail 6, (by kernel_rfl)
      change wpList _ _ _ _ _ wq.drew
      refine wpList_mapUpdate_own (a := _) (o := _) _ rfl _ _ _ 82 rfl 3 81 tkeyed tmap ptrR w.heap.size T.length (.map (datT T)) rfl ((HTR.out.below (HBX.out.trans (HBQ.out.mono HBX.out.size))).map.drew) (by unfold maxLen; omega) (.int .i64 ob.id) (.pointer (some ⟨w3.heap.size, 0, none⟩)) (.int .i64 ob.id) rfl rfl (tkey_of hki) (.lit (.int .i64 (w3.heap.size : Int))) [] rfl ?_
      intro w5 hown5 hgrow5
      have htq := HTR.out.below (HBX.out.trans (HBQ.out.mono HBX.out.size))
      have hcp := HCP.out
      have hzd : wx.drew.heap.size = wx.heap.size := rfl
      have hs3 := hcp.below.size
      have hbase : w.heap.size ≤ wr.heap.size := hrz
      have hobj : ObjAt wq w.heap.size ⟨ob, w3.heap.size, .slice Ad2 ob.defs.length cd2, .slice As2 ob.slots.length cs2⟩ :=
        ⟨HGQ.out, ownsRow_base (own_keepO hcp.defs HB3.out) (by have := HXZ.out; omega), ownsRow_base (own_keepO hcp.slots HB3.out) (by have := HXZ.out; omega)⟩
      have hbk : ∀ b ∈ (⟨ob, w3.heap.size, .slice Ad2 ob.defs.length cd2, .slice As2 ob.slots.length cs2⟩ : OM).blocks, wr.heap.size ≤ b := by
        intro b hb
        rcases OM.mem_blocks.1 hb with rfl | hb | hb
        · show wr.heap.size ≤ w3.heap.size; have := HXZ.out; omega
        · have := (hcp.defs.lt b hb).1; have := HXZ.out; omega
        · have := (hcp.slots.lt b hb).1; have := HXZ.out; omega
      have hnd : (⟨ob, w3.heap.size, .slice Ad2 ob.defs.length cd2, .slice As2 ob.slots.length cs2⟩ : OM).blocks.Nodup := by
        have h1 := fun b hb => (hcp.defs.lt b hb).2
        have h2 := fun b hb => (hcp.slots.lt b hb).2
        have h3 := hcp.apart
        unfold OM.blocks
        simp only
        cases e1 : (Value.slice Ad2 ob.defs.length cd2).ownBlock with
        | none =>
          cases e2 : (Value.slice As2 ob.slots.length cs2).ownBlock with
          | none => simp
          | some b2 => have := h2 b2 e2; simp; omega
        | some b1 =>
          have := h1 b1 e1
          cases e2 : (Value.slice As2 ob.slots.length cs2).ownBlock with
          | none => simp; omega
          | some b2 =>
            have := h2 b2 e2
            have h4 := h3 b1 e1
            have h5 : b2 ≠ b1 := fun e => h4 (by rw [e2, e])
            simp
            omega
      have htn := htq.put hobj hnd (fun b hb => ⟨by have := hbk b hb; omega, fun hm => by have := HTR.out.lt b hm; have := hbk b hb; omega⟩) hown5 hgrow5 (fun y hy => by
        have h1 : y.o ∈ obT T := List.mem_map_of_mem hy
        rw [HOT.out] at h1
        exact lt_take HOK.out.sortS HXO.out _ h1) (by show 0 ≤ ob.id ∧ ob.id ≤ 1073741823; omega) (by omega)
      have hoN : obT (T ++ [⟨ob, w3.heap.size, .slice Ad2 ob.defs.length cd2, .slice As2 ob.slots.length cs2⟩]) = (obT xs).take (i + 1) := by
        rw [take_snocO HXO.out, ← HOT.out]
        simp [obT]
      have hbN : BrT (T ++ [⟨ob, w3.heap.size, .slice Ad2 ob.defs.length cd2, .slice As2 ob.slots.length cs2⟩]) := by
        intro y hy
        rcases List.mem_append.1 hy with hy | hy
        · exact HBT.out y hy
        · rw [List.mem_singleton] at hy
          subst hy
          exact ⟨hcp.nils, hcp.nild⟩
      have hbw5 : Below w.heap.size w w5 := Below.grown ((HBR.out.trans ((HBX.out.trans (HBQ.out.mono HBX.out.size)).mono hrz)).drew) hgrow5 (by show w.heap.size ≤ wq.heap.size; have := HBQ.out.size; have := HXZ.out; omega) (fun k hk => by injection hk with hk; omega)
      have HTN := Lib.hid htn
      have HON := Lib.hid hoN
      have HBN := Lib.hid hbN
      have HBW := Lib.hid hbw5
      clear hown5 hgrow5 htq hcp hobj hbk hnd htn hoN hbN hbw5
      go_wp2_with fail
      go_roundg j
      case measure => omega
      case rel => exact ⟨i + 1, _, by go_num, by omega, HTN.out, HON.out, HBN.out, HBW.out⟩
    · obtain rfl : i = xs.length := by omega
      have HTR := Lib.hid htr
      have HBR := Lib.hid hbr
      have HBT := Lib.hid hbT
      have hoT' : obT T = obT xs := by rw [hoT, ← oT_len, List.take_length]
      have HOT := Lib.hid hoT'
      clear htr hbr hbT hoT hoT'
      rename World => wA
      go_wp2_with fail
      go_loopg [8, 41] xs.length (fun kk lv iv wr => ∃ (i : Nat), lv = .int .i64 (lastO (obT xs) i) ∧ iv = .int .i64 (i : Int) ∧ i + kk = xs.length ∧ Below wA.heap.size wA wr)
      case atStart => exact ⟨0, rfl, rfl, by omega, Below.refl _ _⟩
      case round =>
        obtain ⟨i, rfl, rfl, hik, hbt⟩ := hrel
        have htz := hbt.size
        by_cases hi : i < xs.length
        · obtain ⟨j, rfl⟩ : ∃ j, gk = j + 1 := ⟨gk - 1, by omega⟩
          obtain ⟨x, hx⟩ : ∃ x, xs[i]? = some x := ⟨xs[i], List.getElem?_eq_some_iff.2 ⟨hi, rfl⟩⟩
          have hxm := List.mem_of_getElem? hx
          obtain ⟨Ad, cd, hdv⟩ : ∃ A C, x.dv = .slice A x.o.defs.length C := by obtain ⟨A, C, e, _⟩ := own_formO (HIN.out.defs x hxm); exact ⟨A, C, e⟩
          obtain ⟨As, cs, hsv⟩ : ∃ A C, x.sv = .slice A x.o.slots.length C := by obtain ⟨A, C, e, _⟩ := own_formO (HIN.out.slots x hxm); exact ⟨A, C, e⟩
          obtain ⟨ob, gx, dv, sv⟩ := x
          simp only at hdv hsv
          subst hdv
          subst hsv
          have hxo : (obT xs)[i]? = some ob := by unfold obT; rw [List.getElem?_map, hx]; rfl
          have hom := List.mem_of_getElem? hxo
          have hxr := HOK.out.rngS hom
          have hll := lastO_lt HOK.out hxo
          have hls := lastO_s hxo
          have hbw := HBR.out.trans (hbt.mono hrz)
          have hri := HIN.out.keep hbw
          have hr := fun j u hj hu => hri.cell i _ hx j u hj hu
          have r0 := hr 0 (.int .i64 ob.id) (by omega) rfl
          rw [Nat.add_zero] at r0
          have r1 := hr 1 (.int .i64 ob.parent) (by omega) rfl
          have r2 := hr 2 (.int .i64 ob.owner) (by omega) rfl
          have r3 := hr 3 (.int .i64 ob.place) (by omega) rfl
          have r4 := hr 4 (.int .i64 ob.flags) (by omega) rfl
          have r5 := hr 5 (.int .i64 ob.quota) (by omega) rfl
          have r6 := hr 6 (.string ob.name) (by omega) rfl
          have r7 := hr 7 (.slice Ad ob.defs.length cd) (by omega) rfl
          have r8 := hr 8 (.slice As ob.slots.length cs) (by omega) rfl
          have r9 := hr 9 (.slice none 0 0) (by omega) rfl
          obtain ⟨y, hy, hyo⟩ := findT_of_getO (T := T) (d := ob.id) (x := ob) (by rw [HOT.out]; exact getO_of_mem HOK.out.sortS hom)
          have hpi : ParI T := fun z hz => HOK.out.num hmx (HOK.out.par (by rw [← HOT.out]; exact List.mem_map_of_mem hz))
          have hli : ∀ z ∈ T, I64 z.o.place := fun z hz => HOK.out.num hmx (HOK.out.plc (by rw [← HOT.out]; exact List.mem_map_of_mem hz))
          have hok2 : OkS (obT T) mx := by rw [HOT.out]; exact HOK.out
          have CF := Lib.hid (show ∀ W, Below wr.heap.size wr W → Calls Tryz.prog 44 #[.pointer (some ⟨w.heap.size + 1, 0, none⟩), .agg #[.int .i64 ob.id, .int .i64 ob.parent, .int .i64 ob.owner, .int .i64 ob.place, .int .i64 ob.flags, .int .i64 ob.quota, .string ob.name, .slice Ad ob.defs.length cd, .slice As ob.slots.length cs, .slice none 0 0]] W fun e w' => e = .returned (.bool true) ∧ Below W.heap.size W w' from fun W hW =>
            fair_c ((HTR.out.below hbt).below hW) ⟨ob, gx, .slice Ad ob.defs.length cd, .slice As ob.slots.length cs⟩ (by rw [HOT.out]; exact HF.out _ hxm) hy hyo hpi hli ((hri.keep hW).defs _ hxm) ((hri.keep hW).slots _ hxm) hok2.acyP hok2.acyL (hok2.par (by rw [HOT.out]; exact hom)) (hok2.plc (by rw [HOT.out]; exact hom)))
          have hnl : ¬ ob.id ≤ lastO (obT xs) i := by omega
          have hng : ¬ 1073741824 ≤ ob.id := by omega
          obtain ⟨wx, hwx⟩ : ∃ wx, wx = wr.alloc (.cells #[.int .i64 ob.id, .int .i64 ob.parent, .int .i64 ob.owner, .int .i64 ob.place, .int .i64 ob.flags, .int .i64 ob.quota, .string ob.name, .slice Ad ob.defs.length cd, .slice As ob.slots.length cs, .slice none 0 0] 29) := ⟨_, rfl⟩
          have hbx : Below wr.heap.size wr wx := by rw [hwx]; exact (Below.refl _ _).alloc (Nat.le_refl _) _
          have hxz : wx.heap.size = wr.heap.size + 1 := by rw [hwx]; simp
          have hgx : wx.heap[wr.heap.size]? = some (.cells #[.int .i64 ob.id, .int .i64 ob.parent, .int .i64 ob.owner, .int .i64 ob.place, .int .i64 ob.flags, .int .i64 ob.quota, .string ob.name, .slice Ad ob.defs.length cd, .slice As ob.slots.length cs, .slice none 0 0] 29 (0, 0)) := by rw [hwx]; exact heap_alloc_new wr _
          have hc0 : ∀ W, Below wx.heap.size wx W → W.cell? ⟨wr.heap.size, 0, none⟩ = some (.int .i64 ob.id) := fun W hW => cell_of_row W _ 0 _ _ _ ((hW.block _ (by omega)).trans hgx)
          have k0 := cell_of_row wx _ 0 _ _ _ hgx
          have k1 := cell_of_row wx _ 1 _ _ _ hgx
          have k2 := cell_of_row wx _ 2 _ _ _ hgx
          have k3 := cell_of_row wx _ 3 _ _ _ hgx
          have k4 := cell_of_row wx _ 4 _ _ _ hgx
          have k5 := cell_of_row wx _ 5 _ _ _ hgx
          have k6 := cell_of_row wx _ 6 _ _ _ hgx
          have k7 := cell_of_row wx _ 7 _ _ _ hgx
          have k8 := cell_of_row wx _ 8 _ _ _ hgx
          have k9 := cell_of_row wx _ 9 _ _ _ hgx
          have HC0 := Lib.hid hc0
          have HWX := Lib.hid hwx
          have HBX := Lib.hid hbx
          have HBT2 := Lib.hid hbt
          have HLS := Lib.hid hls
          obtain ⟨la, hla⟩ : ∃ la, la = lastO (obT xs) i := ⟨_, rfl⟩
          rw [← hla] at hnl hll
          clear hr hri hbw hbx hxz hgx hwx hc0 hbt hy hyo hpi hli hok2 hxo hom hls
          rw [← hla]
          clear hla
          go_wp2_with fail
          rw [← HWX.out]
          clear r0 r1 r2 r3 r4 r5 r6 r7 r8 r9
          refine (CF.out _ HBX.out).mono ?_
          rintro e w5 ⟨rfl, hb5⟩
          have c5 := HC0.out w5 hb5
          have HB5 := Lib.hid hb5
          clear hb5
          go_wp2_with fail
          go_roundg j
          case measure => omega
          case rel => exact ⟨i + 1, by rw [HLS.out], by go_num, by omega, HBT2.out.trans ((HBX.out.trans (HB5.out.mono HBX.out.size)).mono htz)⟩
        · obtain rfl : i = xs.length := by omega
          have htt := HTR.out.below hbt
          have f1 := htt.fr 1
          have c1 := htt.c1
          have hrg : ∀ z ∈ T, z.o.id ≤ mx := fun z hz => (HOK.out.rngS (by rw [← HOT.out]; exact List.mem_map_of_mem hz)).2
          have hm1 : -1 ≤ mx := by
            rw [← HLA.out]
            cases hl : xs.length with
            | zero => rw [lastO_0]; omega
            | succ k =>
              have hk : k < (obT xs).length := by rw [oT_len]; omega
              rw [lastO_s (List.getElem?_eq_some_iff.2 ⟨hk, rfl⟩)]
              have := (HOK.out.rngS (List.getElem_mem hk)).1
              omega
          have hT := htt.told ⟨hm1, hmx⟩ hrg
          have HTS := Lib.hid (show TS (wr.setCell ⟨w.heap.size + 1, 1, none⟩ (.int .i64 mx)) w.heap.size (w.heap.size + 1) w.heap.size T mx from ⟨hT, by rw [HOT.out]; exact HOK.out, fun z hz s hs => by
            have h1 : z.o ∈ obT xs := by rw [← HOT.out]; exact List.mem_map_of_mem hz
            obtain ⟨u, hu, e⟩ := List.mem_map.1 h1
            have h2 := HF.out u hu
            rw [e] at h2
            exact (h2.sf s hs).1, HBT.out⟩)
          have HBF := Lib.hid ((HBR.out.trans (hbt.mono hrz)).setCell (p := ⟨w.heap.size + 1, 1, none⟩) (by show w.heap.size ≤ w.heap.size + 1; omega) (.int .i64 mx))
          rw [HLA.out]
          clear htt hrg hm1 hT hbt
          go_wp2_with fail
          go_ret2
          exact ⟨_, _, T, rfl, HTS.out, HOT.out, HBF.out⟩
end Go.Proofs.YtnphgcbknfmapaaGreatDoor
namespace Go.Proofs.YtnphgcbknfmapaaGreatDoor
open Go.RowKit Go.Lib
set_option linter.unusedVariables false
set_option linter.unusedSimpArgs false

/-- An object put where its number stands. -/
def insT : List OM → OM → List OM
  | [], x => [x]
  | y :: r, x => if x.o.id < y.o.id then x :: y :: r else y :: insT r x
theorem mem_insT {z x : OM} : ∀ {T : List OM}, z ∈ insT T x ↔ z = x ∨ z ∈ T
  | [] => by simp [insT]
  | y :: r => by
    unfold insT
    split
    · simp
    · rw [List.mem_cons, mem_insT, List.mem_cons]
      constructor
      · rintro (h | h | h)
        · exact .inr (.inl h)
        · exact .inl h
        · exact .inr (.inr h)
      · rintro (h | h | h)
        · exact .inr (.inl h)
        · exact .inl h
        · exact .inr (.inr h)
theorem insT_perm (x : OM) : ∀ (T : List OM), (insT T x).Perm (x :: T)
  | [] => List.Perm.refl _
  | y :: r => by
    unfold insT
    split
    · exact List.Perm.refl _
    · exact ((insT_perm x r).cons y).trans (List.Perm.swap x y r)
theorem insT_len (T : List OM) (x : OM) : (insT T x).length = T.length + 1 := by
  rw [(insT_perm x T).length_eq]
  rfl
theorem blkT_perm {S T : List OM} (h : S.Perm T) : (blkT S).Perm (blkT T) := List.Perm.flatMap_right _ h
theorem blkT_ins (T : List OM) (x : OM) : (blkT (insT T x)).Perm (x.blocks ++ blkT T) := (blkT_perm (insT_perm x T)).trans (by simp [blkT])
theorem insT_sort {x : OM} : ∀ {T : List OM}, SortO (obT T) → (∀ y ∈ T, y.o.id ≠ x.o.id) → SortO (obT (insT T x))
  | [], _, _ => by simp [insT, SortO, obT]
  | y :: r, h, hn => by
    have h1 : (∀ z ∈ r, y.o.id < z.o.id) ∧ SortO (obT r) := by
      unfold SortO obT at h
      rw [List.map_cons, List.pairwise_cons] at h
      exact ⟨fun z hz => h.1 z.o (List.mem_map_of_mem hz), h.2⟩
    have hy := hn y (List.mem_cons_self ..)
    unfold insT
    split
    · rename_i hlt
      unfold SortO obT
      rw [List.map_cons, List.pairwise_cons]
      refine ⟨fun q hq => ?_, h⟩
      obtain ⟨z, hz, rfl⟩ := List.mem_map.1 hq
      rcases List.mem_cons.1 hz with rfl | hz
      · exact hlt
      · have := h1.1 z hz
        omega
    · rename_i hlt
      have ih := insT_sort h1.2 fun z hz => hn z (List.mem_cons_of_mem _ hz)
      unfold SortO obT at ih ⊢
      rw [List.map_cons, List.pairwise_cons]
      refine ⟨fun q hq => ?_, ih⟩
      obtain ⟨z, hz, rfl⟩ := List.mem_map.1 hq
      rcases mem_insT.1 hz with rfl | hz
      · omega
      · exact h1.1 z hz
theorem datT_insert {x : OM} : ∀ {T : List OM}, DataW.insert (.int .i64 x.o.id, .lit (.int .i64 (x.g : Int))) (datT T) = datT (insT T x)
  | [] => rfl
  | y :: r => by
    have e : datT (y :: r) = (.int .i64 y.o.id, .lit (.int .i64 (y.g : Int))) :: datT r := rfl
    rw [e, DataW.insert]
    unfold insT
    by_cases h : x.o.id < y.o.id
    · rw [if_pos (by simp [Lit.before, h]), if_pos h]
      rfl
    · rw [if_neg (by simp [Lit.before, h]), if_neg h, datT_insert]
      rfl
theorem datT_ins {T : List OM} {x : OM} (hn : ∀ y ∈ T, y.o.id ≠ x.o.id) : (DataW.map (datT T)).put (.int .i64 x.o.id) (.lit (.int .i64 (x.g : Int))) = .map (datT (insT T x)) := by
  rw [DataW.put_eq]
  unfold ChangeMaps.putKey
  have hf : (datT T).filter (ChangeMaps.notKey (.int .i64 x.o.id)) = datT T := by
    rw [List.filter_eq_self]
    intro p hp
    unfold datT at hp
    obtain ⟨y, hy, rfl⟩ := List.mem_map.1 hp
    have := hn y hy
    unfold ChangeMaps.notKey
    simp [Lit.sameKey]
    omega
  rw [hf, datT_insert]
/-- An object put in, wherever its number stands. -/
theorem TabG.ins {w w5 : World} {B a m : Nat} {T : List OM} {c mx : Int} (h : TabG w B a m T c mx) {x : OM} (hx : ObjAt w B x) (hnd : x.blocks.Nodup) (hnew : ∀ b ∈ x.blocks, B ≤ b ∧ b ∉ a :: m :: blkT T)
    (hown : w5.ownsMap Tryz.prog 3 ptrR m (T.length + 1) ((DataW.map (datT T)).put (.int .i64 x.o.id) (.lit (.int .i64 (x.g : Int))))) (hk : ∀ b, b < w.heap.size → b ≠ m → w5.heap[b]? = w.heap[b]?)
    (hn : ∀ y ∈ T, y.o.id ≠ x.o.id) (hr : 0 ≤ x.o.id ∧ x.o.id ≤ mx) (hf : T.length < 512) : TabG w5 B a m (insT T x) c mx := by
  have hs := h.sep
  rw [List.nodup_cons, List.nodup_cons] at hs
  have ham : a ≠ m := fun e => hs.1 (by rw [e]; exact List.mem_cons_self ..)
  have hmT : ∀ b ∈ blkT T, b ≠ m := fun b hb e => hs.2.1 (by rw [← e]; exact hb)
  have hp : (a :: m :: blkT (insT T x)).Perm (x.blocks ++ (a :: m :: blkT T)) := by
    refine (((blkT_ins T x).cons m).cons a).trans ?_
    refine List.Perm.trans ?_ List.perm_append_comm
    rw [show (a :: m :: blkT T) ++ x.blocks = a :: m :: (blkT T ++ x.blocks) from rfl]
    exact (List.perm_append_comm.cons m).cons a
  refine ⟨(hk a (h.lt a (List.mem_cons_self ..)) ham).trans h.tab, ?_, ?_, ?_, ?_, insT_sort h.sort hn, by rw [insT_len]; omega, h.mxr, ?_⟩
  · rw [insT_len, ← datT_ins hn]
    exact hown
  · intro y hy
    rcases mem_insT.1 hy with rfl | hy
    · exact hx.keep fun b hb => hk b (hx.lt b hb) (fun e => (hnew b hb).2 (by rw [e]; exact List.mem_cons_of_mem _ (List.mem_cons_self ..)))
    · exact (h.objs y hy).keep fun b hb => hk b (h.lt b (List.mem_cons_of_mem _ (List.mem_cons_of_mem _ (List.mem_flatMap.2 ⟨y, hy, hb⟩)))) (hmT b (List.mem_flatMap.2 ⟨y, hy, hb⟩))
  · rw [hp.nodup_iff, List.nodup_append]
    exact ⟨hnd, h.sep, fun p hp q hq e => (hnew p hp).2 (by rw [e]; exact hq)⟩
  · intro b hb
    rcases List.mem_append.1 (hp.mem_iff.1 hb) with hb | hb
    · exact (hnew b hb).1
    · exact h.base b hb
  · intro y hy
    rcases mem_insT.1 hy with rfl | hy
    · exact hr
    · exact h.rng y hy
/-- Two rows in which the numbers rise, of the same objects, are one. -/
theorem sort_ext : ∀ {k l : List OB}, SortO k → SortO l → (∀ x, x ∈ k ↔ x ∈ l) → k = l
  | [], [], _, _, _ => rfl
  | [], y :: r, _, _, h => absurd ((h y).2 (List.mem_cons_self ..)) (by simp)
  | x :: q, [], _, _, h => absurd ((h x).1 (List.mem_cons_self ..)) (by simp)
  | x :: q, y :: r, hk, hl, h => by
    have h1 := List.pairwise_cons.1 hk
    have h2 := List.pairwise_cons.1 hl
    have e : x = y := by
      rcases List.mem_cons.1 ((h x).1 (List.mem_cons_self ..)) with e | hx
      · exact e
      rcases List.mem_cons.1 ((h y).2 (List.mem_cons_self ..)) with e | hy
      · exact e.symm
      have := h1.1 y hy
      have := h2.1 x hx
      omega
    subst e
    congr 1
    refine sort_ext h1.2 h2.2 fun z => ?_
    have hz := h z
    rw [List.mem_cons, List.mem_cons] at hz
    constructor
    · intro hm
      rcases hz.1 (.inr hm) with rfl | hm2
      · have := h1.1 z hm
        omega
      · exact hm2
    · intro hm
      rcases hz.2 (.inr hm) with rfl | hm2
      · have := h2.1 z hm
        omega
      · exact hm2
/-- Who has it for its parent, and what is within it, does not hang on what else is told of an object. -/
theorem rep_same {l : List OB} {d : Int} {x x' : OB} (hs : SortO l) (hx : getO l d = some x) {y : OB} (hy : y ∈ l) (h : (y.id == d) = true) : y = x := by
  have h1 := getO_of_mem hs hy
  have h2 : y.id = d := by simpa using h
  rw [h2, hx] at h1
  injection h1 with h1
  exact h1.symm
theorem hasO_rep' {l : List OB} {d o : Int} {x x' : OB} (hx : getO l d = some x) (hid : x'.id = x.id) : hasO (repO l d x') o = hasO l o := by
  have e : x.id = d := by
    unfold getO at hx
    have := List.find?_some hx
    simpa using this
  unfold hasO
  rw [getO_rep (hid.trans e)]
  by_cases ho : o = d
  · rw [if_pos ho, ho, hx, hasO_of hx]
    rfl
  · rw [if_neg ho]
theorem filt_rep {l : List OB} {d o : Int} {x x' : OB} (f : OB → Int) (hs : SortO l) (hx : getO l d = some x) (hid : x'.id = x.id) (hf : f x' = f x) : ((repO l d x').filter (fun y => f y == o)).map OB.id = (l.filter (fun y => f y == o)).map OB.id := by
  have key : ∀ y ∈ l, (if y.id == d then x' else y).id = y.id ∧ f (if y.id == d then x' else y) = f y := by
    intro y hy
    by_cases h : (y.id == d) = true
    · rw [if_pos h, rep_same (x' := x') hs hx hy h]
      exact ⟨hid, hf⟩
    · rw [if_neg h]
      exact ⟨rfl, rfl⟩
  unfold repO
  rw [List.filter_map, List.map_map]
  have e : l.filter ((fun y => f y == o) ∘ fun y => if y.id == d then x' else y) = l.filter (fun y => f y == o) := by
    apply List.filter_congr
    intro y hy
    simp only [Function.comp]
    rw [(key y hy).2]
  rw [e]
  apply List.map_congr_left
  intro y hy
  simp only [Function.comp]
  exact (key y (List.mem_filter.1 hy).1).1
theorem kids_rep {l : List OB} {d o : Int} {x x' : OB} (hs : SortO l) (hx : getO l d = some x) (hid : x'.id = x.id) (hf : x'.parent = x.parent) : kidsO (repO l d x') o = kidsO l o := by
  unfold kidsO
  rw [hasO_rep' hx hid, filt_rep OB.parent hs hx hid hf]
theorem cont_rep {l : List OB} {d o : Int} {x x' : OB} (hs : SortO l) (hx : getO l d = some x) (hid : x'.id = x.id) (hf : x'.place = x.place) : contO (repO l d x') o = contO l o := by
  unfold contO
  rw [hasO_rep' hx hid, filt_rep OB.place hs hx hid hf]
end Go.Proofs.YtnphgcbknfmapaaGreatDoor
namespace Go.Proofs.YtnphgcbknfmapaaGreatDoor
open Go.RowKit Go.Lib
set_option linter.unusedVariables false

theorem CpO.step {w w1 w2 w3 : World} {x : OB} {dv sv : Value} (h : CpO w1 w2 x dv sv) (hb : Below w.heap.size w w1) (hk : ∀ b, w1.heap.size ≤ b → b < w2.heap.size → w3.heap[b]? = w2.heap[b]?) (hb3 : Below w.heap.size w w3) : CpO w w3 x dv sv :=
  ⟨ownsRow_base (ownsRow_same h.defs fun b e => hk b (h.defs.lt b e).1 (h.defs.lt b e).2) hb.size, ownsRow_base (ownsRow_same h.slots fun b e => hk b (h.slots.lt b e).1 (h.slots.lt b e).2) hb.size, h.apart, h.nild, h.nils, hb3⟩

set_option maxRecDepth 100000 in
set_option maxHeartbeats 4000000 in
theorem get_r {w : World} {B a m : Nat} {T : List OM} {mx o : Int} (h : TS w B a m T mx) (ho : I64 o) {x : OM} (hx : findT T o = some x) (hdl : x.o.defs.length ≤ 1000) (hsl : x.o.slots.length ≤ 1000) :
    Calls Tryz.prog 13 #[.pointer (some ⟨a, 0, none⟩), .int .i64 o] w fun e w' => ∃ A2 c2 A3 c3, e = .returned (.tuple #[.agg #[.int .i64 x.o.id, .int .i64 x.o.parent, .int .i64 x.o.owner, .int .i64 x.o.place, .int .i64 x.o.flags, .int .i64 x.o.quota, .string x.o.name, .slice A2 x.o.defs.length c2, .slice A3 x.o.slots.length c3, .slice none 0 0], .bool true]) ∧ CpO w w' x.o (.slice A2 x.o.defs.length c2) (.slice A3 x.o.slots.length c3) := by
  have hxm := (findT_some hx).1
  have hb1 : Below w.heap.size w (w.alloc (.cells #[.int .i64 0, .int .i64 0, .int .i64 0, .int .i64 0, .int .i64 0, .int .i64 0, .string ⟨#[]⟩, .slice none 0 0, .slice none 0 0, .slice none 0 0] 29)) := (Below.refl _ _).alloc (Nat.le_refl _) _
  have HB1 := Lib.hid hb1
  have ht := h.tab.below hb1
  have c0 := ht.c0
  have hl := ht.look ho
  rw [ptrT_some hx] at hl
  have hob := ht.objs x hxm
  have hfl := h.flat x hxm
  have hbr := h.bare x hxm
  obtain ⟨Ad, cd, hdv⟩ : ∃ A C, x.dv = .slice A x.o.defs.length C := by obtain ⟨A, C, e, _⟩ := own_formO hob.defs; exact ⟨A, C, e⟩
  obtain ⟨As, cs, hsv⟩ : ∃ A C, x.sv = .slice A x.o.slots.length C := by obtain ⟨A, C, e, _⟩ := own_formO hob.slots; exact ⟨A, C, e⟩
  obtain ⟨ob, gx, dv, sv⟩ := x
  simp only at hdv hsv hdl hsl hfl hbr ⊢
  subst hdv
  subst hsv
  have CO := Lib.hid (show Calls Tryz.prog 43 #[.agg #[.int .i64 ob.id, .int .i64 ob.parent, .int .i64 ob.owner, .int .i64 ob.place, .int .i64 ob.flags, .int .i64 ob.quota, .string ob.name, .slice Ad ob.defs.length cd, .slice As ob.slots.length cs, .slice none 0 0]] (w.alloc (.cells #[.int .i64 0, .int .i64 0, .int .i64 0, .int .i64 0, .int .i64 0, .int .i64 0, .string ⟨#[]⟩, .slice none 0 0, .slice none 0 0, .slice none 0 0] 29)) fun e w' => ∃ A2 c2 A3 c3, e = .returned (.agg #[.int .i64 ob.id, .int .i64 ob.parent, .int .i64 ob.owner, .int .i64 ob.place, .int .i64 ob.flags, .int .i64 ob.quota, .string ob.name, .slice A2 ob.defs.length c2, .slice A3 ob.slots.length c3, .slice none 0 0]) ∧ CpO (w.alloc (.cells #[.int .i64 0, .int .i64 0, .int .i64 0, .int .i64 0, .int .i64 0, .int .i64 0, .string ⟨#[]⟩, .slice none 0 0, .slice none 0 0, .slice none 0 0] 29)) w' ob (.slice A2 ob.defs.length c2) (.slice A3 ob.slots.length c3) by
    refine (object_r ⟨ob, gx, .slice Ad ob.defs.length cd, .slice As ob.slots.length cs⟩ hob.defs hob.slots hbr.2 hfl hdl hsl).mono ?_
    rintro e w3 ⟨dv', sv', rfl, hcp⟩
    obtain ⟨Ad2, cd2, rfl⟩ : ∃ A C, dv' = .slice A ob.defs.length C := by obtain ⟨A, C, e, _⟩ := own_formO hcp.defs; exact ⟨A, C, e⟩
    obtain ⟨As2, cs2, rfl⟩ : ∃ A C, sv' = .slice A ob.slots.length C := by obtain ⟨A, C, e, _⟩ := own_formO hcp.slots; exact ⟨A, C, e⟩
    exact ⟨_, _, _, _, rfl, hcp⟩)
  have d0 := hob.cell 0
  have d1 := hob.cell 1
  have d2 := hob.cell 2
  have d3 := hob.cell 3
  have d4 := hob.cell 4
  have d5 := hob.cell 5
  have d6 := hob.cell 6
  have d7 := hob.cell 7
  have d8 := hob.cell 8
  have d9 := hob.cell 9
  unfold OM.cells at d0 d1 d2 d3 d4 d5 d6 d7 d8 d9
  simp at d0 d1 d2 d3 d4 d5 d6 d7 d8 d9
  clear h ht hx hob hfl hbr hb1
  go_enter Tryz.func13, Tryz.ntmps13
  go_wp2_with fail
  refine CO.out.mono ?_
  rintro e w2 ⟨A2, c2, A3, c3, rfl, hcp⟩
  have hz2 := (hcp.below.block w.heap.size (by simp)).trans (heap_alloc_new w _)
  have hb2 : Below w.heap.size w w2 := HB1.out.trans (hcp.below.mono (by simp))
  have HZ2 := Lib.hid hz2
  have HROW := Lib.hid (setRow_heap w2 w.heap.size _ #[.int .i64 ob.id, .int .i64 ob.parent, .int .i64 ob.owner, .int .i64 ob.place, .int .i64 ob.flags, .int .i64 ob.quota, .string ob.name, .slice A2 ob.defs.length c2, .slice A3 ob.slots.length c3, .slice none 0 0] _ _ hz2)
  have HCP := Lib.hid (hcp.step HB1.out (w3 := w2.setRow w.heap.size #[.int .i64 ob.id, .int .i64 ob.parent, .int .i64 ob.owner, .int .i64 ob.place, .int .i64 ob.flags, .int .i64 ob.quota, .string ob.name, .slice A2 ob.defs.length c2, .slice A3 ob.slots.length c3, .slice none 0 0]) (fun b hb _ => setRow_other w2 w.heap.size b _ (by simp at hb; omega)) (below_setRow hb2 (g := w.heap.size) (Nat.le_refl _) _))
  clear hcp hz2 hb2 c0 hl d0 d1 d2 d3 d4 d5 d6 d7 d8 d9
  go_wp2_with (refine wpList_store_row rfl 29 (.tmp 4) (.tmp 19) rfl w.heap.size #[.int .i64 ob.id, .int .i64 ob.parent, .int .i64 ob.owner, .int .i64 ob.place, .int .i64 ob.flags, .int .i64 ob.quota, .string ob.name, .slice A2 ob.defs.length c2, .slice A3 ob.slots.length c3, .slice none 0 0] rfl rfl _ _ HZ2.out (by kernel_rfl) rfl (by simp [Value.oneCell']) ?_)
  exact bodyPost_ret (results_rowP (P := Tryz.prog) rfl _ _ w.heap.size _ _ _ _ rfl HROW.out Tryz.underlying29 rfl (by kernel_rfl)) rfl ⟨_, _, _, _, rfl, HCP.out⟩
end Go.Proofs.YtnphgcbknfmapaaGreatDoor
namespace Go.Proofs.YtnphgcbknfmapaaGreatDoor
open Go.RowKit Go.Lib
set_option linter.unusedVariables false

end Go.Proofs.YtnphgcbknfmapaaGreatDoor
namespace Go.Proofs.YtnphgcbknfmapaaGreatDoor
open Go.RowKit Go.Lib
set_option linter.unusedVariables false
set_option linter.unusedSimpArgs false

end Go.Proofs.YtnphgcbknfmapaaGreatDoor
namespace Go.Proofs.YtnphgcbknfmapaaGreatDoor
open Go.RowKit Go.Lib
set_option linter.unusedVariables false

end Go.Proofs.YtnphgcbknfmapaaGreatDoor
namespace Go.Proofs.YtnphgcbknfmapaaGreatDoor
open Go.RowKit Go.Lib
set_option linter.unusedVariables false
section
variable {B a m : Nat} {w0 w w' : World} {l l' : List OB} {mx mx' o : Int} {K : List (Nat × Obj)} {x : OB}

theorem load_L {gl cap : Nat} (xs : List OM) (hin : RowsIn w gl xs) (hn : xs.length ≤ 512) (hok : OkS (obT xs) mx) (hlast : lastO (obT xs) xs.length = mx) (hmx : mx < 1073741824) (hfair : ∀ x ∈ xs, FairO (obT xs) x.o) :
    Calls Tryz.prog 11 #[.slice (some ⟨gl, 0, none⟩) xs.length cap] w fun e w' => ∃ a m, e = .returned (.tuple #[.pointer (some ⟨a, 0, none⟩), .nilIface]) ∧ LS w.heap.size w w' a m (obT xs) mx [] := by
  refine (load_c (cap := cap) xs hin hn hok hlast hmx hfair).mono ?_
  rintro e w' ⟨a, m, T, rfl, ht, ho, hb⟩
  exact ⟨a, m, rfl, T, ht, ho, hb, fun p hp => nomatch hp⟩
theorem getR_L (h : LS B w0 w a m l mx K) (ho : I64 o) (hx : getO l o = some x) (hdl : x.defs.length ≤ 1000) (hsl : x.slots.length ≤ 1000) :
    Calls Tryz.prog 13 #[.pointer (some ⟨a, 0, none⟩), .int .i64 o] w fun e w' => ∃ A2 c2 A3 c3, e = .returned (.tuple #[.agg #[.int .i64 x.id, .int .i64 x.parent, .int .i64 x.owner, .int .i64 x.place, .int .i64 x.flags, .int .i64 x.quota, .string x.name, .slice A2 x.defs.length c2, .slice A3 x.slots.length c3, .slice none 0 0], .bool true]) ∧ CpO w w' x (.slice A2 x.defs.length c2) (.slice A3 x.slots.length c3) ∧ LS B w0 w' a m l mx K := by
  have H := h
  obtain ⟨T, ht, rfl, h0, hK⟩ := h
  obtain ⟨y, hy, rfl⟩ := findT_of_getO hx
  refine (get_r ht ho hy hdl hsl).mono ?_
  rintro e w' ⟨A2, c2, A3, c3, rfl, hc⟩
  exact ⟨A2, c2, A3, c3, rfl, hc, H.below hc.below⟩
end
end Go.Proofs.YtnphgcbknfmapaaGreatDoor
namespace Go.Proofs.YtnphgcbknfmapaaGreatDoor
open Go.RowKit Go.Lib
set_option linter.unusedVariables false

def xS : ByteArray := ⟨#[120]⟩
def slR1 : SL := ⟨xS, 0, 1, false, 0, 5, ⟨#[]⟩⟩
def slR2 : SL := ⟨xS, 0, 1, true, 0, 0, ⟨#[]⟩⟩
def obR0 : OB := ⟨0, -1, 0, -1, 7, 9, ⟨#[]⟩, [], []⟩
def obR1 : OB := ⟨1, -1, 0, -1, 32, 0, ⟨#[]⟩, [xS], [slR1]⟩
def obR2 : OB := ⟨2, 1, 2, 1, 3, 2, ⟨#[]⟩, [], [slR2]⟩
def obR3 : OB := ⟨3, -1, 3, 1, 1, 0, ⟨#[]⟩, [], []⟩
def roomL : List OB := [obR0, obR1, obR2, obR3]
/-- .. as they lie in memory. -/
def roomT (g : Nat) : List OM := [⟨obR0, 0, .slice none 0 0, .slice none 0 0⟩, ⟨obR1, 0, .slice (some ⟨g, 0, none⟩) 1 1, .slice (some ⟨g + 1, 0, none⟩) 1 1⟩, ⟨obR2, 0, .slice none 0 0, .slice (some ⟨g + 2, 0, none⟩) 1 1⟩, ⟨obR3, 0, .slice none 0 0, .slice none 0 0⟩]
theorem roomT_ob (g : Nat) : obT (roomT g) = roomL := rfl
theorem mem_room {x : OB} (h : x ∈ roomL) : x = obR0 ∨ x = obR1 ∨ x = obR2 ∨ x = obR3 := by
  simpa [roomL] using h
theorem mem_roomT {g : Nat} {x : OM} (h : x ∈ roomT g) : x = ⟨obR0, 0, .slice none 0 0, .slice none 0 0⟩ ∨ x = ⟨obR1, 0, .slice (some ⟨g, 0, none⟩) 1 1, .slice (some ⟨g + 1, 0, none⟩) 1 1⟩ ∨ x = ⟨obR2, 0, .slice none 0 0, .slice (some ⟨g + 2, 0, none⟩) 1 1⟩ ∨ x = ⟨obR3, 0, .slice none 0 0, .slice none 0 0⟩ := by
  simpa [roomT] using h
theorem ok_room : OkS roomL 3 where
  sort := by
    unfold SortO roomL
    simp [bareO, obR0, obR1, obR2, obR3]
  rng := by
    intro x hx
    obtain ⟨y, hy, rfl⟩ := List.mem_map.1 hx
    rcases mem_room hy with rfl | rfl | rfl | rfl <;> simp [bareO, obR0, obR1, obR2, obR3]
  bare := by
    intro x hx
    obtain ⟨y, hy, rfl⟩ := List.mem_map.1 hx
    exact ⟨rfl, rfl⟩
  acyP := by
    refine ⟨fun n => if n = 2 then 1 else 0, ?_⟩
    intro x hx p hp e
    obtain ⟨y, hy, rfl⟩ := List.mem_map.1 hx
    obtain ⟨q, hq, rfl⟩ := List.mem_map.1 hp
    rcases mem_room hy with rfl | rfl | rfl | rfl <;> rcases mem_room hq with rfl | rfl | rfl | rfl <;> simp_all [bareO, obR0, obR1, obR2, obR3]
  acyL := by
    refine ⟨fun n => if n = 1 then 0 else 1, ?_⟩
    intro x hx p hp e
    obtain ⟨y, hy, rfl⟩ := List.mem_map.1 hx
    obtain ⟨q, hq, rfl⟩ := List.mem_map.1 hp
    rcases mem_room hy with rfl | rfl | rfl | rfl <;> rcases mem_room hq with rfl | rfl | rfl | rfl <;> simp_all [bareO, obR0, obR1, obR2, obR3]
  par := by
    intro x hx
    obtain ⟨y, hy, rfl⟩ := List.mem_map.1 hx
    rw [hasO_bare]
    rcases mem_room hy with rfl | rfl | rfl | rfl
    · exact .inl rfl
    · exact .inl rfl
    · exact .inr rfl
    · exact .inl rfl
  plc := by
    intro x hx
    obtain ⟨y, hy, rfl⟩ := List.mem_map.1 hx
    rw [hasO_bare]
    rcases mem_room hy with rfl | rfl | rfl | rfl
    · exact .inl rfl
    · exact .inl rfl
    · exact .inr rfl
    · exact .inr rfl
  mx := by omega
theorem rise_none : RiseS [] := by
  unfold RiseS
  simp [lstsO]
theorem rise_x : RiseS [xS] := by
  unfold RiseS
  apply List.mergeSort_of_pairwise
  simp [lstsO]
theorem fair_room {x : OB} (hx : x ∈ roomL) : FairO roomL x := by
  have n0 : nmO roomL (-1) = [] := rfl
  have n1 : nmO roomL 1 = [xS] := rfl
  rcases mem_room hx with rfl | rfl | rfl | rfl
  · exact ⟨rfl, ⟨by decide, by decide⟩, ⟨by decide, by decide⟩, ⟨by decide, by decide⟩, by decide, by show (nmO roomL (-1)).length ≤ 1000; rw [n0]; simp, by show RiseS (nmO roomL (-1)); rw [n0]; exact rise_none, (fun n hn => nomatch hn), (fun i p q hp => by simp [obR0] at hp), rfl, by show RiseS []; exact rise_none, by decide, (fun s hs => nomatch hs)⟩
  · refine ⟨rfl, ⟨by decide, by decide⟩, ⟨by decide, by decide⟩, ⟨by decide, by decide⟩, by decide, by show (nmO roomL (-1)).length ≤ 1000; rw [n0]; simp, by show RiseS (nmO roomL (-1)); rw [n0]; exact rise_none, ?_, ?_, rfl, by show RiseS [xS]; exact rise_x, by decide, ?_⟩
    · intro n hn
      have : n = xS := by simpa [obR1] using hn
      subst this
      refine ⟨by decide +kernel, by decide, by decide +kernel, ?_⟩
      show containsS (nmO roomL (-1)) xS = false
      rw [n0]
      rfl
    · intro i p q hp hq
      cases i with
      | zero => simp [obR1] at hq
      | succ i => simp [obR1] at hp
    · intro s hs
      have : s = slR1 := by simpa [obR1] using hs
      subst this
      exact ⟨⟨by decide, by decide, rfl, rfl⟩, by decide, by decide, fun e => by cases e⟩
  · refine ⟨rfl, ⟨by decide, by decide⟩, ⟨by decide, by decide⟩, ⟨by decide, by decide⟩, by decide, by show (nmO roomL 1).length ≤ 1000; rw [n1]; simp, by show RiseS (nmO roomL 1); rw [n1]; exact rise_x, (fun n hn => nomatch hn), (fun i p q hp => by simp [obR2] at hp), rfl, by show RiseS [xS]; exact rise_x, by decide, ?_⟩
    intro s hs
    have : s = slR2 := by simpa [obR2] using hs
    subst this
    exact ⟨⟨by decide, by decide, rfl, rfl⟩, by decide, by decide, fun _ => ⟨rfl, rfl⟩⟩
  · exact ⟨rfl, ⟨by decide, by decide⟩, ⟨by decide, by decide⟩, ⟨by decide, by decide⟩, by decide, by show (nmO roomL (-1)).length ≤ 1000; rw [n0]; simp, by show RiseS (nmO roomL (-1)); rw [n0]; exact rise_none, (fun n hn => nomatch hn), (fun i p q hp => by simp [obR3] at hp), rfl, by show RiseS []; exact rise_none, by decide, (fun s hs => nomatch hs)⟩

theorem below4 (w : World) (a b c d : Obj) : Below w.heap.size w ((((w.alloc a).alloc b).alloc c).alloc d) :=
  ((((Below.refl w.heap.size w).alloc (Nat.le_refl _) a).alloc (by simp) b).alloc (by simp; omega) c).alloc (by simp; omega) d
theorem ten {j : Nat} (h : j < 10) : j = 0 ∨ j = 1 ∨ j = 2 ∨ j = 3 ∨ j = 4 ∨ j = 5 ∨ j = 6 ∨ j = 7 ∨ j = 8 ∨ j = 9 := by omega
theorem room_rows (w : World) : RowsIn ((((w.alloc (.cells #[.string xS] 9)).alloc (.cells #[.string xS, .int .i64 0, .int .i64 1, .bool false, .int .i64 0, .int .i64 5, .string ⟨#[]⟩, .slice none 0 0] 35)).alloc (.cells #[.string xS, .int .i64 0, .int .i64 1, .bool true, .int .i64 0, .int .i64 0, .string ⟨#[]⟩, .slice none 0 0] 35)).alloc
    (.cells #[.int .i64 0, .int .i64 (-1), .int .i64 0, .int .i64 (-1), .int .i64 7, .int .i64 9, .string ⟨#[]⟩, .slice none 0 0, .slice none 0 0, .slice none 0 0,
      .int .i64 1, .int .i64 (-1), .int .i64 0, .int .i64 (-1), .int .i64 32, .int .i64 0, .string ⟨#[]⟩, .slice (some ⟨w.heap.size, 0, none⟩) 1 1, .slice (some ⟨w.heap.size + 1, 0, none⟩) 1 1, .slice none 0 0,
      .int .i64 2, .int .i64 1, .int .i64 2, .int .i64 1, .int .i64 3, .int .i64 2, .string ⟨#[]⟩, .slice none 0 0, .slice (some ⟨w.heap.size + 2, 0, none⟩) 1 1, .slice none 0 0,
      .int .i64 3, .int .i64 (-1), .int .i64 3, .int .i64 1, .int .i64 1, .int .i64 0, .string ⟨#[]⟩, .slice none 0 0, .slice none 0 0, .slice none 0 0] 29)) (w.heap.size + 3) (roomT w.heap.size) := by
  have h1 := World.ownsRow_lit (e := 9) (size := 1) (base := w.heap.size) w #[.string xS] 1 (Nat.le_refl _) (by unfold maxLen; omega) (by simp)
  obtain ⟨W1, hW1⟩ : ∃ W1, W1 = w.alloc (.cells #[.string xS] 9) := ⟨_, rfl⟩
  have z1 : W1.heap.size = w.heap.size + 1 := by rw [hW1]; simp
  rw [← hW1] at h1 ⊢
  have h2 := World.ownsRow_lit (e := 35) (size := 8) (base := W1.heap.size) W1 #[.string xS, .int .i64 0, .int .i64 1, .bool false, .int .i64 0, .int .i64 5, .string ⟨#[]⟩, .slice none 0 0] 1 (Nat.le_refl _) (by unfold maxLen; omega) (by simp)
  obtain ⟨W2, hW2⟩ : ∃ W2, W2 = W1.alloc (.cells #[.string xS, .int .i64 0, .int .i64 1, .bool false, .int .i64 0, .int .i64 5, .string ⟨#[]⟩, .slice none 0 0] 35) := ⟨_, rfl⟩
  have z2 : W2.heap.size = w.heap.size + 2 := by rw [hW2]; simp [z1]
  have b2 : Below W1.heap.size W1 W2 := by rw [hW2]; exact (Below.refl _ _).alloc (Nat.le_refl _) _
  rw [← hW2] at h2 ⊢
  have h3 := World.ownsRow_lit (e := 35) (size := 8) (base := W2.heap.size) W2 #[.string xS, .int .i64 0, .int .i64 1, .bool true, .int .i64 0, .int .i64 0, .string ⟨#[]⟩, .slice none 0 0] 1 (Nat.le_refl _) (by unfold maxLen; omega) (by simp)
  obtain ⟨W3, hW3⟩ : ∃ W3, W3 = W2.alloc (.cells #[.string xS, .int .i64 0, .int .i64 1, .bool true, .int .i64 0, .int .i64 0, .string ⟨#[]⟩, .slice none 0 0] 35) := ⟨_, rfl⟩
  have z3 : W3.heap.size = w.heap.size + 3 := by rw [hW3]; simp [z2]
  have b3 : Below W2.heap.size W2 W3 := by rw [hW3]; exact (Below.refl _ _).alloc (Nat.le_refl _) _
  rw [← hW3] at h3 ⊢
  clear hW1 hW2 hW3
  have b4 : ∀ o, Below W3.heap.size W3 (W3.alloc o) := fun o => (Below.refl _ _).alloc (Nat.le_refl _) _
  refine ⟨by simp [z3], ?_, ?_, ?_, ?_⟩
  · intro i x hx j u hj hu
    rw [← z3, cell_of_row _ _ (i * 10 + j) _ _ _ (heap_alloc_new W3 _)]
    have hi : i = 0 ∨ i = 1 ∨ i = 2 ∨ i = 3 := by
      have := (List.getElem?_eq_some_iff.1 hx).1
      simp [roomT] at this
      omega
    rcases hi with rfl | rfl | rfl | rfl
    all_goals
      simp only [roomT, List.getElem?_cons_zero, List.getElem?_cons_succ, Option.some.injEq] at hx
      subst hx
      rcases ten hj with rfl | rfl | rfl | rfl | rfl | rfl | rfl | rfl | rfl | rfl <;> exact hu
  · intro x hx
    rcases mem_roomT hx with rfl | rfl | rfl | rfl
    · exact World.ownsRow_nil _ _ _ _
    · exact ownsRow_base (own_keepO (own_keepO (own_keepO h1 b2) b3) (b4 _)) (Nat.zero_le _)
    · exact World.ownsRow_nil _ _ _ _
    · exact World.ownsRow_nil _ _ _ _
  · intro x hx
    rcases mem_roomT hx with rfl | rfl | rfl | rfl
    · exact World.ownsRow_nil _ _ _ _
    · rw [z1] at h2
      exact ownsRow_base (own_keepO (own_keepO h2 b3) (b4 _)) (Nat.zero_le _)
    · rw [z2] at h3
      exact ownsRow_base (own_keepO h3 (b4 _)) (Nat.zero_le _)
    · exact World.ownsRow_nil _ _ _ _
  · intro x hx e
    rcases mem_roomT hx with rfl | rfl | rfl | rfl
    · rfl
    · cases e
    · rfl
    · rfl

set_option maxRecDepth 100000 in
set_option maxHeartbeats 2000000 in
theorem room_c (w : World) : Calls Tryz.prog 32 #[] w fun e w' => e = .returned (.slice (some ⟨w.heap.size + 3, 0, none⟩) 4 4) ∧ RowsIn w' (w.heap.size + 3) (roomT w.heap.size) ∧ Below w.heap.size w w' := by
  go_enter Tryz.func32, Tryz.ntmps32
  go_wp2_with fail
  go_ret
  exact ⟨rfl, room_rows w, below4 w _ _ _ _⟩
end Go.Proofs.YtnphgcbknfmapaaGreatDoor
namespace Go.Proofs.YtnphgcbknfmapaaGreatDoor
open Go.RowKit Go.Lib
set_option linter.unusedVariables false
set_option linter.unusedSimpArgs false
section
variable {id : Int} {wz pg : Bool} {A1 A2 : Option Addr} {n1 c1 n2 c2 : Nat}

/-- Is somebody a wizard, or an owner? -/
def ownB (id : Int) (wz : Bool) (ow : Int) : Bool := wz || id == ow
theorem owns_c (ow : Int) (w : World) : Calls Tryz.prog 111 #[.agg #[.int .i64 id, .bool wz, .bool pg], .int .i64 ow] w fun e w' => e = .returned (.bool (ownB id wz ow)) ∧ Below w.heap.size w w' := by
  have HB := Lib.hid ((Below.refl w.heap.size w).alloc (Nat.le_refl _) (.cells #[.int .i64 id, .bool wz, .bool pg] 71))
  cases wz with
  | true =>
    go_enter Tryz.func111, Tryz.ntmps111
    go_wp2_with fail
    go_ret
    exact ⟨rfl, HB.out⟩
  | false =>
    go_enter Tryz.func111, Tryz.ntmps111
    go_wp2_with fail
    go_ret
    exact ⟨rfl, HB.out⟩
theorem controls_c (x : OB) (w : World) : Calls Tryz.prog 79 #[.agg #[.int .i64 id, .bool wz, .bool pg], .agg #[.int .i64 x.id, .int .i64 x.parent, .int .i64 x.owner, .int .i64 x.place, .int .i64 x.flags, .int .i64 x.quota, .string x.name, .slice A1 n1 c1, .slice A2 n2 c2, .slice none 0 0]] w fun e w' => e = .returned (.bool (ownB id wz x.owner)) ∧ Below w.heap.size w w' := by
  have HB := Lib.hid (((Below.refl w.heap.size w).alloc (Nat.le_refl _) (.cells #[.int .i64 id, .bool wz, .bool pg] 71)).alloc (by simp) (.cells #[.int .i64 x.id, .int .i64 x.parent, .int .i64 x.owner, .int .i64 x.place, .int .i64 x.flags, .int .i64 x.quota, .string x.name, .slice A1 n1 c1, .slice A2 n2 c2, .slice none 0 0] 29))
  have CO := Lib.hid (fun W => owns_c (id := id) (wz := wz) (pg := pg) x.owner W)
  go_enter Tryz.func79, Tryz.ntmps79
  go_wp2_with fail
  refine (CO.out _).mono ?_
  rintro e w1 ⟨rfl, hb⟩
  have HB1 := Lib.hid (HB.out.trans (hb.mono HB.out.size))
  clear hb
  go_wp2_with fail
  go_ret
  exact ⟨rfl, HB1.out⟩

theorem pread_c (s : SL) (w : World) {r : Bool} (hr : (ownB id wz s.owner || (Go.bits .and .i64 s.bits 1 != 0)) = r) : Calls Tryz.prog 75 #[.agg #[.int .i64 id, .bool wz, .bool pg], .int .i64 1, .agg #[.string s.name, .int .i64 s.owner, .int .i64 s.bits, .bool s.clear, .int .i64 s.kind, .int .i64 s.num, .string s.text, .slice none 0 0]] w fun e w' => e = .returned (.bool r) ∧ Below w.heap.size w w' := by
  have HB := Lib.hid (((Below.refl w.heap.size w).alloc (Nat.le_refl _) (.cells #[.int .i64 id, .bool wz, .bool pg] 71)).alloc (by simp) (.cells #[.string s.name, .int .i64 s.owner, .int .i64 s.bits, .bool s.clear, .int .i64 s.kind, .int .i64 s.num, .string s.text, .slice none 0 0] 35))
  have CO := Lib.hid (fun W => owns_c (id := id) (wz := wz) (pg := pg) s.owner W)
  cases ho : ownB id wz s.owner with
  | true =>
    rw [ho] at CO hr
    have HR := Lib.hid hr
    clear ho hr
    go_enter Tryz.func75, Tryz.ntmps75
    go_wp2_with fail
    refine (CO.out _).mono ?_
    rintro e w1 ⟨rfl, hb⟩
    have HB1 := Lib.hid (HB.out.trans (hb.mono HB.out.size))
    clear hb
    go_wp2_with fail
    go_ret
    exact ⟨by rw [← HR.out]; rfl, HB1.out⟩
  | false =>
    rw [ho, Bool.false_or] at hr
    rw [ho] at CO
    have HR := Lib.hid hr
    clear ho hr
    go_enter Tryz.func75, Tryz.ntmps75
    go_wp2_with fail
    refine (CO.out _).mono ?_
    rintro e w1 ⟨rfl, hb⟩
    have k2 : w1.cell? ⟨w.heap.size + 1, 2, none⟩ = some (.int .i64 s.bits) := cell_of_row w1 _ 2 _ _ _ ((hb.block _ (by simp)).trans (heap_alloc2_new _ _ _))
    have HB1 := Lib.hid (HB.out.trans (hb.mono HB.out.size))
    clear hb
    go_wp2_with fail
    go_ret
    exact ⟨by rw [← HR.out]; rfl, HB1.out⟩

theorem pwrite_c (s : SL) (w : World) {r : Bool} (hr : (ownB id wz s.owner || (Go.bits .and .i64 s.bits 2 != 0)) = r) : Calls Tryz.prog 75 #[.agg #[.int .i64 id, .bool wz, .bool pg], .int .i64 2, .agg #[.string s.name, .int .i64 s.owner, .int .i64 s.bits, .bool s.clear, .int .i64 s.kind, .int .i64 s.num, .string s.text, .slice none 0 0]] w fun e w' => e = .returned (.bool r) ∧ Below w.heap.size w w' := by
  have HB := Lib.hid (((Below.refl w.heap.size w).alloc (Nat.le_refl _) (.cells #[.int .i64 id, .bool wz, .bool pg] 71)).alloc (by simp) (.cells #[.string s.name, .int .i64 s.owner, .int .i64 s.bits, .bool s.clear, .int .i64 s.kind, .int .i64 s.num, .string s.text, .slice none 0 0] 35))
  have CO := Lib.hid (fun W => owns_c (id := id) (wz := wz) (pg := pg) s.owner W)
  cases ho : ownB id wz s.owner with
  | true =>
    rw [ho] at CO hr
    have HR := Lib.hid hr
    clear ho hr
    go_enter Tryz.func75, Tryz.ntmps75
    go_wp2_with fail
    refine (CO.out _).mono ?_
    rintro e w1 ⟨rfl, hb⟩
    have HB1 := Lib.hid (HB.out.trans (hb.mono HB.out.size))
    clear hb
    go_wp2_with fail
    go_ret
    exact ⟨by rw [← HR.out]; rfl, HB1.out⟩
  | false =>
    rw [ho, Bool.false_or] at hr
    rw [ho] at CO
    have HR := Lib.hid hr
    clear ho hr
    go_enter Tryz.func75, Tryz.ntmps75
    go_wp2_with fail
    refine (CO.out _).mono ?_
    rintro e w1 ⟨rfl, hb⟩
    have k2 : w1.cell? ⟨w.heap.size + 1, 2, none⟩ = some (.int .i64 s.bits) := cell_of_row w1 _ 2 _ _ _ ((hb.block _ (by simp)).trans (heap_alloc2_new _ _ _))
    have HB1 := Lib.hid (HB.out.trans (hb.mono HB.out.size))
    clear hb
    go_wp2_with fail
    go_ret
    exact ⟨by rw [← HR.out]; rfl, HB1.out⟩

theorem pobj10_c (x : OB) (w : World) : Calls Tryz.prog 74 #[.agg #[.int .i64 id, .bool wz, .bool pg], .int .i64 10, .agg #[.int .i64 x.id, .int .i64 x.parent, .int .i64 x.owner, .int .i64 x.place, .int .i64 x.flags, .int .i64 x.quota, .string x.name, .slice A1 n1 c1, .slice A2 n2 c2, .slice none 0 0]] w fun e w' => e = .returned (.bool (ownB id wz x.owner)) ∧ Below w.heap.size w w' := by
  have HB := Lib.hid (((Below.refl w.heap.size w).alloc (Nat.le_refl _) (.cells #[.int .i64 id, .bool wz, .bool pg] 71)).alloc (by simp) (.cells #[.int .i64 x.id, .int .i64 x.parent, .int .i64 x.owner, .int .i64 x.place, .int .i64 x.flags, .int .i64 x.quota, .string x.name, .slice A1 n1 c1, .slice A2 n2 c2, .slice none 0 0] 29))
  have CO := Lib.hid (fun W => controls_c (id := id) (wz := wz) (pg := pg) (A1 := A1) (A2 := A2) (n1 := n1) (n2 := n2) (c1 := c1) (c2 := c2) x W)
  go_enter Tryz.func74, Tryz.ntmps74
  go_wp2_with fail
  refine (CO.out _).mono ?_
  rintro e w1 ⟨rfl, hb⟩
  have HB1 := Lib.hid (HB.out.trans (hb.mono HB.out.size))
  clear hb
  go_wp2_with fail
  go_ret
  exact ⟨rfl, HB1.out⟩

end
end Go.Proofs.YtnphgcbknfmapaaGreatDoor
