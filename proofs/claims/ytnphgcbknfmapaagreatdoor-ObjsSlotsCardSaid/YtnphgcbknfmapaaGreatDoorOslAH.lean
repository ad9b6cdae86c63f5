/- Contracts of the functions that the statement reaches, and the plain mathematics beneath: several texts joined. -/
import Derived.Laws.Cover1
import Derived.Test.YtnphgcbknfmapaaGreatDoorOslAG
import Derived.Test.YtnphgcbknfmapaaGreatDoorOslAF
namespace Go.Proofs.YtnphgcbknfmapaaGreatDoor
open Go.RowKit Go.Lib
set_option linter.unusedVariables false

theorem contS_c {W : World} {B : Nat} {v : Value} {l : List ByteArray} (h : W.ownsRow B 9 1 v l.length (strsO l)) (x : ByteArray) (hl : l.length ≤ 1000000) {r : Bool} (hr : containsS l x = r) :
    Calls Tryz.prog 52 #[v, .string x] W fun e w' => e = .returned (.bool r) ∧ W = w' := by
  subst hr
  obtain ⟨A, c, rfl, hnc, hcm, hA, hcell⟩ := own_formO h
  cases l with
  | nil =>
    refine (Tryz.slices_Contains_string_empty A c x W).mono ?_
    rintro e w1 ⟨rfl, rfl⟩
    exact ⟨rfl, rfl⟩
  | cons n r =>
    obtain ⟨g, rfl, _⟩ := hcell 0 (.string n) rfl
    refine (Tryz.slices_Contains_string g 0 (n :: r).length c (n :: r) x W (Nat.le_refl _) (by omega) ?_).mono ?_
    · intro j hj
      obtain ⟨g2, e, hc⟩ := hcell j (.string ((n :: r).getD j ByteArray.empty)) (by rw [strsO, List.getElem?_map, List.getD_eq_getElem?_getD, List.getElem?_eq_getElem hj]; rfl)
      injection e with e
      injection e with e _ _
      subst e
      rw [Nat.zero_add]
      exact hc
    · rintro e w1 ⟨rfl, rfl⟩
      rw [List.take_length]
      exact ⟨rfl, rfl⟩

set_option maxHeartbeats 1000000 in
theorem same_0 (w : World) : Calls Tryz.prog 113 #[.agg #[.int .i64 0, .int .i64 0, .string ⟨#[]⟩, .slice none 0 0], .agg #[.int .i64 0, .int .i64 0, .string ⟨#[]⟩, .slice none 0 0]] w fun e w' => e = .returned (.bool true) ∧ Below w.heap.size w w' := by
  have HB := Lib.hid (((Below.refl w.heap.size w).alloc (Nat.le_refl _) (.cells #[.int .i64 0, .int .i64 0, .string ⟨#[]⟩, .slice none 0 0] 33)).alloc (by simp) (.cells #[.int .i64 0, .int .i64 0, .string ⟨#[]⟩, .slice none 0 0] 33))
  go_enter Tryz.func113, Tryz.ntmps113
  go_wp2_with fail
  refine wp_loop_rounds 1 ?_
  rw [rounds_succ]
  go_wp2_with fail
  go_ret
  exact ⟨rfl, HB.out⟩

set_option maxRecDepth 100000 in
set_option maxHeartbeats 4000000 in
theorem defs_c {w : World} {B Bd a m : Nat} {T : List OM} {c mx : Int} (h : TabG w B a m T c mx) (x : OM) (hd : w.ownsRow Bd 9 1 x.dv x.o.defs.length (strsO x.o.defs)) (hpi : ParI T) (hp : I64 x.o.parent)
    (hdl : x.o.defs.length ≤ 64) (hsm : (nmO (obT T) x.o.parent).length ≤ 100000) (hri : RiseS (nmO (obT T) x.o.parent))
    (hnm : ∀ n ∈ x.o.defs, nmB n.data.toList = true ∧ n.size ≤ 32 ∧ biB n = false ∧ containsS (nmO (obT T) x.o.parent) n = false)
    (hup : ∀ (i : Nat) (p q : ByteArray), x.o.defs[i]? = some p → x.o.defs[i + 1]? = some q → Op.bytesLess q.toList p.toList = false ∧ (q.toList == p.toList) = false) :
    Calls Tryz.prog 90 #[.pointer (some ⟨a, 0, none⟩), .agg x.cells] w fun e w' => e = .returned (.bool true) ∧ Below w.heap.size w w' := by
  obtain ⟨w0, hw0⟩ : ∃ w0, w0 = w.alloc (.cells x.cells 29) := ⟨_, rfl⟩
  have hb0 : Below w.heap.size w w0 := by rw [hw0]; exact (Below.refl _ _).alloc (Nat.le_refl _) _
  have hg0 : w0.heap[w.heap.size]? = some (.cells x.cells 29 (0, 0)) := by rw [hw0]; exact heap_alloc_new w _
  have hz0 : w0.heap.size = w.heap.size + 1 := by rw [hw0]; simp
  have CN := Lib.hid (names_g (h.below hb0) hp hpi hsm hri)
  obtain ⟨⟨id, parent, owner, place, flags, quota, name, defs, slots⟩, gx, dv0, sv0⟩ := x
  obtain ⟨A, cd, hdv, hnc, hcm, hA, hcell⟩ := own_formO (own_keepO hd hb0)
  simp only at hdv hd hdl hsm hri hnm hup hnc hcell CN hp ⊢
  subst hdv
  have HB0 := Lib.hid hb0
  have HG0 := Lib.hid hg0
  have HZ0 := Lib.hid hz0
  have HCL := Lib.hid hcell
  have HLT := Lib.hid (fun g (e : A = some ⟨g, 0, none⟩) => (own_keepO hd hb0).lt g (by rw [e]; rfl))
  have HNM := Lib.hid hnm
  have HUP := Lib.hid hup
  have HW0 := Lib.hid hw0
  unfold OM.cells at hw0
  simp only at hw0
  have HW := Lib.hid hw0
  obtain ⟨N, hN⟩ : ∃ N, N = nmO (obT T) parent := ⟨_, rfl⟩
  rw [← hN] at CN hsm HNM
  clear h hd hpi hri hnm hup hb0 hg0 hz0 hcell hw0 hA hN hp
  unfold OM.cells
  simp only
  go_enter Tryz.func90, Tryz.ntmps90
  go_wp2_with fail
  rw [← HW.out]
  refine CN.out.mono ?_
  rintro e w1 ⟨v, rfl, hrow, hb1⟩
  obtain ⟨A2, c2, rfl, _⟩ := own_formO hrow
  have hs1 := hb1.size
  have q7 : w1.cell? ⟨w.heap.size, 7, none⟩ = some (.slice A defs.length cd) := cell_of_row w1 _ 7 _ _ _ ((hb1.block _ (by rw [HZ0.out]; omega)).trans HG0.out)
  have HB1 := Lib.hid hb1
  have HROW := Lib.hid hrow
  clear hb1 hrow
  go_wp2_with fail
  go_loopg [19] defs.length (fun kk iv wr => ∃ (i : Nat), iv = .int .i64 (i : Int) ∧ i + kk = defs.length ∧ Below w1.heap.size w1 wr)
  case atStart => exact ⟨0, rfl, by omega, Below.refl _ _⟩
  case round =>
    obtain ⟨i, rfl, hik, hbr⟩ := hrel
    have hrz := hbr.size
    by_cases hi : i < defs.length
    · obtain ⟨j, rfl⟩ : ∃ j, gk = j + 1 := ⟨gk - 1, by omega⟩
      obtain ⟨n, hn⟩ : ∃ n, defs[i]? = some n := ⟨defs[i], List.getElem?_eq_some_iff.2 ⟨hi, rfl⟩⟩
      obtain ⟨g1, rfl, hc1⟩ := HCL.out i (.string n) (by simp [strsO, hn])
      have hg1 := HLT.out g1 rfl
      have hb1r := HB1.out.trans (hbr.mono hs1)
      have hcr : ∀ W, Below wr.heap.size wr W → ∀ (k : Nat) (q : ByteArray), defs[k]? = some q → W.cell? ⟨g1, k, none⟩ = some (.string q) := by
        intro W hW k q hq
        obtain ⟨g2, e2, hc2⟩ := HCL.out k (.string q) (by simp [strsO, hq])
        injection e2 with e2
        injection e2 with e2 _ _
        subst e2
        exact ((hb1r.trans (hW.mono hb1r.size)).cell (p := ⟨g1, k, none⟩) hg1.2).trans hc2
      have r0 := hcr wr (Below.refl _ _) i n hn
      have hq7 : ∀ W, Below wr.heap.size wr W → W.cell? ⟨w.heap.size, 7, none⟩ = some (.slice (some ⟨g1, 0, none⟩) defs.length cd) := fun W hW =>
        cell_of_row W _ 7 _ _ _ (((hb1r.trans (hW.mono hb1r.size)).block _ (by rw [HZ0.out]; omega)).trans HG0.out)
      obtain ⟨hnm1, hnm2, hnm3, hnm4⟩ := HNM.out n (List.mem_of_getElem? hn)
      have CNM := Lib.hid (fun W => name_any n W (by omega))
      rw [hnm1] at CNM
      have CBI := Lib.hid (fun W => obuiltin_c n W)
      rw [hnm3] at CBI
      have CCO := Lib.hid (fun W (hW : Below wr.heap.size wr W) => contS_c (own_keepO HROW.out (hbr.trans (hW.mono hrz))) n (by omega) hnm4)
      have HCR := Lib.hid hcr
      have HQ7 := Lib.hid hq7
      have HBR := Lib.hid hbr
      have HN := Lib.hid hn
      clear hc1 hb1r hcr hq7 hnm1 hnm3 hnm4 hbr hn
      go_wp2_with fail
      refine (CNM.out _).mono ?_
      rintro e w2 ⟨rfl, rfl⟩
      go_wp2_with fail
      refine (CBI.out _).mono ?_
      rintro e w2 ⟨rfl, hb2⟩
      have q7 := HQ7.out w2 hb2
      have HB2 := Lib.hid hb2
      clear hb2
      by_cases h0 : i = 0
      · subst h0
        go_wp2_with fail
        refine (CCO.out _ HB2.out).mono ?_
        rintro e w3 ⟨rfl, rfl⟩
        go_wp2_with fail
        go_roundg j
        case measure => omega
        case rel => exact ⟨1, rfl, by omega, HBR.out.trans (HB2.out.mono hrz)⟩
      · obtain ⟨p, rfl⟩ : ∃ p, i = p + 1 := ⟨i - 1, by omega⟩
        obtain ⟨u, hu⟩ : ∃ u, defs[p]? = some u := ⟨defs[p], List.getElem?_eq_some_iff.2 ⟨by omega, rfl⟩⟩
        have r1 := HCR.out w2 HB2.out p u hu
        obtain ⟨hu1, hu2⟩ := HUP.out p u n hu HN.out
        clear hu
        go_wp2_with fail
        refine (CCO.out _ HB2.out).mono ?_
        rintro e w3 ⟨rfl, rfl⟩
        go_wp2_with fail
        go_roundg j
        case measure => omega
        case rel => exact ⟨p + 2, by go_num, by omega, HBR.out.trans (HB2.out.mono hrz)⟩
    · obtain rfl : i = defs.length := by omega
      have HBR := Lib.hid hbr
      clear hbr
      go_wp2_with fail
      go_ret
      exact ⟨rfl, HB0.out.trans ((HB1.out.trans (HBR.out.mono hs1)).mono HB0.out.size)⟩
end Go.Proofs.YtnphgcbknfmapaaGreatDoor
namespace Go.Proofs.YtnphgcbknfmapaaGreatDoor
open Go.RowKit Go.Lib
set_option linter.unusedVariables false

/-- Such a property of an object is right. -/
def FitS (x : OB) (s : SL) : Prop := FlatS s ∧ -1 ≤ s.owner ∧ s.owner < 1073741824 ∧ (s.clear = true → s.num = 0 ∧ containsS x.defs s.name = false)

set_option maxRecDepth 100000 in
set_option maxHeartbeats 4000000 in
theorem slots_c {w : World} {Bd Bs Bn : Nat} (x : OM) (hd : w.ownsRow Bd 9 1 x.dv x.o.defs.length (strsO x.o.defs)) (hs : w.ownsRow Bs 35 8 x.sv x.o.slots.length (x.o.slots.flatMap SL.cells)) (v : Value)
    (hn : w.ownsRow Bn 9 1 v (x.o.slots.map SL.name).length (strsO (x.o.slots.map SL.name))) (hdl : x.o.defs.length ≤ 1000) (hsl : x.o.slots.length ≤ 1000) (hfit : ∀ s ∈ x.o.slots, FitS x.o s) :
    Calls Tryz.prog 91 #[.agg x.cells, v] w fun e w' => e = .returned (.bool true) ∧ Below w.heap.size w w' := by
  obtain ⟨w0, hw0⟩ : ∃ w0, w0 = w.alloc (.cells x.cells 29) := ⟨_, rfl⟩
  have hb0 : Below w.heap.size w w0 := by rw [hw0]; exact (Below.refl _ _).alloc (Nat.le_refl _) _
  have hg0 : w0.heap[w.heap.size]? = some (.cells x.cells 29 (0, 0)) := by rw [hw0]; exact heap_alloc_new w _
  have hz0 : w0.heap.size = w.heap.size + 1 := by rw [hw0]; simp
  rw [List.length_map] at hn
  obtain ⟨⟨id, parent, owner, place, flags, quota, name, defs, slots⟩, gx, dv0, sv0⟩ := x
  have HD := Lib.hid (own_keepO hd hb0)
  obtain ⟨A, c, hsv, hnc, hcm, hA, hcell⟩ := own_formO (own_keepO hs hb0)
  obtain ⟨An, cn, hv, hnc2, hcm2, hA2, hcell2⟩ := own_formO (own_keepO hn hb0)
  simp only at hsv hd hs hn hdl hsl hfit hnc hcell hnc2 hcell2 ⊢
  subst hsv
  subst hv
  have HB0 := Lib.hid hb0
  have HG0 := Lib.hid hg0
  have HZ0 := Lib.hid hz0
  have HC := Lib.hid hcell
  have HC2 := Lib.hid hcell2
  have HS := Lib.hid (own_keepO hs hb0)
  have HN := Lib.hid (own_keepO hn hb0)
  have HF := Lib.hid hfit
  unfold OM.cells at hw0
  simp only at hw0
  have HW := Lib.hid hw0
  unfold OM.cells
  simp only
  clear hb0 hg0 hz0 hcell hcell2 hs hn hd hw0 hfit hA hA2
  go_enter Tryz.func91, Tryz.ntmps91
  go_wp2_with fail
  rw [← HW.out]
  go_loopg [16] slots.length (fun kk iv wr => ∃ (i : Nat), iv = .int .i64 (i : Int) ∧ i + kk = slots.length ∧ Below w0.heap.size w0 wr)
  case atStart => exact ⟨0, rfl, by omega, Below.refl _ _⟩
  case round =>
    obtain ⟨i, rfl, hik, hbr⟩ := hrel
    have hrz := hbr.size
    by_cases hi : i < slots.length
    · obtain ⟨j, rfl⟩ : ∃ j, gk = j + 1 := ⟨gk - 1, by omega⟩
      obtain ⟨s, hs⟩ : ∃ s, slots[i]? = some s := ⟨slots[i], List.getElem?_eq_some_iff.2 ⟨hi, rfl⟩⟩
      have hfl := HF.out s (List.mem_of_getElem? hs)
      have hsm : (slots.map SL.name)[i]? = some s.name := by rw [List.getElem?_map, hs]; rfl
      obtain ⟨nm, ow, bits, clr, kind, num, text⟩ := s
      obtain ⟨⟨hb1, hb7, e1, e2⟩, ho0, ho1, hclr⟩ := hfl
      simp only at e1 e2 hb1 hb7 ho0 ho1 hclr hsm
      subst e1
      subst e2
      have hrd : ∃ g1, A = some ⟨g1, 0, none⟩ ∧ ∀ j, j < 8 → ∀ u, (SL.mk nm ow bits clr 0 num ⟨#[]⟩).cells[j]? = some u → wr.cell? ⟨g1, i * 8 + j, none⟩ = some u := by
        obtain ⟨g1, e, _⟩ := HC.out (i * 8 + 0) (.string nm) (by rw [slCells_at _ _ _ 0 hs (by omega)]; rfl)
        refine ⟨g1, e, fun j hj u hu => ?_⟩
        obtain ⟨g2, e2, hc⟩ := HC.out (i * 8 + j) u (by rw [slCells_at _ _ _ j hs hj]; exact hu)
        rw [e] at e2
        injection e2 with e2
        injection e2 with e2 _ _
        subst e2
        exact (hbr.cell (p := ⟨g1, i * 8 + j, none⟩) (HS.out.lt g1 (by rw [e]; rfl)).2).trans hc
      obtain ⟨g1, rfl, hrd⟩ := hrd
      obtain ⟨g2, rfl, hc2⟩ := HC2.out i (.string nm) (by rw [strsO, List.getElem?_map, hsm]; rfl)
      have hgn := (HN.out.lt g2 rfl).2
      have r0 := hrd 0 (by omega) _ rfl
      rw [Nat.add_zero] at r0
      have r1 := hrd 1 (by omega) _ rfl
      have r2 := hrd 2 (by omega) _ rfl
      have r3 := hrd 3 (by omega) _ rfl
      have r4 := hrd 4 (by omega) _ rfl
      have r5 := hrd 5 (by omega) _ rfl
      have r6 := hrd 6 (by omega) _ rfl
      have r7 := hrd 7 (by omega) _ rfl
      obtain ⟨wx, hwx⟩ : ∃ wx, wx = wr.alloc (.cells #[.string nm, .int .i64 ow, .int .i64 bits, .bool clr, .int .i64 0, .int .i64 num, .string ⟨#[]⟩, .slice none 0 0] 35) := ⟨_, rfl⟩
      have hbx : Below wr.heap.size wr wx := by rw [hwx]; exact (Below.refl _ _).alloc (Nat.le_refl _) _
      have hxz : wx.heap.size = wr.heap.size + 1 := by rw [hwx]; simp
      have hgx : wx.heap[wr.heap.size]? = some (.cells #[.string nm, .int .i64 ow, .int .i64 bits, .bool clr, .int .i64 0, .int .i64 num, .string ⟨#[]⟩, .slice none 0 0] 35 (0, 0)) := by rw [hwx]; exact heap_alloc_new wr _
      have hgA : ∀ W, Below wx.heap.size wx W → W.cell? ⟨w.heap.size, 7, none⟩ = some dv0 := fun W hW => cell_of_row W _ 7 _ _ _ ((hW.block _ (by have := HZ0.out; omega)).trans ((hbx.block _ (by have := HZ0.out; omega)).trans ((hbr.block _ (by have := HZ0.out; omega)).trans HG0.out)))
      have KB : ∀ W, Below wx.heap.size wx W → ∀ j, W.cell? ⟨wr.heap.size, j, none⟩ = (#[.string nm, .int .i64 ow, .int .i64 bits, .bool clr, .int .i64 0, .int .i64 num, .string ⟨#[]⟩, .slice none 0 0] : Array Value)[j]? := fun W hW j => cell_of_row W _ j _ _ _ ((hW.block _ (by omega)).trans hgx)
      have hn2 : wx.cell? ⟨g2, i, none⟩ = some (.string nm) := ((hbr.trans (hbx.mono hrz)).cell (p := ⟨g2, i, none⟩) hgn).trans hc2
      obtain ⟨S, hS⟩ : ∃ S : World → Prop, S = fun W => W.cell? ⟨wr.heap.size, 0, none⟩ = some (.string nm) ∧ W.cell? ⟨wr.heap.size, 1, none⟩ = some (.int .i64 ow) ∧ W.cell? ⟨wr.heap.size, 2, none⟩ = some (.int .i64 bits) ∧ W.cell? ⟨wr.heap.size, 4, none⟩ = some (.int .i64 0) ∧ W.cell? ⟨wr.heap.size, 5, none⟩ = some (.int .i64 num) ∧ W.cell? ⟨wr.heap.size, 6, none⟩ = some (.string ⟨#[]⟩) ∧ W.cell? ⟨wr.heap.size, 7, none⟩ = some (.slice none 0 0) ∧ W.cell? ⟨g2, i, none⟩ = some (.string nm) ∧ Below wx.heap.size wx W := ⟨_, rfl⟩
      have KS : ∀ W, Below wx.heap.size wx W → S W := by
        intro W hW
        rw [hS]
        exact ⟨KB W hW 0, KB W hW 1, KB W hW 2, KB W hW 4, KB W hW 5, KB W hW 6, KB W hW 7, (hW.cell (p := ⟨g2, i, none⟩) (by show g2 < _; omega)).trans hn2, hW⟩
      have BS : ∀ W, S W → Below wx.heap.size wx W := by intro W h; rw [hS] at h; exact h.2.2.2.2.2.2.2.2
      have C1 := Lib.hid (show ∀ W, S W → Calls Tryz.prog 86 #[.int .i64 ow] W fun e w' => e = .returned (.bool true) ∧ S w' from fun W h => (number_c ow W ho0 ho1).mono (by rintro e w' ⟨rfl, rfl⟩; exact ⟨rfl, h⟩))
      have C2 := Lib.hid (show ∀ W, S W → Calls Tryz.prog 58 #[.agg #[.int .i64 0, .int .i64 num, .string ⟨#[]⟩, .slice none 0 0]] W fun e w' => e = .returned .nilIface ∧ S w' from fun W h => (valid_int num W).mono (by rintro e w' ⟨rfl, hb⟩; exact ⟨rfl, KS _ ((BS W h).trans (hb.mono (BS W h).size))⟩))
      have K0 : S wx.drew := KS _ (Below.refl _ wx).drew
      have BSH := Lib.hid BS
      have HWX := Lib.hid hwx
      have HGA := Lib.hid hgA
      have HKB := Lib.hid KB
      have HBX := Lib.hid hbx
      have HBR := Lib.hid hbr
      have HXZ := Lib.hid hxz
      clear hrd hs hc2 hn2 KB KS BS hbx hbr hxz hgx hgA hwx hsm
      subst hS
      have hd0 : decide (bits < 0) = false := by simpa using hb1
      have hd7 : decide (7 < bits) = false := by simpa using hb7
      have hn0 : ¬ bits < 0 := by omega
      have hn7 : ¬ 7 < bits := by omega
      go_wp2_with fail
      rw [← HWX.out]
      clear r0 r1 r2 r3 r4 r5 r6 r7
      go_region_held3 (fun W => W.cell? ⟨wr.heap.size, 0, none⟩ = some (.string nm) ∧ W.cell? ⟨wr.heap.size, 1, none⟩ = some (.int .i64 ow) ∧ W.cell? ⟨wr.heap.size, 2, none⟩ = some (.int .i64 bits) ∧ W.cell? ⟨wr.heap.size, 4, none⟩ = some (.int .i64 0) ∧ W.cell? ⟨wr.heap.size, 5, none⟩ = some (.int .i64 num) ∧ W.cell? ⟨wr.heap.size, 6, none⟩ = some (.string ⟨#[]⟩) ∧ W.cell? ⟨wr.heap.size, 7, none⟩ = some (.slice none 0 0) ∧ W.cell? ⟨g2, i, none⟩ = some (.string nm) ∧ Below wx.heap.size wx W)
        (first | (with_reducible assumption) | (with_reducible exact K0))
        (first
          | (go_at_call 86; refine (C1.out _ ?_).mono ?_; with_reducible assumption; rintro e w' ⟨rfl, hs⟩)
          | (go_at_call 58; refine (C2.out _ ?_).mono ?_; with_reducible assumption; rintro e w' ⟨rfl, hs⟩))
      all_goals
        have hbw := BSH.out _ hs
        have k0 := HKB.out _ hbw 0
        have k3 := HKB.out _ hbw 3
        have k4 := HKB.out _ hbw 4
        have k5 := HKB.out _ hbw 5
        have k6 := HKB.out _ hbw 6
        have k7 := HKB.out _ hbw 7
        have hdw := own_keepO HD.out (HBR.out.trans ((HBX.out.trans (hbw.mono HBX.out.size)).mono hrz))
        have q7 := HGA.out _ hbw
        have HBW := Lib.hid (HBR.out.trans ((HBX.out.trans (hbw.mono HBX.out.size)).mono hrz))
        clear hs hbw
        cases clr with
        | false =>
          clear hdw hclr
          go_wp2_with fail
          go_roundg j
          case measure => omega
          case rel => exact ⟨i + 1, by go_num, by omega, HBW.out⟩
        | true =>
          obtain ⟨rfl, hno⟩ := hclr rfl
          have CO := Lib.hid (contS_c hdw nm (by omega) hno)
          have CS := Lib.hid (fun W => same_0 W)
          clear hdw hno hclr
          go_wp2_with fail
          refine CO.out.mono ?_
          rintro e w5 ⟨rfl, rfl⟩
          go_wp2_with fail
          refine (CS.out _).mono ?_
          rintro e w5 ⟨rfl, hb5⟩
          have HB5 := Lib.hid hb5
          clear hb5
          go_wp2_with fail
          go_roundg j
          case measure => omega
          case rel => exact ⟨i + 1, by go_num, by omega, HBW.out.trans (HB5.out.mono HBW.out.size)⟩
    · obtain rfl : i = slots.length := by omega
      have HBR := Lib.hid hbr
      clear hbr
      go_wp2_with fail
      go_ret
      exact ⟨rfl, HB0.out.trans (HBR.out.mono HB0.out.size)⟩
end Go.Proofs.YtnphgcbknfmapaaGreatDoor
namespace Go.Proofs.YtnphgcbknfmapaaGreatDoor
open Go.RowKit Go.Lib
set_option linter.unusedVariables false

set_option maxRecDepth 100000 in
set_option maxHeartbeats 2000000 in
theorem verbs_0 (x : OM) (w : World) : Calls Tryz.prog 92 #[.agg x.cells] w fun e w' => e = .returned (.bool true) ∧ Below w.heap.size w w' := by
  have HB := Lib.hid ((Below.refl w.heap.size w).alloc (Nat.le_refl _) (.cells x.cells 29))
  unfold OM.cells at HB ⊢
  go_enter Tryz.func92, Tryz.ntmps92
  go_wp2_with fail
  refine wp_loop_rounds 1 ?_
  rw [rounds_succ]
  go_wp2_with fail
  go_ret
  exact ⟨rfl, HB.out⟩

/-- An object of a table is right. -/
structure FairO (l : List OB) (x : OB) : Prop where
  nm : x.name = ⟨#[]⟩
  own : -1 ≤ x.owner ∧ x.owner < 1073741824
  fl : 0 ≤ x.flags ∧ x.flags ≤ 63
  qu : 0 ≤ x.quota ∧ x.quota ≤ 1073741824
  dl : x.defs.length ≤ 64
  pl : (nmO l x.parent).length ≤ 1000
  pr : RiseS (nmO l x.parent)
  dn : ∀ n ∈ x.defs, nmB n.data.toList = true ∧ n.size ≤ 32 ∧ biB n = false ∧ containsS (nmO l x.parent) n = false
  du : ∀ (i : Nat) (p q : ByteArray), x.defs[i]? = some p → x.defs[i + 1]? = some q → Op.bytesLess q.toList p.toList = false ∧ (q.toList == p.toList) = false
  sn : nmO l x.id = x.slots.map SL.name
  sr : RiseS (nmO l x.id)
  sl : x.slots.length ≤ 1000
  sf : ∀ s ∈ x.slots, FitS x s

set_option maxRecDepth 100000 in
set_option maxHeartbeats 4000000 in
theorem fair_c {w : World} {B Bd Bs a m : Nat} {T : List OM} {c mx : Int} (h : TabG w B a m T c mx) (x : OM) (hf : FairO (obT T) x.o) {y : OM} (hy : findT T x.o.id = some y) (hyo : y.o = x.o) (hpi : ParI T) (hli : ∀ z ∈ T, I64 z.o.place)
    (hd : w.ownsRow Bd 9 1 x.dv x.o.defs.length (strsO x.o.defs)) (hs : w.ownsRow Bs 35 8 x.sv x.o.slots.length (x.o.slots.flatMap SL.cells))
    (hacP : AcyP (obT T) OB.parent) (hacL : AcyP (obT T) OB.place) (hp : x.o.parent = -1 ∨ hasO (obT T) x.o.parent = true) (hl : x.o.place = -1 ∨ hasO (obT T) x.o.place = true) :
    Calls Tryz.prog 44 #[.pointer (some ⟨a, 0, none⟩), .agg x.cells] w fun e w' => e = .returned (.bool true) ∧ Below w.heap.size w w' := by
  obtain ⟨w0, hw0⟩ : ∃ w0, w0 = w.alloc (.cells x.cells 29) := ⟨_, rfl⟩
  have hb0 : Below w.heap.size w w0 := by rw [hw0]; exact (Below.refl _ _).alloc (Nat.le_refl _) _
  have hg0 : w0.heap[w.heap.size]? = some (.cells x.cells 29 (0, 0)) := by rw [hw0]; exact heap_alloc_new w _
  have hz0 : w0.heap.size = w.heap.size + 1 := by rw [hw0]; simp
  have hid : I64 x.o.id := by
    have h1 := h.rng y (findT_some hy).1
    have h2 := h.mxr
    rw [hyo] at h1
    exact ⟨by omega, by omega⟩
  have hpar : I64 x.o.parent := by rw [← hyo]; exact hpi y (findT_some hy).1
  have ht0 := h.below hb0
  have E1 := Lib.hid (ends_c ht0 88 OB.parent (enters_of Tryz.func88 (by kernel_rfl) rfl) (nextP ht0) hid hy hacP hpi (by rw [hyo]; exact hp))
  have E2 := Lib.hid (ends_c ht0 89 OB.place (enters_of Tryz.func89 (by kernel_rfl) rfl) (nextL ht0) hid hy hacL hli (by rw [hyo]; exact hl))
  have N1 := Lib.hid (number_c x.o.owner w0 hf.own.1 hf.own.2)
  have P1 := Lib.hid (printable_0 w0)
  have hsn := hf.sn
  have HF := Lib.hid hf
  obtain ⟨S, hS⟩ : ∃ S : World → Prop, S = fun W => W.cell? ⟨w.heap.size, 0, none⟩ = some (.int .i64 x.o.id) ∧ W.cell? ⟨w.heap.size, 1, none⟩ = some (.int .i64 x.o.parent) ∧ W.cell? ⟨w.heap.size, 2, none⟩ = some (.int .i64 x.o.owner) ∧ W.cell? ⟨w.heap.size, 3, none⟩ = some (.int .i64 x.o.place) ∧ W.cell? ⟨w.heap.size, 4, none⟩ = some (.int .i64 x.o.flags) ∧ W.cell? ⟨w.heap.size, 5, none⟩ = some (.int .i64 x.o.quota) ∧ W.cell? ⟨w.heap.size, 6, none⟩ = some (.string x.o.name) ∧ W.cell? ⟨w.heap.size, 7, none⟩ = some x.dv ∧ W.cell? ⟨w.heap.size, 8, none⟩ = some x.sv ∧ W.cell? ⟨w.heap.size, 9, none⟩ = some (.slice none 0 0) ∧ Below w0.heap.size w0 W := ⟨_, rfl⟩
  have KS : ∀ W, Below w0.heap.size w0 W → S W := by
    intro W hW
    have hg := (hW.block w.heap.size (by omega)).trans hg0
    rw [hS]
    exact ⟨cell_of_row W _ 0 _ _ _ hg, cell_of_row W _ 1 _ _ _ hg, cell_of_row W _ 2 _ _ _ hg, cell_of_row W _ 3 _ _ _ hg, cell_of_row W _ 4 _ _ _ hg, cell_of_row W _ 5 _ _ _ hg, cell_of_row W _ 6 _ _ _ hg, cell_of_row W _ 7 _ _ _ hg, cell_of_row W _ 8 _ _ _ hg, cell_of_row W _ 9 _ _ _ hg, hW⟩
  have BS : ∀ W, S W → Below w0.heap.size w0 W := by intro W h; rw [hS] at h; exact h.2.2.2.2.2.2.2.2.2.2
  have BW : ∀ W, S W → Below w.heap.size w W := fun W h => hb0.trans ((BS W h).mono hb0.size)
  obtain ⟨cs, hcs⟩ : ∃ cs, cs = x.cells := ⟨_, rfl⟩
  have C1 := Lib.hid (show ∀ W, S W → Calls Tryz.prog 90 #[.pointer (some ⟨a, 0, none⟩), .agg cs] W fun e w' => e = .returned (.bool true) ∧ S w' from fun W hW => by
    rw [hcs]
    exact (defs_c (h.below (BW W hW)) x (own_keepO hd (BW W hW)) hpi hpar hf.dl (by have := hf.pl; omega) hf.pr hf.dn hf.du).mono (by rintro e w' ⟨rfl, hb⟩; exact ⟨rfl, KS _ ((BS W hW).trans (hb.mono (BS W hW).size))⟩))
  have C2 := Lib.hid (show ∀ W, S W → Calls Tryz.prog 48 #[.pointer (some ⟨a, 0, none⟩), .int .i64 x.o.id] W fun e w' => ∃ v, e = .returned v ∧ w'.ownsRow w0.heap.size 9 1 v (x.o.slots.map SL.name).length (strsO (x.o.slots.map SL.name)) ∧ S w' from fun W hW =>
    (names_g (h.below (BW W hW)) hid hpi (by rw [hsn, List.length_map]; have := hf.sl; omega) hf.sr).mono (by rintro e w' ⟨v, rfl, hown, hb⟩; rw [hsn] at hown; exact ⟨v, rfl, ownsRow_base hown (BS W hW).size, KS _ ((BS W hW).trans (hb.mono (BS W hW).size))⟩))
  have C3 := Lib.hid (show ∀ W v, S W → W.ownsRow w0.heap.size 9 1 v (x.o.slots.map SL.name).length (strsO (x.o.slots.map SL.name)) → Calls Tryz.prog 91 #[.agg cs, v] W fun e w' => e = .returned (.bool true) ∧ S w' from fun W v hW hv => by
    rw [hcs]
    exact (slots_c x (own_keepO hd (BW W hW)) (own_keepO hs (BW W hW)) v hv (by have := hf.dl; omega) hf.sl hf.sf).mono (by rintro e w' ⟨rfl, hb⟩; exact ⟨rfl, KS _ ((BS W hW).trans (hb.mono (BS W hW).size))⟩))
  have C4 := Lib.hid (show ∀ W, S W → Calls Tryz.prog 92 #[.agg cs] W fun e w' => e = .returned (.bool true) ∧ S w' from fun W hW => by
    rw [hcs]
    exact (verbs_0 x W).mono (by rintro e w' ⟨rfl, hb⟩; exact ⟨rfl, KS _ ((BS W hW).trans (hb.mono (BS W hW).size))⟩))
  have K9 := KS w0 (Below.refl _ w0)
  have K0 : S w0.drew := KS _ (Below.refl _ w0).drew
  have BSH := Lib.hid BW
  obtain ⟨hf1, ⟨hf2, hf3⟩, ⟨hf4, hf5⟩, ⟨hf6, hf7⟩, _⟩ := hf
  obtain ⟨⟨id, parent, owner, place, flags, quota, name, defs, slots⟩, gx, dv0, sv0⟩ := x
  simp only at hf1 hf2 hf3 hf4 hf5 hf6 hf7
  subst hf1
  rw [← hcs] at hw0 ⊢
  unfold OM.cells at hcs
  simp only at hcs E1 E2 N1 K0 hS ⊢
  subst hcs
  have HW := Lib.hid hw0
  clear h hy hyo hpi hli hd hs hacP hacL hp hl hid hpar ht0 hg0 hz0 KS BS BW hsn hb0 hw0 HF
  rw [hS] at K9
  obtain ⟨k0, k1, k2, k3, k4, k5, k6, k7, k8, k9, _⟩ := K9
  subst hS
  have g1 : ¬ flags < 0 := by omega
  have g2 : ¬ 63 < flags := by omega
  have g3 : ¬ quota < 0 := by omega
  have g4 : ¬ 1073741824 < quota := by omega
  go_enter Tryz.func44, Tryz.ntmps44
  go_wp2_with fail
  rw [← HW.out]
  refine P1.out.mono ?_
  rintro e w1 ⟨rfl, rfl⟩
  go_wp2_with fail
  refine N1.out.mono ?_
  rintro e w1 ⟨rfl, rfl⟩
  go_wp2_with fail
  refine E1.out.mono ?_
  rintro e w1 ⟨rfl, rfl⟩
  go_wp2_with fail
  refine E2.out.mono ?_
  rintro e w1 ⟨rfl, rfl⟩
  go_wp2_with fail
  clear k0 k1 k2 k3 k4 k5 k6 k7 k8 k9
  go_region_held3 (fun W => W.cell? ⟨w.heap.size, 0, none⟩ = some (.int .i64 id) ∧ W.cell? ⟨w.heap.size, 1, none⟩ = some (.int .i64 parent) ∧ W.cell? ⟨w.heap.size, 2, none⟩ = some (.int .i64 owner) ∧ W.cell? ⟨w.heap.size, 3, none⟩ = some (.int .i64 place) ∧ W.cell? ⟨w.heap.size, 4, none⟩ = some (.int .i64 flags) ∧ W.cell? ⟨w.heap.size, 5, none⟩ = some (.int .i64 quota) ∧ W.cell? ⟨w.heap.size, 6, none⟩ = some (.string ⟨#[]⟩) ∧ W.cell? ⟨w.heap.size, 7, none⟩ = some dv0 ∧ W.cell? ⟨w.heap.size, 8, none⟩ = some sv0 ∧ W.cell? ⟨w.heap.size, 9, none⟩ = some (.slice none 0 0) ∧ Below w0.heap.size w0 W)
    (first | (with_reducible assumption) | (with_reducible exact K0))
    (first
      | (go_at_call 90; refine (C1.out _ ?_).mono ?_; with_reducible assumption; rintro e w' ⟨rfl, hs⟩)
      | (go_at_call 48; refine (C2.out _ ?_).mono ?_; with_reducible assumption; rintro e w' ⟨v, rfl, hown, hs⟩)
      | (go_at_call 91; refine (C3.out _ _ ?_ ?_).mono ?_; with_reducible assumption; with_reducible assumption; rintro e w' ⟨rfl, hs⟩)
      | (go_at_call 92; refine (C4.out _ ?_).mono ?_; with_reducible assumption; rintro e w' ⟨rfl, hs⟩))
  all_goals
    go_wp2_with fail
    go_ret
    exact ⟨rfl, BSH.out _ (by assumption)⟩
end Go.Proofs.YtnphgcbknfmapaaGreatDoor
namespace Go.Proofs.YtnphgcbknfmapaaGreatDoor
open Go.RowKit Go.Lib
set_option linter.unusedVariables false

theorem blkT_app (T : List OM) (x : OM) : blkT (T ++ [x]) = blkT T ++ x.blocks := by simp [blkT]
/-- An object put in. -/
theorem TabG.put {w w5 : World} {B a m : Nat} {T : List OM} {c mx : Int} (h : TabG w B a m T c mx) {x : OM} (hx : ObjAt w B x) (hnd : x.blocks.Nodup) (hnew : ∀ b ∈ x.blocks, B ≤ b ∧ b ∉ a :: m :: blkT T)
    (hown : w5.ownsMap Tryz.prog 3 ptrR m (T.length + 1) ((DataW.map (datT T)).put (.int .i64 x.o.id) (.lit (.int .i64 (x.g : Int))))) (hg : w.drew.grownBy w5 (some m))
    (hlast : ∀ y ∈ T, y.o.id < x.o.id) (hr : 0 ≤ x.o.id ∧ x.o.id ≤ mx) (hf : T.length < 512) : TabG w5 B a m (T ++ [x]) c mx := by
  have hs := h.sep
  have hk : ∀ b, b < w.heap.size → b ≠ m → w5.heap[b]? = w.heap[b]? := fun b hb hn => hg.block b hb (fun e => hn (by injection e))
  rw [List.nodup_cons, List.nodup_cons] at hs
  have ham : a ≠ m := fun e => hs.1 (by rw [e]; exact List.mem_cons_self ..)
  have hmT : ∀ b ∈ blkT T, b ≠ m := fun b hb e => hs.2.1 (by rw [← e]; exact hb)
  refine ⟨(hk a (h.lt a (List.mem_cons_self ..)) ham).trans h.tab, ?_, ?_, ?_, ?_, ?_, by simp; omega, h.mxr, ?_⟩
  · rw [show (T ++ [x]).length = T.length + 1 from by simp, ← datT_put T x hlast]
    exact hown
  · intro y hy
    rcases List.mem_append.1 hy with hy | hy
    · exact (h.objs y hy).keep fun b hb => hk b (h.lt b (List.mem_cons_of_mem _ (List.mem_cons_of_mem _ (List.mem_flatMap.2 ⟨y, hy, hb⟩)))) (hmT b (List.mem_flatMap.2 ⟨y, hy, hb⟩))
    · rw [List.mem_singleton] at hy
      subst hy
      exact hx.keep fun b hb => hk b (hx.lt b hb) (fun e => (hnew b hb).2 (by rw [e]; exact List.mem_cons_of_mem _ (List.mem_cons_self ..)))
  · rw [blkT_app, show a :: m :: (blkT T ++ x.blocks) = (a :: m :: blkT T) ++ x.blocks from rfl, List.nodup_append]
    exact ⟨h.sep, hnd, fun p hp q hq e => (hnew q hq).2 (by rw [← e]; exact hp)⟩
  · rw [blkT_app, show a :: m :: (blkT T ++ x.blocks) = (a :: m :: blkT T) ++ x.blocks from rfl]
    intro b hb
    rcases List.mem_append.1 hb with hb | hb
    · exact h.base b hb
    · exact (hnew b hb).1
  · unfold SortO obT
    rw [List.map_append, List.pairwise_append]
    refine ⟨h.sort, by simp, ?_⟩
    intro p hp q hq
    obtain ⟨z, hz, rfl⟩ := List.mem_map.1 hp
    simp only [List.map_cons, List.map_nil, List.mem_singleton] at hq
    subst hq
    exact hlast z hz
  · intro y hy
    rcases List.mem_append.1 hy with hy | hy
    · exact h.rng y hy
    · rw [List.mem_singleton] at hy
      subst hy
      exact hr
/-- The highest number told. -/
theorem TabG.told {w : World} {B a m : Nat} {T : List OM} {c mx mx' : Int} (h : TabG w B a m T c mx) (hm : -1 ≤ mx' ∧ mx' < 1073741824) (hr : ∀ x ∈ T, x.o.id ≤ mx') : Tab (w.setCell ⟨a, 1, none⟩ (.int .i64 mx')) B a m T mx' := by
  have hs := h.sep
  rw [List.nodup_cons] at hs
  have hoth : ∀ b, b ≠ a → (w.setCell ⟨a, 1, none⟩ (.int .i64 mx')).heap[b]? = w.heap[b]? := fun b hb => Below.heap_setCell _ _ _ _ hb
  refine ⟨?_, ownsMap_same h.map (hoth m fun e => hs.1 (by rw [← e]; exact List.mem_cons_self ..)), ?_, h.sep, h.base, h.sort, h.few, hm, fun x hx => ⟨(h.rng x hx).1, hr x hx⟩⟩
  · rw [heap_setCell_same w a 1 _ _ _ h.tab]
    rfl
  · intro x hx
    exact (h.objs x hx).keep fun b hb => hoth b fun e => hs.1 (by rw [← e]; exact List.mem_cons_of_mem _ (List.mem_flatMap.2 ⟨x, hx, hb⟩))
theorem TabG.of_tab {w : World} {B a m : Nat} {mx : Int} (h : Tab w B a m [] (-1)) (hm : -1 ≤ mx ∧ mx < 1073741824) : TabG w B a m [] (-1) mx :=
  ⟨h.tab, h.map, h.objs, h.sep, h.base, h.sort, h.few, hm, fun x hx => by cases hx⟩

/-! Rows that come to an end, of objects without their properties. -/
theorem mem_bare {l : List OB} {x : OB} (h : x ∈ l) : bareO x ∈ l.map bareO := List.mem_map_of_mem h
theorem OkS.acyP {l : List OB} {mx : Int} (h : OkS l mx) : AcyP l OB.parent := by
  obtain ⟨rk, hr⟩ := OkT.acyP h
  exact ⟨rk, fun x hx p hp e => hr (bareO x) (mem_bare hx) (bareO p) (mem_bare hp) e⟩
theorem OkS.acyL {l : List OB} {mx : Int} (h : OkS l mx) : AcyP l OB.place := by
  obtain ⟨rk, hr⟩ := OkT.acyL h
  exact ⟨rk, fun x hx p hp e => hr (bareO x) (mem_bare hx) (bareO p) (mem_bare hp) e⟩
theorem OkS.par {l : List OB} {mx : Int} (h : OkS l mx) {x : OB} (hx : x ∈ l) : x.parent = -1 ∨ hasO l x.parent = true := by
  have := OkT.par h (bareO x) (mem_bare hx)
  rw [hasO_bare] at this
  exact this
theorem OkS.plc {l : List OB} {mx : Int} (h : OkS l mx) {x : OB} (hx : x ∈ l) : x.place = -1 ∨ hasO l x.place = true := by
  have := OkT.plc h (bareO x) (mem_bare hx)
  rw [hasO_bare] at this
  exact this
theorem OkS.rngS {l : List OB} {mx : Int} (h : OkS l mx) {x : OB} (hx : x ∈ l) : 0 ≤ x.id ∧ x.id ≤ mx := OkT.rng h (bareO x) (mem_bare hx)
theorem OkS.sortS {l : List OB} {mx : Int} (h : OkS l mx) : SortO l := by
  have := OkT.sort h
  unfold SortO at this ⊢
  rw [List.pairwise_map] at this
  exact this
theorem OkS.num {l : List OB} {mx : Int} (h : OkS l mx) (hm : mx < 1073741824) {n : Int} (hn : n = -1 ∨ hasO l n = true) : I64 n := by
  rcases hn with rfl | hn
  · exact ⟨by omega, by omega⟩
  · obtain ⟨x, hx, rfl⟩ := hasO_iff.1 hn
    have := h.rngS hx
    exact ⟨by omega, by omega⟩

/-- Objects that lie in a row. -/
structure RowsIn (w : World) (gl : Nat) (xs : List OM) : Prop where
  lt : gl < w.heap.size
  cell : ∀ (i : Nat) (x : OM), xs[i]? = some x → ∀ (j : Nat) (u : Value), j < 10 → x.cells[j]? = some u → w.cell? ⟨gl, i * 10 + j, none⟩ = some u
  defs : ∀ x ∈ xs, w.ownsRow 0 9 1 x.dv x.o.defs.length (strsO x.o.defs)
  slots : ∀ x ∈ xs, w.ownsRow 0 35 8 x.sv x.o.slots.length (x.o.slots.flatMap SL.cells)
  nild : ∀ x ∈ xs, x.o.defs = [] → x.dv = .slice none 0 0
theorem RowsIn.keep {w w' : World} {gl : Nat} {xs : List OM} (h : RowsIn w gl xs) (hb : Below w.heap.size w w') : RowsIn w' gl xs :=
  ⟨Nat.lt_of_lt_of_le h.lt hb.size, fun i x hx j u hj hu => (hb.cell (p := ⟨gl, i * 10 + j, none⟩) h.lt).trans (h.cell i x hx j u hj hu), fun x hx => own_keepO (h.defs x hx) hb, fun x hx => own_keepO (h.slots x hx) hb, h.nild⟩
end Go.Proofs.YtnphgcbknfmapaaGreatDoor
namespace Go.Proofs.YtnphgcbknfmapaaGreatDoor
open Go.RowKit Go.Lib
set_option linter.unusedVariables false

theorem take_snocO {l : List OB} {i : Nat} {x : OB} (h : l[i]? = some x) : l.take (i + 1) = l.take i ++ [x] := by
  rw [List.take_succ_eq_append_getElem (List.getElem?_eq_some_iff.1 h).1, (List.getElem?_eq_some_iff.1 h).2]
/-- What is told of a table that is laid. -/
def BrT (T : List OM) : Prop := ∀ x ∈ T, (x.o.slots = [] → x.sv = .slice none 0 0) ∧ (x.o.defs = [] → x.dv = .slice none 0 0)
theorem getO_take {l : List OB} (hs : SortO l) {i : Nat} {x : OB} (hx : l[i]? = some x) : getO (l.take i) x.id = none := by
  rw [getO_none]
  intro y hy e
  obtain ⟨j, hj⟩ := List.mem_iff_getElem?.1 hy
  rw [List.getElem?_take] at hj
  split at hj
  · rename_i hji
    obtain ⟨l1, e1⟩ := List.getElem?_eq_some_iff.1 hj
    obtain ⟨l2, e2⟩ := List.getElem?_eq_some_iff.1 hx
    have := List.pairwise_iff_getElem.1 hs j i l1 l2 hji
    rw [e1, e2] at this
    omega
  · cases hj
theorem lt_take {l : List OB} (hs : SortO l) {i : Nat} {x : OB} (hx : l[i]? = some x) : ∀ y ∈ l.take i, y.id < x.id := by
  intro y hy
  obtain ⟨j, hj⟩ := List.mem_iff_getElem?.1 hy
  rw [List.getElem?_take] at hj
  split at hj
  · rename_i hji
    obtain ⟨l1, e1⟩ := List.getElem?_eq_some_iff.1 hj
    obtain ⟨l2, e2⟩ := List.getElem?_eq_some_iff.1 hx
    have := List.pairwise_iff_getElem.1 hs j i l1 l2 hji
    rw [e1, e2] at this
    exact this
  · cases hj
/-- The number of the object ahead of a place; -1: there is none. -/
def lastO (l : List OB) : Nat → Int
  | 0 => -1
  | i + 1 => match l[i]? with
    | none => -1
    | some x => x.id
theorem lastO_0 (l : List OB) : lastO l 0 = -1 := rfl
theorem lastO_s {l : List OB} {i : Nat} {x : OB} (h : l[i]? = some x) : lastO l (i + 1) = x.id := by
  simp only [lastO, h]
theorem lastO_lt {l : List OB} {mx : Int} (h : OkS l mx) {i : Nat} {x : OB} (hx : l[i]? = some x) : lastO l i < x.id := by
  cases i with
  | zero => have := (h.rngS (List.mem_of_getElem? hx)).1; rw [lastO_0]; omega
  | succ i =>
    obtain ⟨l2, e2⟩ := List.getElem?_eq_some_iff.1 hx
    have hy : l[i]? = some l[i] := List.getElem?_eq_some_iff.2 ⟨by omega, rfl⟩
    rw [lastO_s hy]
    have := List.pairwise_iff_getElem.1 h.sortS i (i + 1) (by omega) l2 (by omega)
    rw [e2] at this
    exact this

set_option maxRecDepth 100000 in
set_option maxHeartbeats 4000000 in
theorem load_c {w : World} {gl cap : Nat} {mx : Int} (xs : List OM) (hin : RowsIn w gl xs) (hn : xs.length ≤ 512) (hok : OkS (obT xs) mx) (hlast : lastO (obT xs) xs.length = mx) (hmx : mx < 1073741824) (hfair : ∀ x ∈ xs, FairO (obT xs) x.o) :
    Calls Tryz.prog 11 #[.slice (some ⟨gl, 0, none⟩) xs.length cap] w fun e w' => ∃ a m T, e = .returned (.tuple #[.pointer (some ⟨a, 0, none⟩), .nilIface]) ∧ TS w' w.heap.size a m T mx ∧ obT T = obT xs ∧ Below w.heap.size w w' := by
  have HIN := Lib.hid hin
  have HOK := Lib.hid hok
  have HF := Lib.hid hfair
  have HLA := Lib.hid hlast
  have hgl := hin.lt
  have CN := Lib.hid (new_c w)
  clear hin hok hfair hlast
  go_enter Tryz.func11, Tryz.ntmps11
  go_wp2_with fail
  refine CN.out.mono ?_
  rintro e w1 ⟨rfl, ht1, hb1⟩
  have HT1 := Lib.hid (TabG.of_tab (mx := 1073741823) ht1 (by omega))
  have HB1 := Lib.hid hb1
  clear ht1 hb1 CN
  go_wp2_with fail
  go_loopg [18] xs.length (fun kk iv wr => ∃ (i : Nat) (T : List OM), iv = .int .i64 (i : Int) ∧ i + kk = xs.length ∧ TabG wr w.heap.size (w.heap.size + 1) w.heap.size T (-1) 1073741823 ∧ obT T = (obT xs).take i ∧ BrT T ∧ Below w.heap.size w wr)
  case atStart => exact ⟨0, [], rfl, by omega, HT1.out, by simp [obT], (fun x hx => nomatch hx), HB1.out⟩
  case round =>
    obtain ⟨i, T, rfl, hik, htr, hoT, hbT, hbr⟩ := hrel
    have hrz := hbr.size
    by_cases hi : i < xs.length
    · obtain ⟨j, rfl⟩ : ∃ j, gk = j + 1 := ⟨gk - 1, by omega⟩
      obtain ⟨x, hx⟩ : ∃ x, xs[i]? = some x := ⟨xs[i], List.getElem?_eq_some_iff.2 ⟨hi, rfl⟩⟩
      have hxm := List.mem_of_getElem? hx
      obtain ⟨Ad, cd, hdv⟩ : ∃ A C, x.dv = .slice A x.o.defs.length C := by obtain ⟨A, C, e, _⟩ := own_formO (HIN.out.defs x hxm); exact ⟨A, C, e⟩
      obtain ⟨As, cs, hsv⟩ : ∃ A C, x.sv = .slice A x.o.slots.length C := by obtain ⟨A, C, e, _⟩ := own_formO (HIN.out.slots x hxm); exact ⟨A, C, e⟩
      obtain ⟨ob, gx, dv, sv⟩ := x
      simp only at hdv hsv
      subst hdv
      subst hsv
      have hxo : (obT xs)[i]? = some ob := by unfold obT; rw [List.getElem?_map, hx]; rfl
      have hTl : T.length = i := by
        have := congrArg List.length hoT
        rw [List.length_take, oT_len, oT_len] at this
        omega
      have hxr := HOK.out.rngS (List.mem_of_getElem? hxo)
      have hfn : findT T ob.id = none := by
        have h1 := getO_take HOK.out.sortS hxo
        rw [← hoT, getO_obT] at h1
        cases hf : findT T ob.id with
        | none => rfl
        | some z => rw [hf] at h1; cases h1
      have hri := HIN.out.keep hbr
      have hr := fun j u hj hu => hri.cell i _ hx j u hj hu
      have r0 := hr 0 (.int .i64 ob.id) (by omega) rfl
      rw [Nat.add_zero] at r0
      have r1 := hr 1 (.int .i64 ob.parent) (by omega) rfl
      have r2 := hr 2 (.int .i64 ob.owner) (by omega) rfl
      have r3 := hr 3 (.int .i64 ob.place) (by omega) rfl
      have r4 := hr 4 (.int .i64 ob.flags) (by omega) rfl
      have r5 := hr 5 (.int .i64 ob.quota) (by omega) rfl
      have r6 := hr 6 (.string ob.name) (by omega) rfl
      have r7 := hr 7 (.slice Ad ob.defs.length cd) (by omega) rfl
      have r8 := hr 8 (.slice As ob.slots.length cs) (by omega) rfl
      have r9 := hr 9 (.slice none 0 0) (by omega) rfl
      obtain ⟨wx, hwx⟩ : ∃ wx, wx = wr.alloc (.cells #[.int .i64 ob.id, .int .i64 ob.parent, .int .i64 ob.owner, .int .i64 ob.place, .int .i64 ob.flags, .int .i64 ob.quota, .string ob.name, (.slice Ad ob.defs.length cd), (.slice As ob.slots.length cs), .slice none 0 0] 29) := ⟨_, rfl⟩
      have hbx : Below wr.heap.size wr wx := by rw [hwx]; exact (Below.refl _ _).alloc (Nat.le_refl _) _
      have hxz : wx.heap.size = wr.heap.size + 1 := by rw [hwx]; simp
      have hgx : wx.heap[wr.heap.size]? = some (.cells #[.int .i64 ob.id, .int .i64 ob.parent, .int .i64 ob.owner, .int .i64 ob.place, .int .i64 ob.flags, .int .i64 ob.quota, .string ob.name, (.slice Ad ob.defs.length cd), (.slice As ob.slots.length cs), .slice none 0 0] 29 (0, 0)) := by rw [hwx]; exact heap_alloc_new wr _
      have KB : ∀ W, Below wx.heap.size wx W → ∀ j, W.cell? ⟨wr.heap.size, j, none⟩ = (#[.int .i64 ob.id, .int .i64 ob.parent, .int .i64 ob.owner, .int .i64 ob.place, .int .i64 ob.flags, .int .i64 ob.quota, .string ob.name, (.slice Ad ob.defs.length cd), (.slice As ob.slots.length cs), .slice none 0 0] : Array Value)[j]? := fun W hW j => cell_of_row W _ j _ _ _ ((hW.block _ (by omega)).trans hgx)
      have hki : I64 ob.id := ⟨by omega, by omega⟩
      have hfair := HF.out _ hxm
      have CO := Lib.hid (show ∀ W, Below wr.heap.size wr W → Calls Tryz.prog 43 #[.agg #[.int .i64 ob.id, .int .i64 ob.parent, .int .i64 ob.owner, .int .i64 ob.place, .int .i64 ob.flags, .int .i64 ob.quota, .string ob.name, .slice Ad ob.defs.length cd, .slice As ob.slots.length cs, .slice none 0 0]] W fun e w' => ∃ A2 c2 A3 c3, e = .returned (.agg #[.int .i64 ob.id, .int .i64 ob.parent, .int .i64 ob.owner, .int .i64 ob.place, .int .i64 ob.flags, .int .i64 ob.quota, .string ob.name, .slice A2 ob.defs.length c2, .slice A3 ob.slots.length c3, .slice none 0 0]) ∧ CpO W w' ob (.slice A2 ob.defs.length c2) (.slice A3 ob.slots.length c3) from fun W hW => by
        refine (object_r (w := W) ⟨ob, gx, .slice Ad ob.defs.length cd, .slice As ob.slots.length cs⟩ ((hri.keep hW).defs _ hxm) ((hri.keep hW).slots _ hxm) (hri.nild _ hxm) (fun s hs => (hfair.sf s hs).1) (Nat.le_trans hfair.dl (by omega)) hfair.sl).mono ?_
        rintro e w3 ⟨dv', sv', rfl, hcp⟩
        obtain ⟨Ad2, cd2, rfl⟩ : ∃ A C, dv' = .slice A ob.defs.length C := by obtain ⟨A, C, e, _⟩ := own_formO hcp.defs; exact ⟨A, C, e⟩
        obtain ⟨As2, cs2, rfl⟩ : ∃ A C, sv' = .slice A ob.slots.length C := by obtain ⟨A, C, e, _⟩ := own_formO hcp.slots; exact ⟨A, C, e⟩
        exact ⟨_, _, _, _, rfl, hcp⟩)
      have KL : ∀ W, Below wx.heap.size wx W → (W.cell? ⟨w.heap.size + 1, 0, none⟩ = some (.map (some w.heap.size)) ∧ W.cell? ⟨wr.heap.size, 0, none⟩ = some (.int .i64 ob.id) ∧ (Instr.lookup 82 (.map (some w.heap.size)) (.int .i64 ob.id) false).run Tryz.prog W = .ok (.pointer none) W) := by
        intro W hW
        have h1 := htr.below (hbx.trans (hW.mono hbx.size))
        refine ⟨h1.c0, KB W hW 0, ?_⟩
        have h2 := h1.look hki
        rw [ptrT_none hfn] at h2
        exact h2
      have K1 := KL wx.drew (Below.refl _ wx).drew
      have KLH := Lib.hid KL
      have HWX := Lib.hid hwx
      have HKB := Lib.hid KB
      have HBX := Lib.hid hbx
      have HXZ := Lib.hid hxz
      have HTR := Lib.hid htr
      have HBR := Lib.hid hbr
      have HOT := Lib.hid hoT
      have HBT := Lib.hid hbT
      have HXO := Lib.hid hxo
      have HFN := Lib.hid hfn
      clear hr hri KL KB hbx hxz hgx hwx hoT hbT hfn htr hbr hfair hxo
      go_wp2_with fail
      rw [← HWX.out]
      clear r0 r1 r2 r3 r4 r5 r6 r7 r8 r9
      go_region_held3 (fun W => W.cell? ⟨w.heap.size + 1, 0, none⟩ = some (.map (some w.heap.size)) ∧ W.cell? ⟨wr.heap.size, 0, none⟩ = some (.int .i64 ob.id) ∧ (Instr.lookup 82 (.map (some w.heap.size)) (.int .i64 ob.id) false).run Tryz.prog W = .ok (.pointer none) W)
        (first | (with_reducible assumption) | (with_reducible exact K1))
        (fail)
      clear K1
      have hbd : Below wx.heap.size wx wx.drew := (Below.refl _ wx).drew
      have k0 := HKB.out _ hbd 0
      have k1 := HKB.out _ hbd 1
      have k2 := HKB.out _ hbd 2
      have k3 := HKB.out _ hbd 3
      have k4 := HKB.out _ hbd 4
      have k5 := HKB.out _ hbd 5
      have k6 := HKB.out _ hbd 6
      have k7 := HKB.out _ hbd 7
      have k8 := HKB.out _ hbd 8
      have k9 := HKB.out _ hbd 9
      have HBD := Lib.hid hbd
      clear hbd
      go_wp2_with fail
      refine (CO.out _ HBX.out.drew).mono ?_
      rintro e w3 ⟨Ad2, cd2, As2, cs2, rfl, hcp⟩
      have hb3 : Below wx.heap.size wx w3 := HBD.out.trans hcp.below
      obtain ⟨wq, hwq⟩ : ∃ wq, wq = w3.alloc (.cells #[.int .i64 ob.id, .int .i64 ob.parent, .int .i64 ob.owner, .int .i64 ob.place, .int .i64 ob.flags, .int .i64 ob.quota, .string ob.name, .slice Ad2 ob.defs.length cd2, .slice As2 ob.slots.length cs2, .slice none 0 0] 29) := ⟨_, rfl⟩
      have hbq : Below wx.heap.size wx wq := by rw [hwq]; exact hb3.alloc hb3.size _
      have hgq : wq.heap[w3.heap.size]? = some (.cells #[.int .i64 ob.id, .int .i64 ob.parent, .int .i64 ob.owner, .int .i64 ob.place, .int .i64 ob.flags, .int .i64 ob.quota, .string ob.name, .slice Ad2 ob.defs.length cd2, .slice As2 ob.slots.length cs2, .slice none 0 0] 29 (0, 0)) := by rw [hwq]; exact heap_alloc_new w3 _
      have hbq3 : Below w3.heap.size w3 wq := by rw [hwq]; exact (Below.refl _ _).alloc (Nat.le_refl _) _
      obtain ⟨q0, q1, _⟩ := KLH.out wq hbq
      have HWQ := Lib.hid hwq
      have HBQ := Lib.hid hbq
      have HGQ := Lib.hid hgq
      have HB3 := Lib.hid hbq3
      have HCP := Lib.hid hcp
      clear hcp hb3 hwq hbq hgq hbq3 k0 k1 k2 k3 k4 k5 k6 k7 k8 k9
      go_wp2_with fail
      rw [← HWQ.out]
      go_still_tail 6, (by kernel_rfl)
      change wpList _ _ _ _ _ wq.drew
      refine wpList_mapUpdate_own (a := _) (o := _) _ rfl _ _ _ 82 rfl 3 81 tkeyed tmap ptrR w.heap.size T.length (.map (datT T)) rfl ((HTR.out.below (HBX.out.trans (HBQ.out.mono HBX.out.size))).map.drew) (by unfold maxLen; omega) (.int .i64 ob.id) (.pointer (some ⟨w3.heap.size, 0, none⟩)) (.int .i64 ob.id) rfl rfl (tkey_of hki) (.lit (.int .i64 (w3.heap.size : Int))) [] rfl ?_
      intro w5 hown5 hgrow5
      have htq := HTR.out.below (HBX.out.trans (HBQ.out.mono HBX.out.size))
      have hcp := HCP.out
      have hzd : wx.drew.heap.size = wx.heap.size := rfl
      have hs3 := hcp.below.size
      have hbase : w.heap.size ≤ wr.heap.size := hrz
      have hobj : ObjAt wq w.heap.size ⟨ob, w3.heap.size, .slice Ad2 ob.defs.length cd2, .slice As2 ob.slots.length cs2⟩ :=
        ⟨HGQ.out, ownsRow_base (own_keepO hcp.defs HB3.out) (by have := HXZ.out; omega), ownsRow_base (own_keepO hcp.slots HB3.out) (by have := HXZ.out; omega)⟩
      have hbk : ∀ b ∈ (⟨ob, w3.heap.size, .slice Ad2 ob.defs.length cd2, .slice As2 ob.slots.length cs2⟩ : OM).blocks, wr.heap.size ≤ b := by
        intro b hb
        rcases OM.mem_blocks.1 hb with rfl | hb | hb
        · show wr.heap.size ≤ w3.heap.size; have := HXZ.out; omega
        · have := (hcp.defs.lt b hb).1; have := HXZ.out; omega
        · have := (hcp.slots.lt b hb).1; have := HXZ.out; omega
      have hnd : (⟨ob, w3.heap.size, .slice Ad2 ob.defs.length cd2, .slice As2 ob.slots.length cs2⟩ : OM).blocks.Nodup := by
        have h1 := fun b hb => (hcp.defs.lt b hb).2
        have h2 := fun b hb => (hcp.slots.lt b hb).2
        have h3 := hcp.apart
        unfold OM.blocks
        simp only
        cases e1 : (Value.slice Ad2 ob.defs.length cd2).ownBlock with
        | none =>
          cases e2 : (Value.slice As2 ob.slots.length cs2).ownBlock with
          | none => simp
          | some b2 => have := h2 b2 e2; simp; omega
        | some b1 =>
          have := h1 b1 e1
          cases e2 : (Value.slice As2 ob.slots.length cs2).ownBlock with
          | none => simp; omega
          | some b2 =>
            have := h2 b2 e2
            have h4 := h3 b1 e1
            have h5 : b2 ≠ b1 := fun e => h4 (by rw [e2, e])
            simp
            omega
      have htn := htq.put hobj hnd (fun b hb => ⟨by have := hbk b hb; omega, fun hm => by have := HTR.out.lt b hm; have := hbk b hb; omega⟩) hown5 hgrow5 (fun y hy => by
        have h1 : y.o ∈ obT T := List.mem_map_of_mem hy
        rw [HOT.out] at h1
        exact lt_take HOK.out.sortS HXO.out _ h1) (by show 0 ≤ ob.id ∧ ob.id ≤ 1073741823; omega) (by omega)
      have hoN : obT (T ++ [⟨ob, w3.heap.size, .slice Ad2 ob.defs.length cd2, .slice As2 ob.slots.length cs2⟩]) = (obT xs).take (i + 1) := by
        rw [take_snocO HXO.out, ← HOT.out]
        simp [obT]
      have hbN : BrT (T ++ [⟨ob, w3.heap.size, .slice Ad2 ob.defs.length cd2, .slice As2 ob.slots.length cs2⟩]) := by
        intro y hy
        rcases List.mem_append.1 hy with hy | hy
        · exact HBT.out y hy
        · rw [List.mem_singleton] at hy
          subst hy
          exact ⟨hcp.nils, hcp.nild⟩
      have hbw5 : Below w.heap.size w w5 := Below.grown ((HBR.out.trans ((HBX.out.trans (HBQ.out.mono HBX.out.size)).mono hrz)).drew) hgrow5 (by show w.heap.size ≤ wq.heap.size; have := HBQ.out.size; have := HXZ.out; omega) (fun k hk => by injection hk with hk; omega)
      have HTN := Lib.hid htn
      have HON := Lib.hid hoN
      have HBN := Lib.hid hbN
      have HBW := Lib.hid hbw5
      clear hown5 hgrow5 htq hcp hobj hbk hnd htn hoN hbN hbw5
      go_wp2_with fail
      go_roundg j
      case measure => omega
      case rel => exact ⟨i + 1, _, by go_num, by omega, HTN.out, HON.out, HBN.out, HBW.out⟩
    · obtain rfl : i = xs.length := by omega
      have HTR := Lib.hid htr
      have HBR := Lib.hid hbr
      have HBT := Lib.hid hbT
      have hoT' : obT T = obT xs := by rw [hoT, ← oT_len, List.take_length]
      have HOT := Lib.hid hoT'
      clear htr hbr hbT hoT hoT'
      rename World => wA
      go_wp2_with fail
      go_loopg [8, 41] xs.length (fun kk lv iv wr => ∃ (i : Nat), lv = .int .i64 (lastO (obT xs) i) ∧ iv = .int .i64 (i : Int) ∧ i + kk = xs.length ∧ Below wA.heap.size wA wr)
      case atStart => exact ⟨0, rfl, rfl, by omega, Below.refl _ _⟩
      case round =>
        obtain ⟨i, rfl, rfl, hik, hbt⟩ := hrel
        have htz := hbt.size
        by_cases hi : i < xs.length
        · obtain ⟨j, rfl⟩ : ∃ j, gk = j + 1 := ⟨gk - 1, by omega⟩
          obtain ⟨x, hx⟩ : ∃ x, xs[i]? = some x := ⟨xs[i], List.getElem?_eq_some_iff.2 ⟨hi, rfl⟩⟩
          have hxm := List.mem_of_getElem? hx
          obtain ⟨Ad, cd, hdv⟩ : ∃ A C, x.dv = .slice A x.o.defs.length C := by obtain ⟨A, C, e, _⟩ := own_formO (HIN.out.defs x hxm); exact ⟨A, C, e⟩
          obtain ⟨As, cs, hsv⟩ : ∃ A C, x.sv = .slice A x.o.slots.length C := by obtain ⟨A, C, e, _⟩ := own_formO (HIN.out.slots x hxm); exact ⟨A, C, e⟩
          obtain ⟨ob, gx, dv, sv⟩ := x
          simp only at hdv hsv
          subst hdv
          subst hsv
          have hxo : (obT xs)[i]? = some ob := by unfold obT; rw [List.getElem?_map, hx]; rfl
          have hom := List.mem_of_getElem? hxo
          have hxr := HOK.out.rngS hom
          have hll := lastO_lt HOK.out hxo
          have hls := lastO_s hxo
          have hbw := HBR.out.trans (hbt.mono hrz)
          have hri := HIN.out.keep hbw
          have hr := fun j u hj hu => hri.cell i _ hx j u hj hu
          have r0 := hr 0 (.int .i64 ob.id) (by omega) rfl
          rw [Nat.add_zero] at r0
          have r1 := hr 1 (.int .i64 ob.parent) (by omega) rfl
          have r2 := hr 2 (.int .i64 ob.owner) (by omega) rfl
          have r3 := hr 3 (.int .i64 ob.place) (by omega) rfl
          have r4 := hr 4 (.int .i64 ob.flags) (by omega) rfl
          have r5 := hr 5 (.int .i64 ob.quota) (by omega) rfl
          have r6 := hr 6 (.string ob.name) (by omega) rfl
          have r7 := hr 7 (.slice Ad ob.defs.length cd) (by omega) rfl
          have r8 := hr 8 (.slice As ob.slots.length cs) (by omega) rfl
          have r9 := hr 9 (.slice none 0 0) (by omega) rfl
          obtain ⟨y, hy, hyo⟩ := findT_of_getO (T := T) (d := ob.id) (x := ob) (by rw [HOT.out]; exact getO_of_mem HOK.out.sortS hom)
          have hpi : ParI T := fun z hz => HOK.out.num hmx (HOK.out.par (by rw [← HOT.out]; exact List.mem_map_of_mem hz))
          have hli : ∀ z ∈ T, I64 z.o.place := fun z hz => HOK.out.num hmx (HOK.out.plc (by rw [← HOT.out]; exact List.mem_map_of_mem hz))
          have hok2 : OkS (obT T) mx := by rw [HOT.out]; exact HOK.out
          have CF := Lib.hid (show ∀ W, Below wr.heap.size wr W → Calls Tryz.prog 44 #[.pointer (some ⟨w.heap.size + 1, 0, none⟩), .agg #[.int .i64 ob.id, .int .i64 ob.parent, .int .i64 ob.owner, .int .i64 ob.place, .int .i64 ob.flags, .int .i64 ob.quota, .string ob.name, .slice Ad ob.defs.length cd, .slice As ob.slots.length cs, .slice none 0 0]] W fun e w' => e = .returned (.bool true) ∧ Below W.heap.size W w' from fun W hW =>
            fair_c ((HTR.out.below hbt).below hW) ⟨ob, gx, .slice Ad ob.defs.length cd, .slice As ob.slots.length cs⟩ (by rw [HOT.out]; exact HF.out _ hxm) hy hyo hpi hli ((hri.keep hW).defs _ hxm) ((hri.keep hW).slots _ hxm) hok2.acyP hok2.acyL (hok2.par (by rw [HOT.out]; exact hom)) (hok2.plc (by rw [HOT.out]; exact hom)))
          have hnl : ¬ ob.id ≤ lastO (obT xs) i := by omega
          have hng : ¬ 1073741824 ≤ ob.id := by omega
          obtain ⟨wx, hwx⟩ : ∃ wx, wx = wr.alloc (.cells #[.int .i64 ob.id, .int .i64 ob.parent, .int .i64 ob.owner, .int .i64 ob.place, .int .i64 ob.flags, .int .i64 ob.quota, .string ob.name, .slice Ad ob.defs.length cd, .slice As ob.slots.length cs, .slice none 0 0] 29) := ⟨_, rfl⟩
          have hbx : Below wr.heap.size wr wx := by rw [hwx]; exact (Below.refl _ _).alloc (Nat.le_refl _) _
          have hxz : wx.heap.size = wr.heap.size + 1 := by rw [hwx]; simp
          have hgx : wx.heap[wr.heap.size]? = some (.cells #[.int .i64 ob.id, .int .i64 ob.parent, .int .i64 ob.owner, .int .i64 ob.place, .int .i64 ob.flags, .int .i64 ob.quota, .string ob.name, .slice Ad ob.defs.length cd, .slice As ob.slots.length cs, .slice none 0 0] 29 (0, 0)) := by rw [hwx]; exact heap_alloc_new wr _
          have hc0 : ∀ W, Below wx.heap.size wx W → W.cell? ⟨wr.heap.size, 0, none⟩ = some (.int .i64 ob.id) := fun W hW => cell_of_row W _ 0 _ _ _ ((hW.block _ (by omega)).trans hgx)
          have k0 := cell_of_row wx _ 0 _ _ _ hgx
          have k1 := cell_of_row wx _ 1 _ _ _ hgx
          have k2 := cell_of_row wx _ 2 _ _ _ hgx
          have k3 := cell_of_row wx _ 3 _ _ _ hgx
          have k4 := cell_of_row wx _ 4 _ _ _ hgx
          have k5 := cell_of_row wx _ 5 _ _ _ hgx
          have k6 := cell_of_row wx _ 6 _ _ _ hgx
          have k7 := cell_of_row wx _ 7 _ _ _ hgx
          have k8 := cell_of_row wx _ 8 _ _ _ hgx
          have k9 := cell_of_row wx _ 9 _ _ _ hgx
          have HC0 := Lib.hid hc0
          have HWX := Lib.hid hwx
          have HBX := Lib.hid hbx
          have HBT2 := Lib.hid hbt
          have HLS := Lib.hid hls
          obtain ⟨la, hla⟩ : ∃ la, la = lastO (obT xs) i := ⟨_, rfl⟩
          rw [← hla] at hnl hll
          clear hr hri hbw hbx hxz hgx hwx hc0 hbt hy hyo hpi hli hok2 hxo hom hls
          rw [← hla]
          clear hla
          go_wp2_with fail
          rw [← HWX.out]
          clear r0 r1 r2 r3 r4 r5 r6 r7 r8 r9
          refine (CF.out _ HBX.out).mono ?_
          rintro e w5 ⟨rfl, hb5⟩
          have c5 := HC0.out w5 hb5
          have HB5 := Lib.hid hb5
          clear hb5
          go_wp2_with fail
          go_roundg j
          case measure => omega
          case rel => exact ⟨i + 1, by rw [HLS.out], by go_num, by omega, HBT2.out.trans ((HBX.out.trans (HB5.out.mono HBX.out.size)).mono htz)⟩
        · obtain rfl : i = xs.length := by omega
          have htt := HTR.out.below hbt
          have f1 := htt.fr 1
          have c1 := htt.c1
          have hrg : ∀ z ∈ T, z.o.id ≤ mx := fun z hz => (HOK.out.rngS (by rw [← HOT.out]; exact List.mem_map_of_mem hz)).2
          have hm1 : -1 ≤ mx := by
            rw [← HLA.out]
            cases hl : xs.length with
            | zero => rw [lastO_0]; omega
            | succ k =>
              have hk : k < (obT xs).length := by rw [oT_len]; omega
              rw [lastO_s (List.getElem?_eq_some_iff.2 ⟨hk, rfl⟩)]
              have := (HOK.out.rngS (List.getElem_mem hk)).1
              omega
          have hT := htt.told ⟨hm1, hmx⟩ hrg
          have HTS := Lib.hid (show TS (wr.setCell ⟨w.heap.size + 1, 1, none⟩ (.int .i64 mx)) w.heap.size (w.heap.size + 1) w.heap.size T mx from ⟨hT, by rw [HOT.out]; exact HOK.out, fun z hz s hs => by
            have h1 : z.o ∈ obT xs := by rw [← HOT.out]; exact List.mem_map_of_mem hz
            obtain ⟨u, hu, e⟩ := List.mem_map.1 h1
            have h2 := HF.out u hu
            rw [e] at h2
            exact (h2.sf s hs).1, HBT.out⟩)
          have HBF := Lib.hid ((HBR.out.trans (hbt.mono hrz)).setCell (p := ⟨w.heap.size + 1, 1, none⟩) (by show w.heap.size ≤ w.heap.size + 1; omega) (.int .i64 mx))
          rw [HLA.out]
          clear htt hrg hm1 hT hbt
          go_wp2_with fail
          go_ret2
          exact ⟨_, _, T, rfl, HTS.out, HOT.out, HBF.out⟩
end Go.Proofs.YtnphgcbknfmapaaGreatDoor
