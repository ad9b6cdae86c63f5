/- Contracts of the functions that the statement reaches, and the plain mathematics beneath: several texts joined. -/
import Derived.Laws.Cover1
import Derived.Test.YtnphgcbknfmapaaGreatDoorWmvAH
import Derived.Test.YtnphgcbknfmapaaGreatDoorWmvAF
namespace Go.Proofs.YtnphgcbknfmapaaGreatDoor
open Go.RowKit Go.Lib
set_option linter.unusedVariables false

theorem contS_c {W : World} {B : Nat} {v : Value} {l : List ByteArray} (h : W.ownsRow B 9 1 v l.length (strsO l)) (x : ByteArray) (hl : l.length ≤ 1000000) {r : Bool} (hr : containsS l x = r) :
    Calls Tryz.prog 52 #[v, .string x] W fun e w' => e = .returned (.bool r) ∧ W = w' := by
  subst hr
  obtain ⟨A, c, rfl, hnc, hcm, hA, hcell⟩ := own_formO h
  cases l with
  | nil =>
    refine (Tryz.slices_Contains_string_empty A c x W).mono ?_
    rintro e w1 ⟨rfl, rfl⟩
    exact ⟨rfl, rfl⟩
  | cons n r =>
    obtain ⟨g, rfl, _⟩ := hcell 0 (.string n) rfl
    refine (Tryz.slices_Contains_string g 0 (n :: r).length c (n :: r) x W (Nat.le_refl _) (by omega) ?_).mono ?_
    · intro j hj
      obtain ⟨g2, e, hc⟩ := hcell j (.string ((n :: r).getD j ByteArray.empty)) (by rw [strsO, List.getElem?_map, List.getD_eq_getElem?_getD, List.getElem?_eq_getElem hj]; rfl)
      injection e with e
      injection e with e _ _
      subst e
      rw [Nat.zero_add]
      exact hc
    · rintro e w1 ⟨rfl, rfl⟩
      rw [List.take_length]
      exact ⟨rfl, rfl⟩

set_option maxHeartbeats 1000000 in
theorem same_0 (w : World) : Calls Tryz.prog 113 #[.agg #[.int .i64 0, .int .i64 0, .string ⟨#[]⟩, .slice none 0 0], .agg #[.int .i64 0, .int .i64 0, .string ⟨#[]⟩, .slice none 0 0]] w fun e w' => e = .returned (.bool true) ∧ Below w.heap.size w w' := by
  have HB := Lib.hid (((Below.refl w.heap.size w).alloc (Nat.le_refl _) (.cells #[.int .i64 0, .int .i64 0, .string ⟨#[]⟩, .slice none 0 0] 33)).alloc (by simp) (.cells #[.int .i64 0, .int .i64 0, .string ⟨#[]⟩, .slice none 0 0] 33))
  go_enter Tryz.func113, Tryz.ntmps113
  go_wp2_with fail
  refine wp_loop_rounds 1 ?_
  rw [rounds_succ]
  go_wp2_with fail
  go_ret
  exact ⟨rfl, HB.out⟩

set_option maxRecDepth 100000 in
set_option maxHeartbeats 4000000 in
theorem defs_c {w : World} {B Bd a m : Nat} {T : List OM} {c mx : Int} (h : TabG w B a m T c mx) (x : OM) (hd : w.ownsRow Bd 9 1 x.dv x.o.defs.length (strsO x.o.defs)) (hpi : ParI T) (hp : I64 x.o.parent)
    (hdl : x.o.defs.length ≤ 64) (hsm : (nmO (obT T) x.o.parent).length ≤ 100000) (hri : RiseS (nmO (obT T) x.o.parent))
    (hnm : ∀ n ∈ x.o.defs, nmB n.data.toList = true ∧ n.size ≤ 32 ∧ biB n = false ∧ containsS (nmO (obT T) x.o.parent) n = false)
    (hup : ∀ (i : Nat) (p q : ByteArray), x.o.defs[i]? = some p → x.o.defs[i + 1]? = some q → Op.bytesLess q.toList p.toList = false ∧ (q.toList == p.toList) = false) :
    Calls Tryz.prog 90 #[.pointer (some ⟨a, 0, none⟩), .agg x.cells] w fun e w' => e = .returned (.bool true) ∧ Below w.heap.size w w' := by
  obtain ⟨w0, hw0⟩ : ∃ w0, w0 = w.alloc (.cells x.cells 29) := ⟨_, rfl⟩
  have hb0 : Below w.heap.size w w0 := by rw [hw0]; exact (Below.refl _ _).alloc (Nat.le_refl _) _
  have hg0 : w0.heap[w.heap.size]? = some (.cells x.cells 29 (0, 0)) := by rw [hw0]; exact heap_alloc_new w _
  have hz0 : w0.heap.size = w.heap.size + 1 := by rw [hw0]; simp
  have CN := Lib.hid (names_g (h.below hb0) hp hpi hsm hri)
  obtain ⟨⟨id, parent, owner, place, flags, quota, name, defs, slots⟩, gx, dv0, sv0⟩ := x
  obtain ⟨A, cd, hdv, hnc, hcm, hA, hcell⟩ := own_formO (own_keepO hd hb0)
  simp only at hdv hd hdl hsm hri hnm hup hnc hcell CN hp ⊢
  subst hdv
  have HB0 := Lib.hid hb0
  have HG0 := Lib.hid hg0
  have HZ0 := Lib.hid hz0
  have HCL := Lib.hid hcell
  have HLT := Lib.hid (fun g (e : A = some ⟨g, 0, none⟩) => (own_keepO hd hb0).lt g (by rw [e]; rfl))
  have HNM := Lib.hid hnm
  have HUP := Lib.hid hup
  have HW0 := Lib.hid hw0
  unfold OM.cells at hw0
  simp only at hw0
  have HW := Lib.hid hw0
  obtain ⟨N, hN⟩ : ∃ N, N = nmO (obT T) parent := ⟨_, rfl⟩
  rw [← hN] at CN hsm HNM
  clear h hd hpi hri hnm hup hb0 hg0 hz0 hcell hw0 hA hN hp
  unfold OM.cells
  simp only
  go_enter Tryz.func90, Tryz.ntmps90
  go_wp2_with fail
  rw [← HW.out]
  refine CN.out.mono ?_
  rintro e w1 ⟨v, rfl, hrow, hb1⟩
  obtain ⟨A2, c2, rfl, _⟩ := own_formO hrow
  have hs1 := hb1.size
  have q7 : w1.cell? ⟨w.heap.size, 7, none⟩ = some (.slice A defs.length cd) := cell_of_row w1 _ 7 _ _ _ ((hb1.block _ (by rw [HZ0.out]; omega)).trans HG0.out)
  have HB1 := Lib.hid hb1
  have HROW := Lib.hid hrow
  clear hb1 hrow
  go_wp2_with fail
  go_loopg [19] defs.length (fun kk iv wr => ∃ (i : Nat), iv = .int .i64 (i : Int) ∧ i + kk = defs.length ∧ Below w1.heap.size w1 wr)
  case atStart => exact ⟨0, rfl, by omega, Below.refl _ _⟩
  case round =>
    obtain ⟨i, rfl, hik, hbr⟩ := hrel
    have hrz := hbr.size
    by_cases hi : i < defs.length
    · obtain ⟨j, rfl⟩ : ∃ j, gk = j + 1 := ⟨gk - 1, by omega⟩
      obtain ⟨n, hn⟩ : ∃ n, defs[i]? = some n := ⟨defs[i], List.getElem?_eq_some_iff.2 ⟨hi, rfl⟩⟩
      obtain ⟨g1, rfl, hc1⟩ := HCL.out i (.string n) (by simp [strsO, hn])
      have hg1 := HLT.out g1 rfl
      have hb1r := HB1.out.trans (hbr.mono hs1)
      have hcr : ∀ W, Below wr.heap.size wr W → ∀ (k : Nat) (q : ByteArray), defs[k]? = some q → W.cell? ⟨g1, k, none⟩ = some (.string q) := by
        intro W hW k q hq
        obtain ⟨g2, e2, hc2⟩ := HCL.out k (.string q) (by simp [strsO, hq])
        injection e2 with e2
        injection e2 with e2 _ _
        subst e2
        exact ((hb1r.trans (hW.mono hb1r.size)).cell (p := ⟨g1, k, none⟩) hg1.2).trans hc2
      have r0 := hcr wr (Below.refl _ _) i n hn
      have hq7 : ∀ W, Below wr.heap.size wr W → W.cell? ⟨w.heap.size, 7, none⟩ = some (.slice (some ⟨g1, 0, none⟩) defs.length cd) := fun W hW =>
        cell_of_row W _ 7 _ _ _ (((hb1r.trans (hW.mono hb1r.size)).block _ (by rw [HZ0.out]; omega)).trans HG0.out)
      obtain ⟨hnm1, hnm2, hnm3, hnm4⟩ := HNM.out n (List.mem_of_getElem? hn)
      have CNM := Lib.hid (fun W => name_any n W (by omega))
      rw [hnm1] at CNM
      have CBI := Lib.hid (fun W => obuiltin_c n W)
      rw [hnm3] at CBI
      have CCO := Lib.hid (fun W (hW : Below wr.heap.size wr W) => contS_c (own_keepO HROW.out (hbr.trans (hW.mono hrz))) n (by omega) hnm4)
      have HCR := Lib.hid hcr
      have HQ7 := Lib.hid hq7
      have HBR := Lib.hid hbr
      have HN := Lib.hid hn
      clear hc1 hb1r hcr hq7 hnm1 hnm3 hnm4 hbr hn
      go_wp2_with fail
      refine (CNM.out _).mono ?_
      rintro e w2 ⟨rfl, rfl⟩
      go_wp2_with fail
      refine (CBI.out _).mono ?_
      rintro e w2 ⟨rfl, hb2⟩
      have q7 := HQ7.out w2 hb2
      have HB2 := Lib.hid hb2
      clear hb2
      by_cases h0 : i = 0
      · subst h0
        go_wp2_with fail
        refine (CCO.out _ HB2.out).mono ?_
        rintro e w3 ⟨rfl, rfl⟩
        go_wp2_with fail
        go_roundg j
        case measure => omega
        case rel => exact ⟨1, rfl, by omega, HBR.out.trans (HB2.out.mono hrz)⟩
      · obtain ⟨p, rfl⟩ : ∃ p, i = p + 1 := ⟨i - 1, by omega⟩
        obtain ⟨u, hu⟩ : ∃ u, defs[p]? = some u := ⟨defs[p], List.getElem?_eq_some_iff.2 ⟨by omega, rfl⟩⟩
        have r1 := HCR.out w2 HB2.out p u hu
        obtain ⟨hu1, hu2⟩ := HUP.out p u n hu HN.out
        clear hu
        go_wp2_with fail
        refine (CCO.out _ HB2.out).mono ?_
        rintro e w3 ⟨rfl, rfl⟩
        go_wp2_with fail
        go_roundg j
        case measure => omega
        case rel => exact ⟨p + 2, by go_num, by omega, HBR.out.trans (HB2.out.mono hrz)⟩
    · obtain rfl : i = defs.length := by omega
      have HBR := Lib.hid hbr
      clear hbr
      go_wp2_with fail
      go_ret
      exact ⟨rfl, HB0.out.trans ((HB1.out.trans (HBR.out.mono hs1)).mono HB0.out.size)⟩
end Go.Proofs.YtnphgcbknfmapaaGreatDoor
