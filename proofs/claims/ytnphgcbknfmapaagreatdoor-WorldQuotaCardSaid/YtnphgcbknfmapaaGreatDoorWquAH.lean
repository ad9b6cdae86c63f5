/- Contracts of the functions that the statement reaches, and the plain mathematics beneath: several texts joined. -/
import Derived.Laws.Cover1
import Derived.Laws.ResultCell
import Derived.Test.YtnphgcbknfmapaaGreatDoorWquAG
import Derived.Test.YtnphgcbknfmapaaGreatDoorWquAF
import Derived.Test.YtnphgcbknfmapaaGreatDoorWquAC
namespace Go.Proofs.YtnphgcbknfmapaaGreatDoor
open Go.RowKit Go.Lib
set_option linter.unusedVariables false

/-- The names of an object. -/
def dfO (l : List OB) (d : Int) : List ByteArray := match getO l d with
  | none => []
  | some x => x.defs
/-- The names up a row of objects. -/
def nmR (l : List OB) (r : List Int) : List ByteArray := r.flatMap (dfO l)
def nmO (l : List OB) (o : Int) : List ByteArray := nmR l (aboveO l o)
def strsO (l : List ByteArray) : List Value := l.map Value.string
theorem strsO_app (a b : List ByteArray) : strsO (a ++ b) = strsO a ++ strsO b := List.map_append
theorem strsO_one (l : List ByteArray) : ∀ u ∈ strsO l, u.oneCell' = true := by
  intro u hu
  obtain ⟨x, _, rfl⟩ := List.mem_map.1 hu
  rfl
theorem nmR_take {l : List OB} {r : List Int} {k : Nat} {d : Int} (h : r[k]? = some d) : nmR l (r.take (k + 1)) = nmR l (r.take k) ++ dfO l d := by
  unfold nmR
  rw [List.take_succ_eq_append_getElem (List.getElem?_eq_some_iff.1 h).1, List.flatMap_append]
  simp [(List.getElem?_eq_some_iff.1 h).2]
theorem nmR_le (l : List OB) (r : List Int) (k : Nat) : (nmR l (r.take k)).length ≤ (nmR l r).length := by
  have h : nmR l r = nmR l (r.take k) ++ nmR l (r.drop k) := by
    unfold nmR
    rw [← List.flatMap_append, List.take_append_drop]
  rw [h, List.length_append]
  omega
theorem dfO_some {l : List OB} {d : Int} {x : OB} (h : getO l d = some x) : dfO l d = x.defs := by unfold dfO; rw [h]
def lstsO (l : List ByteArray) : List (List UInt8) := l.map fun n => n.data.toList
open Go.Sort in
/-- The texts rise. -/
def RiseS (l : List ByteArray) : Prop := (lstsO l).mergeSort (fun x y => decide (x ≤ y)) = lstsO l
theorem lstsO_len (l : List ByteArray) : (lstsO l).length = l.length := by simp [lstsO]
theorem strsO_lists (l : List ByteArray) : strsO l = (lstsO l).map fun t => Value.string ⟨t.toArray⟩ := by
  unfold strsO lstsO
  rw [List.map_map]
  apply List.map_congr_left
  intro n _
  simp

set_option maxRecDepth 100000 in
set_option maxHeartbeats 2000000 in
theorem names_g {w : World} {B a m : Nat} {T : List OM} {c mx o : Int} (h : TabG w B a m T c mx) (ho : I64 o) (hpi : ParI T) (hsm : (nmO (obT T) o).length ≤ 100000) (hri : RiseS (nmO (obT T) o)) :
    Calls Tryz.prog 48 #[.pointer (some ⟨a, 0, none⟩), .int .i64 o] w fun e w' => ∃ v, e = .returned v ∧ w'.ownsRow w.heap.size 9 1 v (nmO (obT T) o).length (strsO (nmO (obT T) o)) ∧ Below w.heap.size w w' := by
  obtain ⟨i0, hi0, hz0, hz1, hz2⟩ := info_parts ostr_info
  have CA := Lib.hid (above_g h ho hpi)
  have HX := Lib.hid (fun x (hx : x ∈ aboveO (obT T) o) => mem_above hx)
  have H := Lib.hid h
  have hr0 := h.rng
  have HRG := Lib.hid hr0
  have hmx := h.mxr
  unfold nmO at hsm hri ⊢
  clear h ho hpi hr0
  generalize aboveO (obT T) o = l at CA HX hsm hri ⊢
  have HRI := Lib.hid hri
  clear hri
  go_enter Tryz.func48, Tryz.ntmps48
  go_wp2_with fail
  refine CA.out.mono ?_
  rintro e w1 ⟨v, rfl, hrow, hb1⟩
  obtain ⟨A, cA, rfl, hnc, hcm, hA, hcell⟩ := own_formO hrow
  unfold maxLen at hcm
  have HB1 := Lib.hid hb1
  have HCL := Lib.hid hcell
  have HR := Lib.hid hrow
  have hs1 := hb1.size
  clear hb1 hrow hcell
  go_wp2_with fail
  go_loopg [5, 12] l.length (fun kk ov iv wr => ∃ (k : Nat) (V : Value), V = ov ∧ iv = .int .i64 (k : Int) ∧ k + kk = l.length ∧ wr.ownsRow w1.heap.size 9 1 V (nmR (obT T) (l.take k)).length (strsO (nmR (obT T) (l.take k))) ∧ Below w1.heap.size w1 wr)
  case atStart => exact ⟨0, _, rfl, rfl, by omega, World.ownsRow_nil _ _ _ _, Below.refl _ _⟩
  case round =>
    obtain ⟨k, V, rfl, rfl, hik, hown, hbr⟩ := hrel
    have hrz := hbr.size
    by_cases hk : k < l.length
    · obtain ⟨j, rfl⟩ : ∃ j, gk = j + 1 := ⟨gk - 1, by omega⟩
      obtain ⟨x, hx⟩ : ∃ x, l[k]? = some x := ⟨l[k], List.getElem?_eq_some_iff.2 ⟨hk, rfl⟩⟩
      obtain ⟨g1, rfl, hc1⟩ := HCL.out k (.int .i64 x) (by simp [intsO, hx])
      have hg1 := HR.out.lt g1 rfl
      obtain ⟨y, hym, hfy⟩ := HX.out x (List.mem_of_getElem? hx)
      have hbw : Below w.heap.size w wr := HB1.out.trans (hbr.mono hs1)
      have ht := H.out.below hbw
      have c0 := ht.c0
      have hyx := (findT_some hfy).2
      have hry := HRG.out y hym
      have hl := ht.look (o := x) ⟨by omega, by omega⟩
      rw [ptrT_some hfy] at hl
      have hcr : wr.cell? ⟨g1, k, none⟩ = some (.int .i64 x) := (hbr.cell (p := ⟨g1, k, none⟩) hg1.2).trans hc1
      have h7 : wr.cell? ⟨y.g, 7, none⟩ = some y.dv := H.out.cellX hbw hym 7
      have hle := nmR_le (obT T) l (k + 1)
      rw [nmR_take hx, dfO_some (getO_some' hfy), List.length_append] at hle
      obtain ⟨Av, cv, rfl⟩ : ∃ A C, V = .slice A (nmR (obT T) (l.take k)).length C := by obtain ⟨A, C, e, _⟩ := own_formO hown; exact ⟨A, C, e⟩
      obtain ⟨Ad, cd, hdv⟩ : ∃ A C, y.dv = .slice A y.o.defs.length C := by obtain ⟨A, C, e, _⟩ := own_formO (ht.rowD hym); exact ⟨A, C, e⟩
      have hsrc := ht.rowD hym
      rw [hdv] at hsrc h7
      have HSRC := Lib.hid hsrc
      have HOWN := Lib.hid hown
      have HBR := Lib.hid hbr
      have HNX := Lib.hid (show nmR (obT T) (l.take (k + 1)) = nmR (obT T) (l.take k) ++ y.o.defs by rw [nmR_take hx, dfO_some (getO_some' hfy)])
      clear hbr hx hfy hbw ht hc1 hry hyx hown hsrc hdv
      go_wp2_with (at_builtin; refine wpList_append_rowO rfl (.tmp 16) (.tmp 25) 25 rfl w1.heap.size 9 i0 (.string ⟨#[]⟩) 1 16 Tryz.underlying25 hi0 hz0 hz1 hz2 rfl (by decide) (.slice Av (nmR (obT T) (l.take k)).length cv) (nmR (obT T) (l.take k)).length (strsO (nmR (obT T) (l.take k))) rfl HOWN.out (.slice Ad y.o.defs.length cd) B y.o.defs.length (strsO y.o.defs) rfl HSRC.out (strsO_one _) ?c1 ?c2 ?c3 ?_
                   case c1 => unfold maxLen; omega
                   case c2 => omega
                   case c3 => omega
                   intro v' w11 hown' hgrow
                   have HB11 := Lib.hid (Below.grown HBR.out hgrow (by omega) (fun k hk => (HOWN.out.lt k hk).1))
                   have HO11 := Lib.hid hown'
                   clear hown' hgrow)
      go_roundg j
      case measure => omega
      case rel => exact ⟨k + 1, v', rfl, by go_num, by omega, by rw [HNX.out, List.length_append, strsO_app]; exact HO11.out, HB11.out⟩
    · obtain rfl : k = l.length := by omega
      rw [List.take_length] at hown
      obtain ⟨Av, cv, rfl, hnv, hcv, hAv, _⟩ := own_formO hown
      have HBR := Lib.hid hbr
      clear hbr
      by_cases h0 : (nmR (obT T) l).length = 0
      · have HOWN := Lib.hid hown
        have HV := Lib.hid h0
        have CS := Lib.hid (show ∀ W, Calls Tryz.prog 66 #[.slice Av (nmR (obT T) l).length cv] W fun e w' => e = .returned (.tuple #[]) ∧ w' = W by intro W; rw [h0]; exact Tryz.slices_Sort_string_none Av cv W)
        clear hown h0 hAv
        go_wp2_with fail
        refine (CS.out _).mono ?_
        rintro e w2 ⟨rfl, rfl⟩
        go_wp2_with fail
        go_ret
        exact ⟨_, rfl, ownsRow_base HOWN.out hs1, HB1.out.trans (HBR.out.mono hs1)⟩
      · obtain ⟨g, rfl⟩ : ∃ g, Av = some ⟨g, 0, none⟩ := by
          rcases hown.2 with ⟨e1, _⟩ | ⟨g, cap, cur, e1, _⟩
          · injection e1 with _ e2 _; exact absurd e2 h0
          · injection e1 with e1 _ _; exact ⟨g, e1⟩
        have HOWN := Lib.hid hown
        have h2 := hown
        rw [strsO_lists] at h2
        have CS := Lib.hid (sort_rises (ss := lstsO (nmR (obT T) l)) (g := g) (cap := cv) (base := w1.heap.size) (w := wr) (by rw [lstsO_len]; exact h2) (by rw [lstsO_len]; omega) HRI.out)
        rw [lstsO_len] at CS
        clear hown h2 h0 hAv
        go_wp2_with fail
        refine CS.out.mono ?_
        rintro e w2 ⟨rfl, hb2⟩
        have HB2 := Lib.hid hb2
        clear hb2
        go_wp2_with fail
        go_ret
        exact ⟨_, rfl, ownsRow_base (own_keepO HOWN.out HB2.out) hs1, HB1.out.trans ((HBR.out.trans (HB2.out.mono hrz)).mono hs1)⟩
end Go.Proofs.YtnphgcbknfmapaaGreatDoor
namespace Go.Proofs.YtnphgcbknfmapaaGreatDoor
open Go.RowKit Go.Lib
set_option linter.unusedVariables false

theorem contS_c {W : World} {B : Nat} {v : Value} {l : List ByteArray} (h : W.ownsRow B 9 1 v l.length (strsO l)) (x : ByteArray) (hl : l.length ≤ 1000000) {r : Bool} (hr : containsS l x = r) :
    Calls Tryz.prog 52 #[v, .string x] W fun e w' => e = .returned (.bool r) ∧ W = w' := by
  subst hr
  obtain ⟨A, c, rfl, hnc, hcm, hA, hcell⟩ := own_formO h
  cases l with
  | nil =>
    refine (Tryz.slices_Contains_string_empty A c x W).mono ?_
    rintro e w1 ⟨rfl, rfl⟩
    exact ⟨rfl, rfl⟩
  | cons n r =>
    obtain ⟨g, rfl, _⟩ := hcell 0 (.string n) rfl
    refine (Tryz.slices_Contains_string g 0 (n :: r).length c (n :: r) x W (Nat.le_refl _) (by omega) ?_).mono ?_
    · intro j hj
      obtain ⟨g2, e, hc⟩ := hcell j (.string ((n :: r).getD j ByteArray.empty)) (by rw [strsO, List.getElem?_map, List.getD_eq_getElem?_getD, List.getElem?_eq_getElem hj]; rfl)
      injection e with e
      injection e with e _ _
      subst e
      rw [Nat.zero_add]
      exact hc
    · rintro e w1 ⟨rfl, rfl⟩
      rw [List.take_length]
      exact ⟨rfl, rfl⟩

set_option maxHeartbeats 1000000 in
theorem same_0 (w : World) : Calls Tryz.prog 113 #[.agg #[.int .i64 0, .int .i64 0, .string ⟨#[]⟩, .slice none 0 0], .agg #[.int .i64 0, .int .i64 0, .string ⟨#[]⟩, .slice none 0 0]] w fun e w' => e = .returned (.bool true) ∧ Below w.heap.size w w' := by
  have HB := Lib.hid (((Below.refl w.heap.size w).alloc (Nat.le_refl _) (.cells #[.int .i64 0, .int .i64 0, .string ⟨#[]⟩, .slice none 0 0] 33)).alloc (by simp) (.cells #[.int .i64 0, .int .i64 0, .string ⟨#[]⟩, .slice none 0 0] 33))
  go_enter Tryz.func113, Tryz.ntmps113
  go_wp2_with fail
  refine wp_loop_rounds 1 ?_
  rw [rounds_succ]
  go_wp2_with fail
  go_ret
  exact ⟨rfl, HB.out⟩

set_option maxRecDepth 100000 in
set_option maxHeartbeats 4000000 in
theorem defs_c {w : World} {B Bd a m : Nat} {T : List OM} {c mx : Int} (h : TabG w B a m T c mx) (x : OM) (hd : w.ownsRow Bd 9 1 x.dv x.o.defs.length (strsO x.o.defs)) (hpi : ParI T) (hp : I64 x.o.parent)
    (hdl : x.o.defs.length ≤ 64) (hsm : (nmO (obT T) x.o.parent).length ≤ 100000) (hri : RiseS (nmO (obT T) x.o.parent))
    (hnm : ∀ n ∈ x.o.defs, nmB n.data.toList = true ∧ n.size ≤ 32 ∧ biB n = false ∧ containsS (nmO (obT T) x.o.parent) n = false)
    (hup : ∀ (i : Nat) (p q : ByteArray), x.o.defs[i]? = some p → x.o.defs[i + 1]? = some q → Op.bytesLess q.toList p.toList = false ∧ (q.toList == p.toList) = false) :
    Calls Tryz.prog 90 #[.pointer (some ⟨a, 0, none⟩), .agg x.cells] w fun e w' => e = .returned (.bool true) ∧ Below w.heap.size w w' := by
  obtain ⟨w0, hw0⟩ : ∃ w0, w0 = w.alloc (.cells x.cells 29) := ⟨_, rfl⟩
  have hb0 : Below w.heap.size w w0 := by rw [hw0]; exact (Below.refl _ _).alloc (Nat.le_refl _) _
  have hg0 : w0.heap[w.heap.size]? = some (.cells x.cells 29 (0, 0)) := by rw [hw0]; exact heap_alloc_new w _
  have hz0 : w0.heap.size = w.heap.size + 1 := by rw [hw0]; simp
  have CN := Lib.hid (names_g (h.below hb0) hp hpi hsm hri)
  obtain ⟨⟨id, parent, owner, place, flags, quota, name, defs, slots⟩, gx, dv0, sv0⟩ := x
  obtain ⟨A, cd, hdv, hnc, hcm, hA, hcell⟩ := own_formO (own_keepO hd hb0)
  simp only at hdv hd hdl hsm hri hnm hup hnc hcell CN hp ⊢
  subst hdv
  have HB0 := Lib.hid hb0
  have HG0 := Lib.hid hg0
  have HZ0 := Lib.hid hz0
  have HCL := Lib.hid hcell
  have HLT := Lib.hid (fun g (e : A = some ⟨g, 0, none⟩) => (own_keepO hd hb0).lt g (by rw [e]; rfl))
  have HNM := Lib.hid hnm
  have HUP := Lib.hid hup
  have HW0 := Lib.hid hw0
  unfold OM.cells at hw0
  simp only at hw0
  have HW := Lib.hid hw0
  obtain ⟨N, hN⟩ : ∃ N, N = nmO (obT T) parent := ⟨_, rfl⟩
  rw [← hN] at CN hsm HNM
  clear h hd hpi hri hnm hup hb0 hg0 hz0 hcell hw0 hA hN hp
  unfold OM.cells
  simp only
  go_enter Tryz.func90, Tryz.ntmps90
  go_wp2_with fail
  rw [← HW.out]
  refine CN.out.mono ?_
  rintro e w1 ⟨v, rfl, hrow, hb1⟩
  obtain ⟨A2, c2, rfl, _⟩ := own_formO hrow
  have hs1 := hb1.size
  have q7 : w1.cell? ⟨w.heap.size, 7, none⟩ = some (.slice A defs.length cd) := cell_of_row w1 _ 7 _ _ _ ((hb1.block _ (by rw [HZ0.out]; omega)).trans HG0.out)
  have HB1 := Lib.hid hb1
  have HROW := Lib.hid hrow
  clear hb1 hrow
  go_wp2_with fail
  go_loopg [19] defs.length (fun kk iv wr => ∃ (i : Nat), iv = .int .i64 (i : Int) ∧ i + kk = defs.length ∧ Below w1.heap.size w1 wr)
  case atStart => exact ⟨0, rfl, by omega, Below.refl _ _⟩
  case round =>
    obtain ⟨i, rfl, hik, hbr⟩ := hrel
    have hrz := hbr.size
    by_cases hi : i < defs.length
    · obtain ⟨j, rfl⟩ : ∃ j, gk = j + 1 := ⟨gk - 1, by omega⟩
      obtain ⟨n, hn⟩ : ∃ n, defs[i]? = some n := ⟨defs[i], List.getElem?_eq_some_iff.2 ⟨hi, rfl⟩⟩
      obtain ⟨g1, rfl, hc1⟩ := HCL.out i (.string n) (by simp [strsO, hn])
      have hg1 := HLT.out g1 rfl
      have hb1r := HB1.out.trans (hbr.mono hs1)
      have hcr : ∀ W, Below wr.heap.size wr W → ∀ (k : Nat) (q : ByteArray), defs[k]? = some q → W.cell? ⟨g1, k, none⟩ = some (.string q) := by
        intro W hW k q hq
        obtain ⟨g2, e2, hc2⟩ := HCL.out k (.string q) (by simp [strsO, hq])
        injection e2 with e2
        injection e2 with e2 _ _
        subst e2
        exact ((hb1r.trans (hW.mono hb1r.size)).cell (p := ⟨g1, k, none⟩) hg1.2).trans hc2
      have r0 := hcr wr (Below.refl _ _) i n hn
      have hq7 : ∀ W, Below wr.heap.size wr W → W.cell? ⟨w.heap.size, 7, none⟩ = some (.slice (some ⟨g1, 0, none⟩) defs.length cd) := fun W hW =>
        cell_of_row W _ 7 _ _ _ (((hb1r.trans (hW.mono hb1r.size)).block _ (by rw [HZ0.out]; omega)).trans HG0.out)
      obtain ⟨hnm1, hnm2, hnm3, hnm4⟩ := HNM.out n (List.mem_of_getElem? hn)
      have CNM := Lib.hid (fun W => name_any n W (by omega))
      rw [hnm1] at CNM
      have CBI := Lib.hid (fun W => obuiltin_c n W)
      rw [hnm3] at CBI
      have CCO := Lib.hid (fun W (hW : Below wr.heap.size wr W) => contS_c (own_keepO HROW.out (hbr.trans (hW.mono hrz))) n (by omega) hnm4)
      have HCR := Lib.hid hcr
      have HQ7 := Lib.hid hq7
      have HBR := Lib.hid hbr
      have HN := Lib.hid hn
      clear hc1 hb1r hcr hq7 hnm1 hnm3 hnm4 hbr hn
      go_wp2_with fail
      refine (CNM.out _).mono ?_
      rintro e w2 ⟨rfl, rfl⟩
      go_wp2_with fail
      refine (CBI.out _).mono ?_
      rintro e w2 ⟨rfl, hb2⟩
      have q7 := HQ7.out w2 hb2
      have HB2 := Lib.hid hb2
      clear hb2
      by_cases h0 : i = 0
      · subst h0
        go_wp2_with fail
        refine (CCO.out _ HB2.out).mono ?_
        rintro e w3 ⟨rfl, rfl⟩
        go_wp2_with fail
        go_roundg j
        case measure => omega
        case rel => exact ⟨1, rfl, by omega, HBR.out.trans (HB2.out.mono hrz)⟩
      · obtain ⟨p, rfl⟩ : ∃ p, i = p + 1 := ⟨i - 1, by omega⟩
        obtain ⟨u, hu⟩ : ∃ u, defs[p]? = some u := ⟨defs[p], List.getElem?_eq_some_iff.2 ⟨by omega, rfl⟩⟩
        have r1 := HCR.out w2 HB2.out p u hu
        obtain ⟨hu1, hu2⟩ := HUP.out p u n hu HN.out
        clear hu
        go_wp2_with fail
        refine (CCO.out _ HB2.out).mono ?_
        rintro e w3 ⟨rfl, rfl⟩
        go_wp2_with fail
        go_roundg j
        case measure => omega
        case rel => exact ⟨p + 2, by go_num, by omega, HBR.out.trans (HB2.out.mono hrz)⟩
    · obtain rfl : i = defs.length := by omega
      have HBR := Lib.hid hbr
      clear hbr
      go_wp2_with fail
      go_ret
      exact ⟨rfl, HB0.out.trans ((HB1.out.trans (HBR.out.mono hs1)).mono HB0.out.size)⟩
end Go.Proofs.YtnphgcbknfmapaaGreatDoor
namespace Go.Proofs.YtnphgcbknfmapaaGreatDoor
open Go.RowKit Go.Lib
set_option linter.unusedVariables false

/-- A copy of an object: its rows are its own. -/
structure CpO (w w' : World) (x : OB) (dv sv : Value) : Prop where
  defs : w'.ownsRow w.heap.size 9 1 dv x.defs.length (strsO x.defs)
  slots : w'.ownsRow w.heap.size 35 8 sv x.slots.length (x.slots.flatMap SL.cells)
  apart : ∀ b, dv.ownBlock = some b → sv.ownBlock ≠ some b
  nild : x.defs = [] → dv = .slice none 0 0
  nils : x.slots = [] → sv = .slice none 0 0
  below : Below w.heap.size w w'

/-- A row of names copied. -/
theorem clone_s {w : World} {B : Nat} {v : Value} {l : List ByteArray} (h : w.ownsRow B 9 1 v l.length (strsO l)) (hn : l = [] → v = .slice none 0 0) (hl : l.length ≤ 1000) :
    Calls Tryz.prog 83 #[v] w fun e w' => ∃ v', e = .returned v' ∧ w'.ownsRow w.heap.size 9 1 v' l.length (strsO l) ∧ (l = [] → v' = .slice none 0 0) ∧ Below w.heap.size w w' := by
  cases l with
  | nil =>
    rw [hn rfl]
    refine (Tryz.slices_Clone_string_nil 0 0 _).mono ?_
    rintro e w1 ⟨rfl, rfl⟩
    exact ⟨_, rfl, World.ownsRow_nil _ _ _ _, fun _ => rfl, Below.refl _ _⟩
  | cons n r =>
    obtain ⟨A, c, rfl, hnc, hcm, hA, hcell⟩ := own_formO h
    obtain ⟨g, rfl, _⟩ := hcell 0 (.string n) rfl
    refine (Tryz.slices_Clone_string g 0 (n :: r).length c (n :: r) w (Nat.le_refl _) (by omega) ?_).mono ?_
    · intro j hj
      obtain ⟨g2, e, hc⟩ := hcell j (.string ((n :: r).getD j ByteArray.empty)) (by rw [strsO, List.getElem?_map, List.getD_eq_getElem?_getD, List.getElem?_eq_getElem hj]; rfl)
      injection e with e
      injection e with e _ _
      subst e
      rw [Nat.zero_add]
      exact hc
    · rintro e w1 ⟨v', rfl, hown, _, hb⟩
      rw [List.take_length] at hown
      exact ⟨_, rfl, hown, fun e => (by cases e), hb⟩

set_option maxRecDepth 100000 in
set_option maxHeartbeats 4000000 in
theorem object_r {w : World} {Bd Bs : Nat} (x : OM) (hd : w.ownsRow Bd 9 1 x.dv x.o.defs.length (strsO x.o.defs)) (hs : w.ownsRow Bs 35 8 x.sv x.o.slots.length (x.o.slots.flatMap SL.cells)) (hnd : x.o.defs = [] → x.dv = .slice none 0 0) (hfl : ∀ s ∈ x.o.slots, FlatS s) (hdl : x.o.defs.length ≤ 1000) (hsl : x.o.slots.length ≤ 1000) :
    Calls Tryz.prog 43 #[.agg x.cells] w fun e w' => ∃ dv sv, e = .returned (.agg ({ x with dv := dv, sv := sv } : OM).cells) ∧ CpO w w' x.o dv sv := by
  obtain ⟨i0, hi0, hz0, hz1, hz2⟩ := info_parts slot_info
  have hcl := fun W (hb : Below w.heap.size w W) => clone_s (own_keepO hd hb) hnd hdl
  obtain ⟨⟨id, parent, owner, place, flags, quota, name, defs, slots⟩, gx, dv0, sv0⟩ := x
  obtain ⟨A, c, hsv, hnc, hcm, hA, hcell⟩ := own_formO hs
  simp only at hsv hs hd hnd hfl hdl hsl hcl hnc hcell ⊢
  subst hsv
  have HCL := Lib.hid hcl
  have HC := Lib.hid hcell
  have HS := Lib.hid hs
  have HFL := Lib.hid hfl
  unfold OM.cells
  simp only
  clear hcl hcell hs hfl hd hnd hA
  go_enter Tryz.func43, Tryz.ntmps43
  go_wp2_with fail
  refine (HCL.out _ (((Below.refl _ _).alloc (Nat.le_refl _) _).alloc (by simp) _)).mono ?_
  rintro e w1 ⟨dv, rfl, hdv, hnd, hb1⟩
  have hA1 := (hb1.block w.heap.size (by simp; omega)).trans ((Below.heap_alloc _ _ _ (by simp)).trans (heap_alloc_new w _))
  have hZ1 := (hb1.block (w.heap.size + 1) (by simp)).trans (heap_alloc2_new _ _ _)
  obtain ⟨Ad, cd, rfl, _⟩ := own_formO hdv
  obtain ⟨w2, hw2⟩ : ∃ w2, w2 = w1.setCell ⟨w.heap.size, 7, none⟩ (.slice Ad defs.length cd) := ⟨_, rfl⟩
  have hs1 : w.heap.size + 2 ≤ w1.heap.size := by have := hb1.size; simpa using this
  have hs2 : w2.heap.size = w1.heap.size := by rw [hw2]; simp [World.setCell]
  have hbw1 : Below w.heap.size w w1 := (((Below.refl w.heap.size w).alloc (Nat.le_refl _) _).alloc (by simp) _).trans (hb1.mono (by simp; omega))
  have hb2 : Below w.heap.size w w2 := by rw [hw2]; exact hbw1.setCell (Nat.le_refl _) _
  have hA2 : w2.heap[w.heap.size]? = some (.cells #[.int .i64 id, .int .i64 parent, .int .i64 owner, .int .i64 place, .int .i64 flags, .int .i64 quota, .string name, .slice Ad defs.length cd, .slice A slots.length c, .slice none 0 0] 29 (0, 0)) := by
    rw [hw2]
    exact heap_setCell_same w1 w.heap.size 7 _ _ _ hA1
  have hZ2 : w2.heap[w.heap.size + 1]? = some (.cells #[.int .i64 0, .int .i64 0, .int .i64 0, .int .i64 0, .int .i64 0, .int .i64 0, .string ⟨#[]⟩, .slice none 0 0, .slice none 0 0, .slice none 0 0] 29 (0, 0)) := by
    rw [hw2]
    exact (Below.heap_setCell _ _ _ _ (by simp)).trans hZ1
  have hdv2 : w2.ownsRow (w.heap.size + 2) 9 1 (.slice Ad defs.length cd) defs.length (strsO defs) := by
    rw [hw2]
    exact ownsRow_same (ownsRow_base hdv (by simp)) fun b hb => Below.heap_setCell _ _ _ _ (by have := (hdv.lt b hb).1; simp at this; simp; omega)
  have f7 := frozen_of_row w1 w.heap.size 7 _ _ hA1
  have a7 := cell_of_row w1 w.heap.size 7 _ _ _ hA1
  have b8 := cell_of_row w2 w.heap.size 8 _ _ _ hA2
  have b8' : (w1.setCell ⟨w.heap.size, 7, none⟩ (.slice Ad defs.length cd)).cell? ⟨w.heap.size, 8, none⟩ = some (.slice A slots.length c) := by rw [← hw2]; exact b8
  have HW2 := Lib.hid hw2
  have HB2 := Lib.hid hb2
  have HA2 := Lib.hid hA2
  have HZ2 := Lib.hid hZ2
  have HDV := Lib.hid hdv2
  have HND := Lib.hid hnd
  clear hA1 hZ1 hw2 hbw1 hb2 hA2 hZ2 hdv hdv2 hnd hb1 b8
  go_wp2_with fail
  rw [← HW2.out]
  go_loopg [3, 16] slots.length (fun kk ov iv wr => ∃ (i : Nat) (V : Value), V = ov ∧ iv = .int .i64 (i : Int) ∧ i + kk = slots.length ∧ wr.ownsRow w2.heap.size 35 8 V i ((slots.take i).flatMap SL.cells) ∧ (i = 0 → V = .slice none 0 0) ∧ Below w2.heap.size w2 wr)
  case atStart => exact ⟨0, _, rfl, rfl, by omega, World.ownsRow_nil _ _ _ _, fun _ => rfl, Below.refl _ _⟩
  case round =>
    obtain ⟨i, V, rfl, rfl, hik, hown, hnil, hbr⟩ := hrel
    have hrz := hbr.size
    obtain ⟨Av, cv, rfl⟩ : ∃ A C, V = .slice A i C := by obtain ⟨A, C, e, _⟩ := own_formO hown; exact ⟨A, C, e⟩
    by_cases hi : i < slots.length
    · obtain ⟨j, rfl⟩ : ∃ j, gk = j + 1 := ⟨gk - 1, by omega⟩
      obtain ⟨s, hs⟩ : ∃ s, slots[i]? = some s := ⟨slots[i], List.getElem?_eq_some_iff.2 ⟨hi, rfl⟩⟩
      have hfl := HFL.out s (List.mem_of_getElem? hs)
      have hnext : (slots.take i).flatMap SL.cells ++ s.cells = (slots.take (i + 1)).flatMap SL.cells := by
        rw [List.take_add_one, hs, List.flatMap_append]
        simp
      obtain ⟨nm, ow, bits, clr, kind, num, text⟩ := s
      obtain ⟨_, _, e1, e2⟩ := hfl
      simp only at e1 e2
      subst e1
      subst e2
      have hbw := HB2.out.trans (hbr.mono HB2.out.size)
      have hrd : ∃ g1, A = some ⟨g1, 0, none⟩ ∧ ∀ j, j < 8 → ∀ u, (SL.mk nm ow bits clr 0 num ⟨#[]⟩).cells[j]? = some u → wr.cell? ⟨g1, i * 8 + j, none⟩ = some u := by
        obtain ⟨g1, e, _⟩ := HC.out (i * 8 + 0) (.string nm) (by rw [slCells_at _ _ _ 0 hs (by omega)]; rfl)
        refine ⟨g1, e, fun j hj u hu => ?_⟩
        obtain ⟨g2, e2, hc⟩ := HC.out (i * 8 + j) u (by rw [slCells_at _ _ _ j hs hj]; exact hu)
        rw [e] at e2
        injection e2 with e2
        injection e2 with e2 _ _
        subst e2
        exact (hbw.cell (p := ⟨g1, i * 8 + j, none⟩) (HS.out.lt g1 (by rw [e]; rfl)).2).trans hc
      obtain ⟨g1, rfl, hrd⟩ := hrd
      have r0 := hrd 0 (by omega) _ rfl
      rw [Nat.add_zero] at r0
      have r1 := hrd 1 (by omega) _ rfl
      have r2 := hrd 2 (by omega) _ rfl
      have r3 := hrd 3 (by omega) _ rfl
      have r4 := hrd 4 (by omega) _ rfl
      have r5 := hrd 5 (by omega) _ rfl
      have r6 := hrd 6 (by omega) _ rfl
      have r7 := hrd 7 (by omega) _ rfl
      have CC := Lib.hid (show ∀ W, Calls Tryz.prog 59 #[.agg #[.int .i64 0, .int .i64 num, .string ⟨#[]⟩, .slice none 0 0]] W (fun e w' => e = .returned (.agg #[.int .i64 0, .int .i64 num, .string ⟨#[]⟩, .slice none 0 0]) ∧ Below W.heap.size W w') from fun W => clone_int num W)
      have HOW := Lib.hid hown
      have HBR := Lib.hid hbr
      have HNX := Lib.hid hnext
      have HIC := Lib.hid (show i < 1000 from by omega)
      clear hbw hrd hs hown hbr hnext hnil
      go_wp2_with fail
      refine (CC.out _).mono ?_
      rintro e w7 ⟨rfl, hb7⟩
      have hr7 := (hb7.block wr.heap.size (by simp)).trans (heap_alloc_new wr _)
      have hbr7 : Below wr.heap.size wr w7 := ((Below.refl _ wr).alloc (Nat.le_refl _) _).trans (hb7.mono (by simp))
      obtain ⟨w8, hw8⟩ : ∃ w8, w8 = w7.setCells wr.heap.size 4 [.int .i64 0, .int .i64 num, .string ⟨#[]⟩, .slice none 0 0] := ⟨_, rfl⟩
      have hr8 : w8.heap[wr.heap.size]? = some (.cells #[.string nm, .int .i64 ow, .int .i64 bits, .bool clr, .int .i64 0, .int .i64 num, .string ⟨#[]⟩, .slice none 0 0] 35 (0, 0)) := by
        rw [hw8]
        exact setCells_row _ _ _ _ _ _ hr7
      have hb8 : Below wr.heap.size wr w8 := by
        rw [hw8]
        exact below_setCells (Nat.le_refl _) _ _ _ hbr7
      have y0 := cell_of_row w8 wr.heap.size 0 _ _ _ hr8
      have y1 := cell_of_row w8 wr.heap.size 1 _ _ _ hr8
      have y2 := cell_of_row w8 wr.heap.size 2 _ _ _ hr8
      have y3 := cell_of_row w8 wr.heap.size 3 _ _ _ hr8
      have y4 := cell_of_row w8 wr.heap.size 4 _ _ _ hr8
      have y5 := cell_of_row w8 wr.heap.size 5 _ _ _ hr8
      have y6 := cell_of_row w8 wr.heap.size 6 _ _ _ hr8
      have y7 := cell_of_row w8 wr.heap.size 7 _ _ _ hr8
      have HTH := Lib.hid (there_row (o := 4) (n := 4) hr7 (by simp))
      have HW8 := Lib.hid hw8
      have HB8 := Lib.hid hb8
      have hz8 := hb8.size
      clear hb7 hr7 hbr7 hw8 hr8 hb8 r0 r1 r2 r3 r4 r5 r6 r7
      go_wp2_with (first
        | (refine wpList_store_mid rfl 33 (.tmp 23) (.tmp 22) rfl wr.heap.size 4 #[.int .i64 0, .int .i64 num, .string ⟨#[]⟩, .slice none 0 0] rfl rfl HTH.out (by kernel_rfl) (by simp [Value.oneCell']) ?_
           rw [show w7.setCells wr.heap.size 4 (#[.int .i64 0, .int .i64 num, .string ⟨#[]⟩, .slice none 0 0] : Array Value).toList = w8 from HW8.out.symm])
        | (at_builtin; refine wpList_append_own _ rfl (.tmp 24) (.tmp 26) 26 rfl w2.heap.size 35 i0 _ 8 96 Tryz.underlying26 hi0 hz0 hz1 hz2 rfl (by decide) (.slice Av i cv) i ((slots.take i).flatMap SL.cells) rfl (own_keepO (own_keepO HOW.out HB8.out) ((Below.refl _ _).alloc (Nat.le_refl _) _)) ⟨w8.heap.size, 0, none⟩ 1 1 [.string nm, .int .i64 ow, .int .i64 bits, .bool clr, .int .i64 0, .int .i64 num, .string ⟨#[]⟩, .slice none 0 0] rfl rfl ?c1 ?c2 ?c3 ?c4 ?c5 ?c6
           case c1 => exact news8 _ _ _ _ _ _ _ _ _ _
           case c2 => exact one8 _ _ _ _ _ _ _
           case c3 => unfold maxLen; have := HIC.out; omega
           case c4 => have := HIC.out; omega
           case c5 => simp; omega
           intro v' w11 hown' hgrow hat
           have HB11 := Lib.hid (Below.grown ((HBR.out.trans (HB8.out.mono hrz)).alloc (by omega) _) hgrow (by simp; omega) (fun k hk => (HOW.out.lt k hk).1))
           have HO11 := Lib.hid hown'
           clear hown' hgrow hat))
      go_roundg j
      case measure => omega
      case rel => exact ⟨i + 1, v', rfl, by go_num, by omega, by rw [← HNX.out]; exact HO11.out, (fun e => by omega), HB11.out⟩
    · obtain rfl : i = slots.length := by omega
      rw [List.take_length] at hown
      have hgr := (hbr.block w.heap.size (by omega)).trans HA2.out
      have hzr := (hbr.block (w.heap.size + 1) (by omega)).trans HZ2.out
      have hdr : wr.ownsRow (w.heap.size + 2) 9 1 (.slice Ad defs.length cd) defs.length (strsO defs) := ownsRow_same HDV.out fun b hb => hbr.block b (HDV.out.lt b hb).2
      have hap : ∀ b, (Value.slice Ad defs.length cd).ownBlock = some b → (Value.slice Av slots.length cv).ownBlock ≠ some b := by
        intro b hb hb2
        have h1 := (HDV.out.lt b hb).2
        have h2 := (hown.lt b hb2).1
        omega
      have hni : slots = [] → Value.slice Av slots.length cv = .slice none 0 0 := fun e => hnil (by rw [e]; rfl)
      have hbw := HB2.out.trans (hbr.mono HB2.out.size)
      obtain ⟨w3, hw3⟩ : ∃ w3, w3 = (wr.setCell ⟨w.heap.size, 8, none⟩ (.slice Av slots.length cv)).setCell ⟨w.heap.size, 9, none⟩ (.slice none 0 0) := ⟨_, rfl⟩
      have hg3 : w3.heap[w.heap.size]? = some (.cells #[.int .i64 id, .int .i64 parent, .int .i64 owner, .int .i64 place, .int .i64 flags, .int .i64 quota, .string name, .slice Ad defs.length cd, .slice Av slots.length cv, .slice none 0 0] 29 (0, 0)) := by
        rw [hw3]
        exact heap_setCell_same _ w.heap.size 9 _ _ _ (heap_setCell_same _ w.heap.size 8 _ _ _ hgr)
      have hk3 : ∀ b, b ≠ w.heap.size → w3.heap[b]? = wr.heap[b]? := by
        intro b hb
        rw [hw3]
        exact (Below.heap_setCell _ _ _ _ hb).trans (Below.heap_setCell _ _ _ _ hb)
      have hz3 := (hk3 (w.heap.size + 1) (by omega)).trans hzr
      have hb3 : Below w.heap.size w w3 := by rw [hw3]; exact (hbw.setCell (Nat.le_refl _) _).setCell (Nat.le_refl _) _
      have f8 := frozen_of_row wr w.heap.size 8 _ _ hgr
      have f9 := frozen_of_row wr w.heap.size 9 _ _ hgr
      have a9 := cell_of_row wr w.heap.size 9 _ _ _ hgr
      have a8 := cell_of_row wr w.heap.size 8 _ _ _ hgr
      have y0 := cell_of_row w3 w.heap.size 0 _ _ _ hg3
      have y1 := cell_of_row w3 w.heap.size 1 _ _ _ hg3
      have y2 := cell_of_row w3 w.heap.size 2 _ _ _ hg3
      have y3 := cell_of_row w3 w.heap.size 3 _ _ _ hg3
      have y4 := cell_of_row w3 w.heap.size 4 _ _ _ hg3
      have y5 := cell_of_row w3 w.heap.size 5 _ _ _ hg3
      have y6 := cell_of_row w3 w.heap.size 6 _ _ _ hg3
      have y7 := cell_of_row w3 w.heap.size 7 _ _ _ hg3
      have y8 := cell_of_row w3 w.heap.size 8 _ _ _ hg3
      have y9 := cell_of_row w3 w.heap.size 9 _ _ _ hg3
      rw [hw3] at y0 y1 y2 y3 y4 y5 y6 y7 y8 y9
      have HW3 := Lib.hid hw3
      have HZ3 := Lib.hid hz3
      have hrw : (w3.setRow (w.heap.size + 1) #[.int .i64 id, .int .i64 parent, .int .i64 owner, .int .i64 place, .int .i64 flags, .int .i64 quota, .string name, .slice Ad defs.length cd, .slice Av slots.length cv, .slice none 0 0]).heap[w.heap.size + 1]? = _ := setRow_heap w3 (w.heap.size + 1) _ _ _ _ hz3
      have HROW := Lib.hid hrw
      have hsr : ∀ b, b ≠ w.heap.size + 1 → (w3.setRow (w.heap.size + 1) #[.int .i64 id, .int .i64 parent, .int .i64 owner, .int .i64 place, .int .i64 flags, .int .i64 quota, .string name, .slice Ad defs.length cd, .slice Av slots.length cv, .slice none 0 0]).heap[b]? = w3.heap[b]? := fun b hb => setRow_other w3 _ b _ hb
      have HCP := Lib.hid (show CpO w (w3.setRow (w.heap.size + 1) #[.int .i64 id, .int .i64 parent, .int .i64 owner, .int .i64 place, .int .i64 flags, .int .i64 quota, .string name, .slice Ad defs.length cd, .slice Av slots.length cv, .slice none 0 0]) ⟨id, parent, owner, place, flags, quota, name, defs, slots⟩ (.slice Ad defs.length cd) (.slice Av slots.length cv) from
        ⟨ownsRow_base (ownsRow_same hdr fun b hb => (hsr b (by have := (hdr.lt b hb).1; omega)).trans (hk3 b (by have := (hdr.lt b hb).1; omega))) (by omega),
         ownsRow_base (ownsRow_same hown fun b hb => (hsr b (by have := (hown.lt b hb).1; omega)).trans (hk3 b (by have := (hown.lt b hb).1; omega))) (by omega), hap, HND.out, hni, sbelow_setRow hb3 (by omega) _⟩)
      clear hown hgr hzr hdr hap hni hbw hw3 hg3 hk3 hz3 hb3 hrw hsr hbr hnil
      go_wp2_with fail
      refine wp_loop_rounds 1 ?_
      rw [rounds_succ]
      go_wp2_with (rw [← HW3.out]; refine wpList_store_row rfl 29 (.tmp 2) (.tmp 49) rfl (w.heap.size + 1) #[.int .i64 id, .int .i64 parent, .int .i64 owner, .int .i64 place, .int .i64 flags, .int .i64 quota, .string name, .slice Ad defs.length cd, .slice Av slots.length cv, .slice none 0 0] rfl rfl _ _ HZ3.out (by kernel_rfl) rfl (by simp [Value.oneCell']) ?_)
      exact bodyPost_ret (results_cell_row (P := Tryz.prog) rfl _ _ (w.heap.size + 1) _ _ _ _ rfl HROW.out Tryz.underlying29 rfl (by kernel_rfl)) rfl ⟨_, _, rfl, HCP.out⟩
end Go.Proofs.YtnphgcbknfmapaaGreatDoor
namespace Go.Proofs.YtnphgcbknfmapaaGreatDoor
open Go.RowKit Go.Lib
set_option linter.unusedVariables false

/-- Such a property of an object is right. -/
def FitS (x : OB) (s : SL) : Prop := FlatS s ∧ -1 ≤ s.owner ∧ s.owner < 1073741824 ∧ (s.clear = true → s.num = 0 ∧ containsS x.defs s.name = false)

set_option maxRecDepth 100000 in
set_option maxHeartbeats 4000000 in
theorem slots_c {w : World} {Bd Bs Bn : Nat} (x : OM) (hd : w.ownsRow Bd 9 1 x.dv x.o.defs.length (strsO x.o.defs)) (hs : w.ownsRow Bs 35 8 x.sv x.o.slots.length (x.o.slots.flatMap SL.cells)) (v : Value)
    (hn : w.ownsRow Bn 9 1 v (x.o.slots.map SL.name).length (strsO (x.o.slots.map SL.name))) (hdl : x.o.defs.length ≤ 1000) (hsl : x.o.slots.length ≤ 1000) (hfit : ∀ s ∈ x.o.slots, FitS x.o s) :
    Calls Tryz.prog 91 #[.agg x.cells, v] w fun e w' => e = .returned (.bool true) ∧ Below w.heap.size w w' := by
  obtain ⟨w0, hw0⟩ : ∃ w0, w0 = w.alloc (.cells x.cells 29) := ⟨_, rfl⟩
  have hb0 : Below w.heap.size w w0 := by rw [hw0]; exact (Below.refl _ _).alloc (Nat.le_refl _) _
  have hg0 : w0.heap[w.heap.size]? = some (.cells x.cells 29 (0, 0)) := by rw [hw0]; exact heap_alloc_new w _
  have hz0 : w0.heap.size = w.heap.size + 1 := by rw [hw0]; simp
  rw [List.length_map] at hn
  obtain ⟨⟨id, parent, owner, place, flags, quota, name, defs, slots⟩, gx, dv0, sv0⟩ := x
  have HD := Lib.hid (own_keepO hd hb0)
  obtain ⟨A, c, hsv, hnc, hcm, hA, hcell⟩ := own_formO (own_keepO hs hb0)
  obtain ⟨An, cn, hv, hnc2, hcm2, hA2, hcell2⟩ := own_formO (own_keepO hn hb0)
  simp only at hsv hd hs hn hdl hsl hfit hnc hcell hnc2 hcell2 ⊢
  subst hsv
  subst hv
  have HB0 := Lib.hid hb0
  have HG0 := Lib.hid hg0
  have HZ0 := Lib.hid hz0
  have HC := Lib.hid hcell
  have HC2 := Lib.hid hcell2
  have HS := Lib.hid (own_keepO hs hb0)
  have HN := Lib.hid (own_keepO hn hb0)
  have HF := Lib.hid hfit
  unfold OM.cells at hw0
  simp only at hw0
  have HW := Lib.hid hw0
  unfold OM.cells
  simp only
  clear hb0 hg0 hz0 hcell hcell2 hs hn hd hw0 hfit hA hA2
  go_enter Tryz.func91, Tryz.ntmps91
  go_wp2_with fail
  rw [← HW.out]
  go_loopg [16] slots.length (fun kk iv wr => ∃ (i : Nat), iv = .int .i64 (i : Int) ∧ i + kk = slots.length ∧ Below w0.heap.size w0 wr)
  case atStart => exact ⟨0, rfl, by omega, Below.refl _ _⟩
  case round =>
    obtain ⟨i, rfl, hik, hbr⟩ := hrel
    have hrz := hbr.size
    by_cases hi : i < slots.length
    · obtain ⟨j, rfl⟩ : ∃ j, gk = j + 1 := ⟨gk - 1, by omega⟩
      obtain ⟨s, hs⟩ : ∃ s, slots[i]? = some s := ⟨slots[i], List.getElem?_eq_some_iff.2 ⟨hi, rfl⟩⟩
      have hfl := HF.out s (List.mem_of_getElem? hs)
      have hsm : (slots.map SL.name)[i]? = some s.name := by rw [List.getElem?_map, hs]; rfl
      obtain ⟨nm, ow, bits, clr, kind, num, text⟩ := s
      obtain ⟨⟨hb1, hb7, e1, e2⟩, ho0, ho1, hclr⟩ := hfl
      simp only at e1 e2 hb1 hb7 ho0 ho1 hclr hsm
      subst e1
      subst e2
      have hrd : ∃ g1, A = some ⟨g1, 0, none⟩ ∧ ∀ j, j < 8 → ∀ u, (SL.mk nm ow bits clr 0 num ⟨#[]⟩).cells[j]? = some u → wr.cell? ⟨g1, i * 8 + j, none⟩ = some u := by
        obtain ⟨g1, e, _⟩ := HC.out (i * 8 + 0) (.string nm) (by rw [slCells_at _ _ _ 0 hs (by omega)]; rfl)
        refine ⟨g1, e, fun j hj u hu => ?_⟩
        obtain ⟨g2, e2, hc⟩ := HC.out (i * 8 + j) u (by rw [slCells_at _ _ _ j hs hj]; exact hu)
        rw [e] at e2
        injection e2 with e2
        injection e2 with e2 _ _
        subst e2
        exact (hbr.cell (p := ⟨g1, i * 8 + j, none⟩) (HS.out.lt g1 (by rw [e]; rfl)).2).trans hc
      obtain ⟨g1, rfl, hrd⟩ := hrd
      obtain ⟨g2, rfl, hc2⟩ := HC2.out i (.string nm) (by rw [strsO, List.getElem?_map, hsm]; rfl)
      have hgn := (HN.out.lt g2 rfl).2
      have r0 := hrd 0 (by omega) _ rfl
      rw [Nat.add_zero] at r0
      have r1 := hrd 1 (by omega) _ rfl
      have r2 := hrd 2 (by omega) _ rfl
      have r3 := hrd 3 (by omega) _ rfl
      have r4 := hrd 4 (by omega) _ rfl
      have r5 := hrd 5 (by omega) _ rfl
      have r6 := hrd 6 (by omega) _ rfl
      have r7 := hrd 7 (by omega) _ rfl
      obtain ⟨wx, hwx⟩ : ∃ wx, wx = wr.alloc (.cells #[.string nm, .int .i64 ow, .int .i64 bits, .bool clr, .int .i64 0, .int .i64 num, .string ⟨#[]⟩, .slice none 0 0] 35) := ⟨_, rfl⟩
      have hbx : Below wr.heap.size wr wx := by rw [hwx]; exact (Below.refl _ _).alloc (Nat.le_refl _) _
      have hxz : wx.heap.size = wr.heap.size + 1 := by rw [hwx]; simp
      have hgx : wx.heap[wr.heap.size]? = some (.cells #[.string nm, .int .i64 ow, .int .i64 bits, .bool clr, .int .i64 0, .int .i64 num, .string ⟨#[]⟩, .slice none 0 0] 35 (0, 0)) := by rw [hwx]; exact heap_alloc_new wr _
      have hgA : ∀ W, Below wx.heap.size wx W → W.cell? ⟨w.heap.size, 7, none⟩ = some dv0 := fun W hW => cell_of_row W _ 7 _ _ _ ((hW.block _ (by have := HZ0.out; omega)).trans ((hbx.block _ (by have := HZ0.out; omega)).trans ((hbr.block _ (by have := HZ0.out; omega)).trans HG0.out)))
      have KB : ∀ W, Below wx.heap.size wx W → ∀ j, W.cell? ⟨wr.heap.size, j, none⟩ = (#[.string nm, .int .i64 ow, .int .i64 bits, .bool clr, .int .i64 0, .int .i64 num, .string ⟨#[]⟩, .slice none 0 0] : Array Value)[j]? := fun W hW j => cell_of_row W _ j _ _ _ ((hW.block _ (by omega)).trans hgx)
      have hn2 : wx.cell? ⟨g2, i, none⟩ = some (.string nm) := ((hbr.trans (hbx.mono hrz)).cell (p := ⟨g2, i, none⟩) hgn).trans hc2
      obtain ⟨S, hS⟩ : ∃ S : World → Prop, S = fun W => W.cell? ⟨wr.heap.size, 0, none⟩ = some (.string nm) ∧ W.cell? ⟨wr.heap.size, 1, none⟩ = some (.int .i64 ow) ∧ W.cell? ⟨wr.heap.size, 2, none⟩ = some (.int .i64 bits) ∧ W.cell? ⟨wr.heap.size, 4, none⟩ = some (.int .i64 0) ∧ W.cell? ⟨wr.heap.size, 5, none⟩ = some (.int .i64 num) ∧ W.cell? ⟨wr.heap.size, 6, none⟩ = some (.string ⟨#[]⟩) ∧ W.cell? ⟨wr.heap.size, 7, none⟩ = some (.slice none 0 0) ∧ W.cell? ⟨g2, i, none⟩ = some (.string nm) ∧ Below wx.heap.size wx W := ⟨_, rfl⟩
      have KS : ∀ W, Below wx.heap.size wx W → S W := by
        intro W hW
        rw [hS]
        exact ⟨KB W hW 0, KB W hW 1, KB W hW 2, KB W hW 4, KB W hW 5, KB W hW 6, KB W hW 7, (hW.cell (p := ⟨g2, i, none⟩) (by show g2 < _; omega)).trans hn2, hW⟩
      have BS : ∀ W, S W → Below wx.heap.size wx W := by intro W h; rw [hS] at h; exact h.2.2.2.2.2.2.2.2
      have C1 := Lib.hid (show ∀ W, S W → Calls Tryz.prog 86 #[.int .i64 ow] W fun e w' => e = .returned (.bool true) ∧ S w' from fun W h => (number_c ow W ho0 ho1).mono (by rintro e w' ⟨rfl, rfl⟩; exact ⟨rfl, h⟩))
      have C2 := Lib.hid (show ∀ W, S W → Calls Tryz.prog 58 #[.agg #[.int .i64 0, .int .i64 num, .string ⟨#[]⟩, .slice none 0 0]] W fun e w' => e = .returned .nilIface ∧ S w' from fun W h => (valid_int num W).mono (by rintro e w' ⟨rfl, hb⟩; exact ⟨rfl, KS _ ((BS W h).trans (hb.mono (BS W h).size))⟩))
      have K0 : S wx.drew := KS _ (Below.refl _ wx).drew
      have BSH := Lib.hid BS
      have HWX := Lib.hid hwx
      have HGA := Lib.hid hgA
      have HKB := Lib.hid KB
      have HBX := Lib.hid hbx
      have HBR := Lib.hid hbr
      have HXZ := Lib.hid hxz
      clear hrd hs hc2 hn2 KB KS BS hbx hbr hxz hgx hgA hwx hsm
      subst hS
      have hd0 : decide (bits < 0) = false := by simpa using hb1
      have hd7 : decide (7 < bits) = false := by simpa using hb7
      have hn0 : ¬ bits < 0 := by omega
      have hn7 : ¬ 7 < bits := by omega
      go_wp2_with fail
      rw [← HWX.out]
      clear r0 r1 r2 r3 r4 r5 r6 r7
      go_region_held3 (fun W => W.cell? ⟨wr.heap.size, 0, none⟩ = some (.string nm) ∧ W.cell? ⟨wr.heap.size, 1, none⟩ = some (.int .i64 ow) ∧ W.cell? ⟨wr.heap.size, 2, none⟩ = some (.int .i64 bits) ∧ W.cell? ⟨wr.heap.size, 4, none⟩ = some (.int .i64 0) ∧ W.cell? ⟨wr.heap.size, 5, none⟩ = some (.int .i64 num) ∧ W.cell? ⟨wr.heap.size, 6, none⟩ = some (.string ⟨#[]⟩) ∧ W.cell? ⟨wr.heap.size, 7, none⟩ = some (.slice none 0 0) ∧ W.cell? ⟨g2, i, none⟩ = some (.string nm) ∧ Below wx.heap.size wx W)
        (first | (with_reducible assumption) | (with_reducible exact K0))
        (first
          | (go_at_call 86; refine (C1.out _ ?_).mono ?_; with_reducible assumption; rintro e w' ⟨rfl, hs⟩)
          | (go_at_call 58; refine (C2.out _ ?_).mono ?_; with_reducible assumption; rintro e w' ⟨rfl, hs⟩))
      all_goals
        have hbw := BSH.out _ hs
        have k0 := HKB.out _ hbw 0
        have k3 := HKB.out _ hbw 3
        have k4 := HKB.out _ hbw 4
        have k5 := HKB.out _ hbw 5
        have k6 := HKB.out _ hbw 6
        have k7 := HKB.out _ hbw 7
        have hdw := own_keepO HD.out (HBR.out.trans ((HBX.out.trans (hbw.mono HBX.out.size)).mono hrz))
        have q7 := HGA.out _ hbw
        have HBW := Lib.hid (HBR.out.trans ((HBX.out.trans (hbw.mono HBX.out.size)).mono hrz))
        clear hs hbw
        cases clr with
        | false =>
          clear hdw hclr
          go_wp2_with fail
          go_roundg j
          case measure => omega
          case rel => exact ⟨i + 1, by go_num, by omega, HBW.out⟩
        | true =>
          obtain ⟨rfl, hno⟩ := hclr rfl
          have CO := Lib.hid (contS_c hdw nm (by omega) hno)
          have CS := Lib.hid (fun W => same_0 W)
          clear hdw hno hclr
          go_wp2_with fail
          refine CO.out.mono ?_
          rintro e w5 ⟨rfl, rfl⟩
          go_wp2_with fail
          refine (CS.out _).mono ?_
          rintro e w5 ⟨rfl, hb5⟩
          have HB5 := Lib.hid hb5
          clear hb5
          go_wp2_with fail
          go_roundg j
          case measure => omega
          case rel => exact ⟨i + 1, by go_num, by omega, HBW.out.trans (HB5.out.mono HBW.out.size)⟩
    · obtain rfl : i = slots.length := by omega
      have HBR := Lib.hid hbr
      clear hbr
      go_wp2_with fail
      go_ret
      exact ⟨rfl, HB0.out.trans (HBR.out.mono HB0.out.size)⟩
end Go.Proofs.YtnphgcbknfmapaaGreatDoor
namespace Go.Proofs.YtnphgcbknfmapaaGreatDoor
open Go.RowKit Go.Lib
set_option linter.unusedVariables false

set_option maxRecDepth 100000 in
set_option maxHeartbeats 2000000 in
theorem verbs_0 (x : OM) (w : World) : Calls Tryz.prog 92 #[.agg x.cells] w fun e w' => e = .returned (.bool true) ∧ Below w.heap.size w w' := by
  have HB := Lib.hid ((Below.refl w.heap.size w).alloc (Nat.le_refl _) (.cells x.cells 29))
  unfold OM.cells at HB ⊢
  go_enter Tryz.func92, Tryz.ntmps92
  go_wp2_with fail
  refine wp_loop_rounds 1 ?_
  rw [rounds_succ]
  go_wp2_with fail
  go_ret
  exact ⟨rfl, HB.out⟩

/-- An object of a table is right. -/
structure FairO (l : List OB) (x : OB) : Prop where
  nm : x.name = ⟨#[]⟩
  own : -1 ≤ x.owner ∧ x.owner < 1073741824
  fl : 0 ≤ x.flags ∧ x.flags ≤ 63
  qu : 0 ≤ x.quota ∧ x.quota ≤ 1073741824
  dl : x.defs.length ≤ 64
  pl : (nmO l x.parent).length ≤ 1000
  pr : RiseS (nmO l x.parent)
  dn : ∀ n ∈ x.defs, nmB n.data.toList = true ∧ n.size ≤ 32 ∧ biB n = false ∧ containsS (nmO l x.parent) n = false
  du : ∀ (i : Nat) (p q : ByteArray), x.defs[i]? = some p → x.defs[i + 1]? = some q → Op.bytesLess q.toList p.toList = false ∧ (q.toList == p.toList) = false
  sn : nmO l x.id = x.slots.map SL.name
  sr : RiseS (nmO l x.id)
  sl : x.slots.length ≤ 1000
  sf : ∀ s ∈ x.slots, FitS x s

set_option maxRecDepth 100000 in
set_option maxHeartbeats 4000000 in
theorem fair_c {w : World} {B Bd Bs a m : Nat} {T : List OM} {c mx : Int} (h : TabG w B a m T c mx) (x : OM) (hf : FairO (obT T) x.o) {y : OM} (hy : findT T x.o.id = some y) (hyo : y.o = x.o) (hpi : ParI T) (hli : ∀ z ∈ T, I64 z.o.place)
    (hd : w.ownsRow Bd 9 1 x.dv x.o.defs.length (strsO x.o.defs)) (hs : w.ownsRow Bs 35 8 x.sv x.o.slots.length (x.o.slots.flatMap SL.cells))
    (hacP : AcyP (obT T) OB.parent) (hacL : AcyP (obT T) OB.place) (hp : x.o.parent = -1 ∨ hasO (obT T) x.o.parent = true) (hl : x.o.place = -1 ∨ hasO (obT T) x.o.place = true) :
    Calls Tryz.prog 44 #[.pointer (some ⟨a, 0, none⟩), .agg x.cells] w fun e w' => e = .returned (.bool true) ∧ Below w.heap.size w w' := by
  obtain ⟨w0, hw0⟩ : ∃ w0, w0 = w.alloc (.cells x.cells 29) := ⟨_, rfl⟩
  have hb0 : Below w.heap.size w w0 := by rw [hw0]; exact (Below.refl _ _).alloc (Nat.le_refl _) _
  have hg0 : w0.heap[w.heap.size]? = some (.cells x.cells 29 (0, 0)) := by rw [hw0]; exact heap_alloc_new w _
  have hz0 : w0.heap.size = w.heap.size + 1 := by rw [hw0]; simp
  have hid : I64 x.o.id := by
    have h1 := h.rng y (findT_some hy).1
    have h2 := h.mxr
    rw [hyo] at h1
    exact ⟨by omega, by omega⟩
  have hpar : I64 x.o.parent := by rw [← hyo]; exact hpi y (findT_some hy).1
  have ht0 := h.below hb0
  have E1 := Lib.hid (ends_c ht0 88 OB.parent (enters_of Tryz.func88 (by kernel_rfl) rfl) (nextP ht0) hid hy hacP hpi (by rw [hyo]; exact hp))
  have E2 := Lib.hid (ends_c ht0 89 OB.place (enters_of Tryz.func89 (by kernel_rfl) rfl) (nextL ht0) hid hy hacL hli (by rw [hyo]; exact hl))
  have N1 := Lib.hid (number_c x.o.owner w0 hf.own.1 hf.own.2)
  have P1 := Lib.hid (printable_0 w0)
  have hsn := hf.sn
  have HF := Lib.hid hf
  obtain ⟨S, hS⟩ : ∃ S : World → Prop, S = fun W => W.cell? ⟨w.heap.size, 0, none⟩ = some (.int .i64 x.o.id) ∧ W.cell? ⟨w.heap.size, 1, none⟩ = some (.int .i64 x.o.parent) ∧ W.cell? ⟨w.heap.size, 2, none⟩ = some (.int .i64 x.o.owner) ∧ W.cell? ⟨w.heap.size, 3, none⟩ = some (.int .i64 x.o.place) ∧ W.cell? ⟨w.heap.size, 4, none⟩ = some (.int .i64 x.o.flags) ∧ W.cell? ⟨w.heap.size, 5, none⟩ = some (.int .i64 x.o.quota) ∧ W.cell? ⟨w.heap.size, 6, none⟩ = some (.string x.o.name) ∧ W.cell? ⟨w.heap.size, 7, none⟩ = some x.dv ∧ W.cell? ⟨w.heap.size, 8, none⟩ = some x.sv ∧ W.cell? ⟨w.heap.size, 9, none⟩ = some (.slice none 0 0) ∧ Below w0.heap.size w0 W := ⟨_, rfl⟩
  have KS : ∀ W, Below w0.heap.size w0 W → S W := by
    intro W hW
    have hg := (hW.block w.heap.size (by omega)).trans hg0
    rw [hS]
    exact ⟨cell_of_row W _ 0 _ _ _ hg, cell_of_row W _ 1 _ _ _ hg, cell_of_row W _ 2 _ _ _ hg, cell_of_row W _ 3 _ _ _ hg, cell_of_row W _ 4 _ _ _ hg, cell_of_row W _ 5 _ _ _ hg, cell_of_row W _ 6 _ _ _ hg, cell_of_row W _ 7 _ _ _ hg, cell_of_row W _ 8 _ _ _ hg, cell_of_row W _ 9 _ _ _ hg, hW⟩
  have BS : ∀ W, S W → Below w0.heap.size w0 W := by intro W h; rw [hS] at h; exact h.2.2.2.2.2.2.2.2.2.2
  have BW : ∀ W, S W → Below w.heap.size w W := fun W h => hb0.trans ((BS W h).mono hb0.size)
  obtain ⟨cs, hcs⟩ : ∃ cs, cs = x.cells := ⟨_, rfl⟩
  have C1 := Lib.hid (show ∀ W, S W → Calls Tryz.prog 90 #[.pointer (some ⟨a, 0, none⟩), .agg cs] W fun e w' => e = .returned (.bool true) ∧ S w' from fun W hW => by
    rw [hcs]
    exact (defs_c (h.below (BW W hW)) x (own_keepO hd (BW W hW)) hpi hpar hf.dl (by have := hf.pl; omega) hf.pr hf.dn hf.du).mono (by rintro e w' ⟨rfl, hb⟩; exact ⟨rfl, KS _ ((BS W hW).trans (hb.mono (BS W hW).size))⟩))
  have C2 := Lib.hid (show ∀ W, S W → Calls Tryz.prog 48 #[.pointer (some ⟨a, 0, none⟩), .int .i64 x.o.id] W fun e w' => ∃ v, e = .returned v ∧ w'.ownsRow w0.heap.size 9 1 v (x.o.slots.map SL.name).length (strsO (x.o.slots.map SL.name)) ∧ S w' from fun W hW =>
    (names_g (h.below (BW W hW)) hid hpi (by rw [hsn, List.length_map]; have := hf.sl; omega) hf.sr).mono (by rintro e w' ⟨v, rfl, hown, hb⟩; rw [hsn] at hown; exact ⟨v, rfl, ownsRow_base hown (BS W hW).size, KS _ ((BS W hW).trans (hb.mono (BS W hW).size))⟩))
  have C3 := Lib.hid (show ∀ W v, S W → W.ownsRow w0.heap.size 9 1 v (x.o.slots.map SL.name).length (strsO (x.o.slots.map SL.name)) → Calls Tryz.prog 91 #[.agg cs, v] W fun e w' => e = .returned (.bool true) ∧ S w' from fun W v hW hv => by
    rw [hcs]
    exact (slots_c x (own_keepO hd (BW W hW)) (own_keepO hs (BW W hW)) v hv (by have := hf.dl; omega) hf.sl hf.sf).mono (by rintro e w' ⟨rfl, hb⟩; exact ⟨rfl, KS _ ((BS W hW).trans (hb.mono (BS W hW).size))⟩))
  have C4 := Lib.hid (show ∀ W, S W → Calls Tryz.prog 92 #[.agg cs] W fun e w' => e = .returned (.bool true) ∧ S w' from fun W hW => by
    rw [hcs]
    exact (verbs_0 x W).mono (by rintro e w' ⟨rfl, hb⟩; exact ⟨rfl, KS _ ((BS W hW).trans (hb.mono (BS W hW).size))⟩))
  have K9 := KS w0 (Below.refl _ w0)
  have K0 : S w0.drew := KS _ (Below.refl _ w0).drew
  have BSH := Lib.hid BW
  obtain ⟨hf1, ⟨hf2, hf3⟩, ⟨hf4, hf5⟩, ⟨hf6, hf7⟩, _⟩ := hf
  obtain ⟨⟨id, parent, owner, place, flags, quota, name, defs, slots⟩, gx, dv0, sv0⟩ := x
  simp only at hf1 hf2 hf3 hf4 hf5 hf6 hf7
  subst hf1
  rw [← hcs] at hw0 ⊢
  unfold OM.cells at hcs
  simp only at hcs E1 E2 N1 K0 hS ⊢
  subst hcs
  have HW := Lib.hid hw0
  clear h hy hyo hpi hli hd hs hacP hacL hp hl hid hpar ht0 hg0 hz0 KS BS BW hsn hb0 hw0 HF
  rw [hS] at K9
  obtain ⟨k0, k1, k2, k3, k4, k5, k6, k7, k8, k9, _⟩ := K9
  subst hS
  have g1 : ¬ flags < 0 := by omega
  have g2 : ¬ 63 < flags := by omega
  have g3 : ¬ quota < 0 := by omega
  have g4 : ¬ 1073741824 < quota := by omega
  go_enter Tryz.func44, Tryz.ntmps44
  go_wp2_with fail
  rw [← HW.out]
  refine P1.out.mono ?_
  rintro e w1 ⟨rfl, rfl⟩
  go_wp2_with fail
  refine N1.out.mono ?_
  rintro e w1 ⟨rfl, rfl⟩
  go_wp2_with fail
  refine E1.out.mono ?_
  rintro e w1 ⟨rfl, rfl⟩
  go_wp2_with fail
  refine E2.out.mono ?_
  rintro e w1 ⟨rfl, rfl⟩
  go_wp2_with fail
  clear k0 k1 k2 k3 k4 k5 k6 k7 k8 k9
  go_region_held3 (fun W => W.cell? ⟨w.heap.size, 0, none⟩ = some (.int .i64 id) ∧ W.cell? ⟨w.heap.size, 1, none⟩ = some (.int .i64 parent) ∧ W.cell? ⟨w.heap.size, 2, none⟩ = some (.int .i64 owner) ∧ W.cell? ⟨w.heap.size, 3, none⟩ = some (.int .i64 place) ∧ W.cell? ⟨w.heap.size, 4, none⟩ = some (.int .i64 flags) ∧ W.cell? ⟨w.heap.size, 5, none⟩ = some (.int .i64 quota) ∧ W.cell? ⟨w.heap.size, 6, none⟩ = some (.string ⟨#[]⟩) ∧ W.cell? ⟨w.heap.size, 7, none⟩ = some dv0 ∧ W.cell? ⟨w.heap.size, 8, none⟩ = some sv0 ∧ W.cell? ⟨w.heap.size, 9, none⟩ = some (.slice none 0 0) ∧ Below w0.heap.size w0 W)
    (first | (with_reducible assumption) | (with_reducible exact K0))
    (first
      | (go_at_call 90; refine (C1.out _ ?_).mono ?_; with_reducible assumption; rintro e w' ⟨rfl, hs⟩)
      | (go_at_call 48; refine (C2.out _ ?_).mono ?_; with_reducible assumption; rintro e w' ⟨v, rfl, hown, hs⟩)
      | (go_at_call 91; refine (C3.out _ _ ?_ ?_).mono ?_; with_reducible assumption; with_reducible assumption; rintro e w' ⟨rfl, hs⟩)
      | (go_at_call 92; refine (C4.out _ ?_).mono ?_; with_reducible assumption; rintro e w' ⟨rfl, hs⟩))
  all_goals
    go_wp2_with fail
    go_ret
    exact ⟨rfl, BSH.out _ (by assumption)⟩
end Go.Proofs.YtnphgcbknfmapaaGreatDoor
namespace Go.Proofs.YtnphgcbknfmapaaGreatDoor
open Go.RowKit Go.Lib
set_option linter.unusedVariables false

theorem blkT_app (T : List OM) (x : OM) : blkT (T ++ [x]) = blkT T ++ x.blocks := by simp [blkT]
/-- An object put in. -/
theorem TabG.put {w w5 : World} {B a m : Nat} {T : List OM} {c mx : Int} (h : TabG w B a m T c mx) {x : OM} (hx : ObjAt w B x) (hnd : x.blocks.Nodup) (hnew : ∀ b ∈ x.blocks, B ≤ b ∧ b ∉ a :: m :: blkT T)
    (hown : w5.ownsMap Tryz.prog 3 ptrR m (T.length + 1) ((DataW.map (datT T)).put (.int .i64 x.o.id) (.lit (.int .i64 (x.g : Int))))) (hg : w.drew.grownBy w5 (some m))
    (hlast : ∀ y ∈ T, y.o.id < x.o.id) (hr : 0 ≤ x.o.id ∧ x.o.id ≤ mx) (hf : T.length < 512) : TabG w5 B a m (T ++ [x]) c mx := by
  have hs := h.sep
  have hk : ∀ b, b < w.heap.size → b ≠ m → w5.heap[b]? = w.heap[b]? := fun b hb hn => hg.block b hb (fun e => hn (by injection e))
  rw [List.nodup_cons, List.nodup_cons] at hs
  have ham : a ≠ m := fun e => hs.1 (by rw [e]; exact List.mem_cons_self ..)
  have hmT : ∀ b ∈ blkT T, b ≠ m := fun b hb e => hs.2.1 (by rw [← e]; exact hb)
  refine ⟨(hk a (h.lt a (List.mem_cons_self ..)) ham).trans h.tab, ?_, ?_, ?_, ?_, ?_, by simp; omega, h.mxr, ?_⟩
  · rw [show (T ++ [x]).length = T.length + 1 from by simp, ← datT_put T x hlast]
    exact hown
  · intro y hy
    rcases List.mem_append.1 hy with hy | hy
    · exact (h.objs y hy).keep fun b hb => hk b (h.lt b (List.mem_cons_of_mem _ (List.mem_cons_of_mem _ (List.mem_flatMap.2 ⟨y, hy, hb⟩)))) (hmT b (List.mem_flatMap.2 ⟨y, hy, hb⟩))
    · rw [List.mem_singleton] at hy
      subst hy
      exact hx.keep fun b hb => hk b (hx.lt b hb) (fun e => (hnew b hb).2 (by rw [e]; exact List.mem_cons_of_mem _ (List.mem_cons_self ..)))
  · rw [blkT_app, show a :: m :: (blkT T ++ x.blocks) = (a :: m :: blkT T) ++ x.blocks from rfl, List.nodup_append]
    exact ⟨h.sep, hnd, fun p hp q hq e => (hnew q hq).2 (by rw [← e]; exact hp)⟩
  · rw [blkT_app, show a :: m :: (blkT T ++ x.blocks) = (a :: m :: blkT T) ++ x.blocks from rfl]
    intro b hb
    rcases List.mem_append.1 hb with hb | hb
    · exact h.base b hb
    · exact (hnew b hb).1
  · unfold SortO obT
    rw [List.map_append, List.pairwise_append]
    refine ⟨h.sort, by simp, ?_⟩
    intro p hp q hq
    obtain ⟨z, hz, rfl⟩ := List.mem_map.1 hp
    simp only [List.map_cons, List.map_nil, List.mem_singleton] at hq
    subst hq
    exact hlast z hz
  · intro y hy
    rcases List.mem_append.1 hy with hy | hy
    · exact h.rng y hy
    · rw [List.mem_singleton] at hy
      subst hy
      exact hr
/-- The highest number told. -/
theorem TabG.told {w : World} {B a m : Nat} {T : List OM} {c mx mx' : Int} (h : TabG w B a m T c mx) (hm : -1 ≤ mx' ∧ mx' < 1073741824) (hr : ∀ x ∈ T, x.o.id ≤ mx') : Tab (w.setCell ⟨a, 1, none⟩ (.int .i64 mx')) B a m T mx' := by
  have hs := h.sep
  rw [List.nodup_cons] at hs
  have hoth : ∀ b, b ≠ a → (w.setCell ⟨a, 1, none⟩ (.int .i64 mx')).heap[b]? = w.heap[b]? := fun b hb => Below.heap_setCell _ _ _ _ hb
  refine ⟨?_, ownsMap_same h.map (hoth m fun e => hs.1 (by rw [← e]; exact List.mem_cons_self ..)), ?_, h.sep, h.base, h.sort, h.few, hm, fun x hx => ⟨(h.rng x hx).1, hr x hx⟩⟩
  · rw [heap_setCell_same w a 1 _ _ _ h.tab]
    rfl
  · intro x hx
    exact (h.objs x hx).keep fun b hb => hoth b fun e => hs.1 (by rw [← e]; exact List.mem_cons_of_mem _ (List.mem_flatMap.2 ⟨x, hx, hb⟩))
theorem TabG.of_tab {w : World} {B a m : Nat} {mx : Int} (h : Tab w B a m [] (-1)) (hm : -1 ≤ mx ∧ mx < 1073741824) : TabG w B a m [] (-1) mx :=
  ⟨h.tab, h.map, h.objs, h.sep, h.base, h.sort, h.few, hm, fun x hx => by cases hx⟩

/-! Rows that come to an end, of objects without their properties. -/
theorem mem_bare {l : List OB} {x : OB} (h : x ∈ l) : bareO x ∈ l.map bareO := List.mem_map_of_mem h
theorem OkS.acyP {l : List OB} {mx : Int} (h : OkS l mx) : AcyP l OB.parent := by
  obtain ⟨rk, hr⟩ := OkT.acyP h
  exact ⟨rk, fun x hx p hp e => hr (bareO x) (mem_bare hx) (bareO p) (mem_bare hp) e⟩
theorem OkS.acyL {l : List OB} {mx : Int} (h : OkS l mx) : AcyP l OB.place := by
  obtain ⟨rk, hr⟩ := OkT.acyL h
  exact ⟨rk, fun x hx p hp e => hr (bareO x) (mem_bare hx) (bareO p) (mem_bare hp) e⟩
theorem OkS.par {l : List OB} {mx : Int} (h : OkS l mx) {x : OB} (hx : x ∈ l) : x.parent = -1 ∨ hasO l x.parent = true := by
  have := OkT.par h (bareO x) (mem_bare hx)
  rw [hasO_bare] at this
  exact this
theorem OkS.plc {l : List OB} {mx : Int} (h : OkS l mx) {x : OB} (hx : x ∈ l) : x.place = -1 ∨ hasO l x.place = true := by
  have := OkT.plc h (bareO x) (mem_bare hx)
  rw [hasO_bare] at this
  exact this
theorem OkS.rngS {l : List OB} {mx : Int} (h : OkS l mx) {x : OB} (hx : x ∈ l) : 0 ≤ x.id ∧ x.id ≤ mx := OkT.rng h (bareO x) (mem_bare hx)
theorem OkS.sortS {l : List OB} {mx : Int} (h : OkS l mx) : SortO l := by
  have := OkT.sort h
  unfold SortO at this ⊢
  rw [List.pairwise_map] at this
  exact this
theorem OkS.num {l : List OB} {mx : Int} (h : OkS l mx) (hm : mx < 1073741824) {n : Int} (hn : n = -1 ∨ hasO l n = true) : I64 n := by
  rcases hn with rfl | hn
  · exact ⟨by omega, by omega⟩
  · obtain ⟨x, hx, rfl⟩ := hasO_iff.1 hn
    have := h.rngS hx
    exact ⟨by omega, by omega⟩

/-- Objects that lie in a row. -/
structure RowsIn (w : World) (gl : Nat) (xs : List OM) : Prop where
  lt : gl < w.heap.size
  cell : ∀ (i : Nat) (x : OM), xs[i]? = some x → ∀ (j : Nat) (u : Value), j < 10 → x.cells[j]? = some u → w.cell? ⟨gl, i * 10 + j, none⟩ = some u
  defs : ∀ x ∈ xs, w.ownsRow 0 9 1 x.dv x.o.defs.length (strsO x.o.defs)
  slots : ∀ x ∈ xs, w.ownsRow 0 35 8 x.sv x.o.slots.length (x.o.slots.flatMap SL.cells)
  nild : ∀ x ∈ xs, x.o.defs = [] → x.dv = .slice none 0 0
theorem RowsIn.keep {w w' : World} {gl : Nat} {xs : List OM} (h : RowsIn w gl xs) (hb : Below w.heap.size w w') : RowsIn w' gl xs :=
  ⟨Nat.lt_of_lt_of_le h.lt hb.size, fun i x hx j u hj hu => (hb.cell (p := ⟨gl, i * 10 + j, none⟩) h.lt).trans (h.cell i x hx j u hj hu), fun x hx => own_keepO (h.defs x hx) hb, fun x hx => own_keepO (h.slots x hx) hb, h.nild⟩
end Go.Proofs.YtnphgcbknfmapaaGreatDoor
