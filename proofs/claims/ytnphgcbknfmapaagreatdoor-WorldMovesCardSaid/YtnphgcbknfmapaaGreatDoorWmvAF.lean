/- Contracts of the functions that the statement reaches, and the plain mathematics beneath: several texts joined. -/
import Derived.Laws.AppendOwn
import Derived.Sort.Grow
import Derived.Sort.Row
import Derived.Deep.AppendLies
import Derived.Deep.RegionLaw
import Derived.Deep.Cut
import Derived.Deep.CutBlock
import Derived.Deep.DeepCutAuto
import Derived.Test.YtnphgcbknfmapaaGreatDoorWmvAD
import Derived.Test.YtnphgcbknfmapaaGreatDoorWmvAB
import Derived.Test.YtnphgcbknfmapaaGreatDoorWmvAC
namespace Go.Proofs.YtnphgcbknfmapaaGreatDoor
open Go.RowKit Go.Lib
set_option linter.unusedVariables false

def layO (l : List OB) (d : Int) (f : SL) : List OB := updO l d fun y => { y with slots := [f] }
def layAll (l : List OB) (ps : List (Int × SL)) : List OB := ps.foldl (fun l p => layO l p.1 p.2) l
theorem layAll_snoc (l : List OB) (ps : List (Int × SL)) (d : Int) (f : SL) : layAll l (ps ++ [(d, f)]) = layO (layAll l ps) d f := by
  unfold layAll
  rw [List.foldl_append]
  rfl
theorem rep_lay {l : List OB} (hs : SortO l) {d : Int} {x : OB} (hx : getO l d = some x) (f : SL) : repO l d { x with slots := [f] } = layO l d f := by
  unfold repO layO updO
  apply List.map_congr_left
  intro y hy
  by_cases e : y.id = d
  · have b : (y.id == d) = true := by simpa using e
    have h2 := getO_of_mem hs hy
    rw [e, hx] at h2
    injection h2 with h2
    rw [b, if_pos rfl, if_pos rfl, h2]
  · have b : (y.id == d) = false := by simpa using e
    rw [b]
    rfl
theorem findT_rep_ne {T : List OM} {d k : Int} {x' : OM} (hid : x'.o.id = d) (h : k ≠ d) : findT (repT T d x') k = findT T k := by
  unfold findT repT
  induction T with
  | nil => rfl
  | cons y r ih =>
    rw [List.map_cons, List.find?_cons, List.find?_cons, ih]
    by_cases e : y.o.id = d
    · have b1 : (y.o.id == d) = true := by simpa using e
      have b2 : (x'.o.id == k) = false := by simp; omega
      have b3 : (y.o.id == k) = false := by simp; omega
      simp only [b1, if_true, b2, b3]
    · have b1 : (y.o.id == d) = false := by simpa using e
      simp only [b1, if_false, Bool.false_eq_true]
theorem findT_rep_eq {T : List OM} {d : Int} {x x' : OM} (hid : x'.o.id = d) (h : findT T d = some x) : findT (repT T d x') d = some x' := by
  unfold findT at h ⊢
  unfold repT
  induction T with
  | nil => cases h
  | cons y r ih =>
    rw [List.find?_cons] at h
    rw [List.map_cons, List.find?_cons]
    by_cases e : y.o.id = d
    · have b1 : (y.o.id == d) = true := by simpa using e
      have b2 : (x'.o.id == d) = true := by simpa using hid
      simp only [b1, if_true, b2]
    · have b1 : (y.o.id == d) = false := by simpa using e
      rw [b1] at h
      simp only [b1, if_false, Bool.false_eq_true]
      exact ih h
/-- How far the properties are laid. -/
structure LyI (w6 wr : World) (B a m : Nat) (T1 Tk : List OM) (mx : Int) (r : List Int) (fs : List SL) (i : Nat) : Prop where
  st : StS w6 wr B a m T1 Tk mx mx
  ob : obT Tk = layAll (obT T1) ((r.zip fs).take i)
  keep : ∀ j, i ≤ j → ∀ d, r[j]? = some d → findT Tk d = findT T1 d
  laid : ∀ k, k < i → ∀ d f, r[k]? = some d → fs[k]? = some f → ∃ y, findT Tk d = some y ∧ y.o.slots = [f]
theorem LyI.next {w6 wr wb w9 : World} {B a m : Nat} {T1 Tk : List OM} {mx : Int} {r : List Int} {fs : List SL} {i g9 cap : Nat} (h : LyI w6 wr B a m T1 Tk mx r fs i) (hn : r.Nodup) {d : Int} (hd : r[i]? = some d) {f : SL} (hf : fs[i]? = some f) {y : OM} (hy : findT Tk d = some y)
    (hsv : y.sv = .slice none 0 0) (hfl : FlatS f) (hbb : Below wr.heap.size wr wb) (hg : wb.grownBy w9 none) (hown : w9.ownsRow wr.heap.size 35 8 (.slice (some ⟨g9, 0, none⟩) 1 cap) 1 f.cells) :
    ∃ Tk', LyI w6 (w9.setCell ⟨y.g, 8, none⟩ (.slice (some ⟨g9, 0, none⟩) 1 cap)) B a m T1 Tk' mx r fs (i + 1) := by
  have hst := add_slot h.st.ts hy hbb hsv hg hown (by rw [show w9.heap.size = (w9.setCell ⟨y.g, 8, none⟩ (.slice (some ⟨g9, 0, none⟩) 1 cap)).heap.size from by simp [World.setCell]]; exact Below.refl _ _) hfl
  have hyo := (findT_some hy).2
  have hz : (r.zip fs)[i]? = some (d, f) := by rw [List.getElem?_zip_eq_some]; exact ⟨hd, hf⟩
  have hne : ∀ k e, k ≠ i → r[k]? = some e → e ≠ d := by
    rintro k e hk he rfl
    have h1 := List.getElem?_eq_some_iff.1 he
    have h2 := List.getElem?_eq_some_iff.1 hd
    exact hk ((List.getElem_inj (h₀ := h1.1) (h₁ := h2.1) hn).1 (h1.2.trans h2.2.symm))
  refine ⟨_, h.st.trans hst, ?_, ?_, ?_⟩
  · rw [obT_rep, rep_lay h.st.ts.tab.sort (by rw [getO_obT, hy]; rfl), List.take_add_one, hz, Option.toList_some, layAll_snoc, h.ob]
  · intro j hj e he
    refine (findT_rep_ne ?_ (hne j e (by omega) he)).trans (h.keep j (by omega) e he)
    exact hyo
  · intro k hk e f' he hf'
    by_cases hki : k = i
    · subst hki
      rw [hd] at he
      rw [hf] at hf'
      injection he with he
      injection hf' with hf'
      subst he
      subst hf'
      exact ⟨_, findT_rep_eq hyo hy, rfl⟩
    · obtain ⟨y', h1, h2⟩ := h.laid k (by omega) e f' he hf'
      refine ⟨y', (findT_rep_ne ?_ (hne k e hki he)).trans h1, h2⟩
      exact hyo
end Go.Proofs.YtnphgcbknfmapaaGreatDoor
namespace Go.Proofs.YtnphgcbknfmapaaGreatDoor
open Go.RowKit Go.Lib
set_option linter.unusedVariables false
set_option linter.unusedSimpArgs false

open Go.Sort in
theorem sholds_own {w : World} {base g n cap : Nat} {ss : List (List UInt8)} (h : w.ownsRow base 9 1 (.slice (some ⟨g, 0, none⟩) n cap) n (ss.map fun l => Value.string ⟨l.toArray⟩)) : Holds encStr w g 0 ss.toArray := by
  intro j hj
  have hj' : j < ss.length := by simpa using hj
  have hc := h.cells (g := g) rfl j (.string ⟨(ss[j]).toArray⟩) (by simp [hj'])
  have hadd : (⟨g, 0, none⟩ : Addr).add j = ⟨g, j, none⟩ := by unfold Addr.add; split <;> simp_all
  rw [hadd] at hc
  refine ⟨by rw [Nat.zero_add, hc]; simp [hj', encStr], ?_⟩
  rcases h.2 with ⟨e, _⟩ | ⟨g', cap', cur, e, _, hh, _⟩
  · cases e
  · injection e with e _ _; injection e with e; injection e with e _ _; subst e
    unfold World.frozen?; rw [hh]; simp
open Go.Sort in
theorem sort_rises {w : World} {base g cap : Nat} {ss : List (List UInt8)} (h : w.ownsRow base 9 1 (.slice (some ⟨g, 0, none⟩) ss.length cap) ss.length (ss.map fun l => Value.string ⟨l.toArray⟩)) (hsz : ss.length < 4611686018427387904) (hs : ss.mergeSort (fun x y => decide (x ≤ y)) = ss) :
    Calls Tryz.prog 66 #[.slice (some ⟨g, 0, none⟩) ss.length cap] w fun e w' => e = .returned (.tuple #[]) ∧ Below w.heap.size w w' := by
  have hH := sholds_own h
  refine (Tryz.slices_Sort_string g 0 cap ss w hH (h.lt g rfl).2 hsz).mono ?_
  rintro e w' ⟨rfl, n, os, he⟩
  rw [hs, putRow_self encStr (Sort.ahead w n) g 0 ss.toArray (holds_ahead _ _ _ _ _ _ hH)] at he
  refine ⟨rfl, ?_⟩
  rw [he]
  refine ⟨rfl, rfl, rfl, ?_, fun k hk => ?_⟩
  · unfold grow Sort.ahead; simp
  · unfold grow Sort.ahead; exact Array.getElem?_append_left hk
theorem ownsRow_base {w : World} {b b' : Nat} {e : TypeId} {size : Nat} {v : Value} {n : Nat} {xs : List Value} (h : w.ownsRow b e size v n xs) (hb : b' ≤ b) : w.ownsRow b' e size v n xs := by
  refine ⟨h.1, ?_⟩
  rcases h.2 with h1 | ⟨g, cap, cur, e1, e2, e3⟩
  · exact .inl h1
  · exact .inr ⟨g, cap, cur, e1, by omega, e3⟩
theorem Tab.nodupX {w : World} {B a m : Nat} {T : List OM} {mx : Int} (h : Tab w B a m T mx) {x : OM} (hx : x ∈ T) : x.blocks.Nodup := by
  have hs := (List.nodup_cons.1 (List.nodup_cons.1 h.sep).2).2
  obtain ⟨p, q, e⟩ := List.append_of_mem hx
  rw [e, blkT_split, List.nodup_append, List.nodup_append] at hs
  exact hs.2.1.1
theorem Tab.baseB {w : World} {B a m : Nat} {T : List OM} {mx : Int} (h : Tab w B a m T mx) : B ≤ w.heap.size := by
  have h1 := h.base a (List.mem_cons_self ..)
  have h2 := h.lt a (List.mem_cons_self ..)
  omega
section
variable {w : World} {B a m : Nat} {T : List OM} {mx o : Int} {x : OM}
end
end Go.Proofs.YtnphgcbknfmapaaGreatDoor
namespace Go.Proofs.YtnphgcbknfmapaaGreatDoor
open Go.RowKit Go.Lib
set_option linter.unusedVariables false

/-- The names of an object. -/
def dfO (l : List OB) (d : Int) : List ByteArray := match getO l d with
  | none => []
  | some x => x.defs
/-- The names up a row of objects. -/
def nmR (l : List OB) (r : List Int) : List ByteArray := r.flatMap (dfO l)
def nmO (l : List OB) (o : Int) : List ByteArray := nmR l (aboveO l o)
def strsO (l : List ByteArray) : List Value := l.map Value.string
theorem strsO_app (a b : List ByteArray) : strsO (a ++ b) = strsO a ++ strsO b := List.map_append
theorem strsO_one (l : List ByteArray) : ∀ u ∈ strsO l, u.oneCell' = true := by
  intro u hu
  obtain ⟨x, _, rfl⟩ := List.mem_map.1 hu
  rfl
theorem nmR_take {l : List OB} {r : List Int} {k : Nat} {d : Int} (h : r[k]? = some d) : nmR l (r.take (k + 1)) = nmR l (r.take k) ++ dfO l d := by
  unfold nmR
  rw [List.take_succ_eq_append_getElem (List.getElem?_eq_some_iff.1 h).1, List.flatMap_append]
  simp [(List.getElem?_eq_some_iff.1 h).2]
theorem nmR_le (l : List OB) (r : List Int) (k : Nat) : (nmR l (r.take k)).length ≤ (nmR l r).length := by
  have h : nmR l r = nmR l (r.take k) ++ nmR l (r.drop k) := by
    unfold nmR
    rw [← List.flatMap_append, List.take_append_drop]
  rw [h, List.length_append]
  omega
theorem dfO_some {l : List OB} {d : Int} {x : OB} (h : getO l d = some x) : dfO l d = x.defs := by unfold dfO; rw [h]
def lstsO (l : List ByteArray) : List (List UInt8) := l.map fun n => n.data.toList
open Go.Sort in
/-- The texts rise. -/
def RiseS (l : List ByteArray) : Prop := (lstsO l).mergeSort (fun x y => decide (x ≤ y)) = lstsO l
theorem lstsO_len (l : List ByteArray) : (lstsO l).length = l.length := by simp [lstsO]
theorem strsO_lists (l : List ByteArray) : strsO l = (lstsO l).map fun t => Value.string ⟨t.toArray⟩ := by
  unfold strsO lstsO
  rw [List.map_map]
  apply List.map_congr_left
  intro n _
  simp

set_option maxRecDepth 100000 in
set_option maxHeartbeats 2000000 in
theorem names_g {w : World} {B a m : Nat} {T : List OM} {c mx o : Int} (h : TabG w B a m T c mx) (ho : I64 o) (hpi : ParI T) (hsm : (nmO (obT T) o).length ≤ 100000) (hri : RiseS (nmO (obT T) o)) :
    Calls Tryz.prog 48 #[.pointer (some ⟨a, 0, none⟩), .int .i64 o] w fun e w' => ∃ v, e = .returned v ∧ w'.ownsRow w.heap.size 9 1 v (nmO (obT T) o).length (strsO (nmO (obT T) o)) ∧ Below w.heap.size w w' := by
  obtain ⟨i0, hi0, hz0, hz1, hz2⟩ := info_parts ostr_info
  have CA := Lib.hid (above_g h ho hpi)
  have HX := Lib.hid (fun x (hx : x ∈ aboveO (obT T) o) => mem_above hx)
  have H := Lib.hid h
  have hr0 := h.rng
  have HRG := Lib.hid hr0
  have hmx := h.mxr
  unfold nmO at hsm hri ⊢
  clear h ho hpi hr0
  generalize aboveO (obT T) o = l at CA HX hsm hri ⊢
  have HRI := Lib.hid hri
  clear hri
  go_enter Tryz.func48, Tryz.ntmps48
  go_wp2_with fail
  refine CA.out.mono ?_
  rintro e w1 ⟨v, rfl, hrow, hb1⟩
  obtain ⟨A, cA, rfl, hnc, hcm, hA, hcell⟩ := own_formO hrow
  unfold maxLen at hcm
  have HB1 := Lib.hid hb1
  have HCL := Lib.hid hcell
  have HR := Lib.hid hrow
  have hs1 := hb1.size
  clear hb1 hrow hcell
  go_wp2_with fail
  go_loopg [5, 12] l.length (fun kk ov iv wr => ∃ (k : Nat) (V : Value), V = ov ∧ iv = .int .i64 (k : Int) ∧ k + kk = l.length ∧ wr.ownsRow w1.heap.size 9 1 V (nmR (obT T) (l.take k)).length (strsO (nmR (obT T) (l.take k))) ∧ Below w1.heap.size w1 wr)
  case atStart => exact ⟨0, _, rfl, rfl, by omega, World.ownsRow_nil _ _ _ _, Below.refl _ _⟩
  case round =>
    obtain ⟨k, V, rfl, rfl, hik, hown, hbr⟩ := hrel
    have hrz := hbr.size
    by_cases hk : k < l.length
    · obtain ⟨j, rfl⟩ : ∃ j, gk = j + 1 := ⟨gk - 1, by omega⟩
      obtain ⟨x, hx⟩ : ∃ x, l[k]? = some x := ⟨l[k], List.getElem?_eq_some_iff.2 ⟨hk, rfl⟩⟩
      obtain ⟨g1, rfl, hc1⟩ := HCL.out k (.int .i64 x) (by simp [intsO, hx])
      have hg1 := HR.out.lt g1 rfl
      obtain ⟨y, hym, hfy⟩ := HX.out x (List.mem_of_getElem? hx)
      have hbw : Below w.heap.size w wr := HB1.out.trans (hbr.mono hs1)
      have ht := H.out.below hbw
      have c0 := ht.c0
      have hyx := (findT_some hfy).2
      have hry := HRG.out y hym
      have hl := ht.look (o := x) ⟨by omega, by omega⟩
      rw [ptrT_some hfy] at hl
      have hcr : wr.cell? ⟨g1, k, none⟩ = some (.int .i64 x) := (hbr.cell (p := ⟨g1, k, none⟩) hg1.2).trans hc1
      have h7 : wr.cell? ⟨y.g, 7, none⟩ = some y.dv := H.out.cellX hbw hym 7
      have hle := nmR_le (obT T) l (k + 1)
      rw [nmR_take hx, dfO_some (getO_some' hfy), List.length_append] at hle
      obtain ⟨Av, cv, rfl⟩ : ∃ A C, V = .slice A (nmR (obT T) (l.take k)).length C := by obtain ⟨A, C, e, _⟩ := own_formO hown; exact ⟨A, C, e⟩
      obtain ⟨Ad, cd, hdv⟩ : ∃ A C, y.dv = .slice A y.o.defs.length C := by obtain ⟨A, C, e, _⟩ := own_formO (ht.rowD hym); exact ⟨A, C, e⟩
      have hsrc := ht.rowD hym
      rw [hdv] at hsrc h7
      have HSRC := Lib.hid hsrc
      have HOWN := Lib.hid hown
      have HBR := Lib.hid hbr
      have HNX := Lib.hid (show nmR (obT T) (l.take (k + 1)) = nmR (obT T) (l.take k) ++ y.o.defs by rw [nmR_take hx, dfO_some (getO_some' hfy)])
      clear hbr hx hfy hbw ht hc1 hry hyx hown hsrc hdv
      go_wp2_with (at_builtin; refine wpList_append_rowO rfl (.tmp 16) (.tmp 25) 25 rfl w1.heap.size 9 i0 (.string ⟨#[]⟩) 1 16 Tryz.underlying25 hi0 hz0 hz1 hz2 rfl (by decide) (.slice Av (nmR (obT T) (l.take k)).length cv) (nmR (obT T) (l.take k)).length (strsO (nmR (obT T) (l.take k))) rfl HOWN.out (.slice Ad y.o.defs.length cd) B y.o.defs.length (strsO y.o.defs) rfl HSRC.out (strsO_one _) ?c1 ?c2 ?c3 ?_
                   case c1 => unfold maxLen; omega
                   case c2 => omega
                   case c3 => omega
                   intro v' w11 hown' hgrow
                   have HB11 := Lib.hid (Below.grown HBR.out hgrow (by omega) (fun k hk => (HOWN.out.lt k hk).1))
                   have HO11 := Lib.hid hown'
                   clear hown' hgrow)
      go_roundg j
      case measure => omega
      case rel => exact ⟨k + 1, v', rfl, by go_num, by omega, by rw [HNX.out, List.length_append, strsO_app]; exact HO11.out, HB11.out⟩
    · obtain rfl : k = l.length := by omega
      rw [List.take_length] at hown
      obtain ⟨Av, cv, rfl, hnv, hcv, hAv, _⟩ := own_formO hown
      have HBR := Lib.hid hbr
      clear hbr
      by_cases h0 : (nmR (obT T) l).length = 0
      · have HOWN := Lib.hid hown
        have HV := Lib.hid h0
        have CS := Lib.hid (show ∀ W, Calls Tryz.prog 66 #[.slice Av (nmR (obT T) l).length cv] W fun e w' => e = .returned (.tuple #[]) ∧ w' = W by intro W; rw [h0]; exact Tryz.slices_Sort_string_none Av cv W)
        clear hown h0 hAv
        go_wp2_with fail
        refine (CS.out _).mono ?_
        rintro e w2 ⟨rfl, rfl⟩
        go_wp2_with fail
        go_ret
        exact ⟨_, rfl, ownsRow_base HOWN.out hs1, HB1.out.trans (HBR.out.mono hs1)⟩
      · obtain ⟨g, rfl⟩ : ∃ g, Av = some ⟨g, 0, none⟩ := by
          rcases hown.2 with ⟨e1, _⟩ | ⟨g, cap, cur, e1, _⟩
          · injection e1 with _ e2 _; exact absurd e2 h0
          · injection e1 with e1 _ _; exact ⟨g, e1⟩
        have HOWN := Lib.hid hown
        have h2 := hown
        rw [strsO_lists] at h2
        have CS := Lib.hid (sort_rises (ss := lstsO (nmR (obT T) l)) (g := g) (cap := cv) (base := w1.heap.size) (w := wr) (by rw [lstsO_len]; exact h2) (by rw [lstsO_len]; omega) HRI.out)
        rw [lstsO_len] at CS
        clear hown h2 h0 hAv
        go_wp2_with fail
        refine CS.out.mono ?_
        rintro e w2 ⟨rfl, hb2⟩
        have HB2 := Lib.hid hb2
        clear hb2
        go_wp2_with fail
        go_ret
        exact ⟨_, rfl, ownsRow_base (own_keepO HOWN.out HB2.out) hs1, HB1.out.trans ((HBR.out.trans (HB2.out.mono hrz)).mono hs1)⟩
end Go.Proofs.YtnphgcbknfmapaaGreatDoor
namespace Go.Proofs.YtnphgcbknfmapaaGreatDoor
open Go.RowKit Go.Lib
set_option linter.unusedVariables false

end Go.Proofs.YtnphgcbknfmapaaGreatDoor
