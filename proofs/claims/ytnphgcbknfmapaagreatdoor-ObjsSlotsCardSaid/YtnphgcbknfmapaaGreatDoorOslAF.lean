/- Contracts of the functions that the statement reaches, and the plain mathematics beneath: several texts joined. -/
import Derived.Laws.AppendOwn
import Derived.Sort.Grow
import Derived.Sort.Row
import Derived.Deep.AppendLies
import Derived.Deep.RegionLaw
import Derived.Deep.Cut
import Derived.Deep.CutBlock
import Derived.Deep.DeepCutAuto
import Derived.Laws.ResultCell
import Derived.Deep.MidRow
import Derived.Laws.OwnMore
import Derived.Test.YtnphgcbknfmapaaGreatDoorOslAD
import Derived.Test.YtnphgcbknfmapaaGreatDoorOslAB
import Derived.Test.YtnphgcbknfmapaaGreatDoorOslAE
namespace Go.Proofs.YtnphgcbknfmapaaGreatDoor
open Go.RowKit Go.Lib
set_option linter.unusedVariables false
set_option linter.unusedSimpArgs false

open Go.Sort in
theorem sholds_own {w : World} {base g n cap : Nat} {ss : List (List UInt8)} (h : w.ownsRow base 9 1 (.slice (some ⟨g, 0, none⟩) n cap) n (ss.map fun l => Value.string ⟨l.toArray⟩)) : Holds encStr w g 0 ss.toArray := by
  intro j hj
  have hj' : j < ss.length := by simpa using hj
  have hc := h.cells (g := g) rfl j (.string ⟨(ss[j]).toArray⟩) (by simp [hj'])
  have hadd : (⟨g, 0, none⟩ : Addr).add j = ⟨g, j, none⟩ := by unfold Addr.add; split <;> simp_all
  rw [hadd] at hc
  refine ⟨by rw [Nat.zero_add, hc]; simp [hj', encStr], ?_⟩
  rcases h.2 with ⟨e, _⟩ | ⟨g', cap', cur, e, _, hh, _⟩
  · cases e
  · injection e with e _ _; injection e with e; injection e with e _ _; subst e
    unfold World.frozen?; rw [hh]; simp
open Go.Sort in
theorem sort_rises {w : World} {base g cap : Nat} {ss : List (List UInt8)} (h : w.ownsRow base 9 1 (.slice (some ⟨g, 0, none⟩) ss.length cap) ss.length (ss.map fun l => Value.string ⟨l.toArray⟩)) (hsz : ss.length < 4611686018427387904) (hs : ss.mergeSort (fun x y => decide (x ≤ y)) = ss) :
    Calls Tryz.prog 66 #[.slice (some ⟨g, 0, none⟩) ss.length cap] w fun e w' => e = .returned (.tuple #[]) ∧ Below w.heap.size w w' := by
  have hH := sholds_own h
  refine (Tryz.slices_Sort_string g 0 cap ss w hH (h.lt g rfl).2 hsz).mono ?_
  rintro e w' ⟨rfl, n, os, he⟩
  rw [hs, putRow_self encStr (Sort.ahead w n) g 0 ss.toArray (holds_ahead _ _ _ _ _ _ hH)] at he
  refine ⟨rfl, ?_⟩
  rw [he]
  refine ⟨rfl, rfl, rfl, ?_, fun k hk => ?_⟩
  · unfold grow Sort.ahead; simp
  · unfold grow Sort.ahead; exact Array.getElem?_append_left hk
theorem ownsRow_base {w : World} {b b' : Nat} {e : TypeId} {size : Nat} {v : Value} {n : Nat} {xs : List Value} (h : w.ownsRow b e size v n xs) (hb : b' ≤ b) : w.ownsRow b' e size v n xs := by
  refine ⟨h.1, ?_⟩
  rcases h.2 with h1 | ⟨g, cap, cur, e1, e2, e3⟩
  · exact .inl h1
  · exact .inr ⟨g, cap, cur, e1, by omega, e3⟩
theorem Tab.nodupX {w : World} {B a m : Nat} {T : List OM} {mx : Int} (h : Tab w B a m T mx) {x : OM} (hx : x ∈ T) : x.blocks.Nodup := by
  have hs := (List.nodup_cons.1 (List.nodup_cons.1 h.sep).2).2
  obtain ⟨p, q, e⟩ := List.append_of_mem hx
  rw [e, blkT_split, List.nodup_append, List.nodup_append] at hs
  exact hs.2.1.1
theorem Tab.baseB {w : World} {B a m : Nat} {T : List OM} {mx : Int} (h : Tab w B a m T mx) : B ≤ w.heap.size := by
  have h1 := h.base a (List.mem_cons_self ..)
  have h2 := h.lt a (List.mem_cons_self ..)
  omega
section
variable {w : World} {B a m : Nat} {T : List OM} {mx o : Int} {x : OM}
end
end Go.Proofs.YtnphgcbknfmapaaGreatDoor
namespace Go.Proofs.YtnphgcbknfmapaaGreatDoor
open Go.RowKit Go.Lib
set_option linter.unusedVariables false

/-- The names of an object. -/
def dfO (l : List OB) (d : Int) : List ByteArray := match getO l d with
  | none => []
  | some x => x.defs
/-- The names up a row of objects. -/
def nmR (l : List OB) (r : List Int) : List ByteArray := r.flatMap (dfO l)
def nmO (l : List OB) (o : Int) : List ByteArray := nmR l (aboveO l o)
def strsO (l : List ByteArray) : List Value := l.map Value.string
theorem strsO_app (a b : List ByteArray) : strsO (a ++ b) = strsO a ++ strsO b := List.map_append
theorem strsO_one (l : List ByteArray) : ∀ u ∈ strsO l, u.oneCell' = true := by
  intro u hu
  obtain ⟨x, _, rfl⟩ := List.mem_map.1 hu
  rfl
theorem nmR_take {l : List OB} {r : List Int} {k : Nat} {d : Int} (h : r[k]? = some d) : nmR l (r.take (k + 1)) = nmR l (r.take k) ++ dfO l d := by
  unfold nmR
  rw [List.take_succ_eq_append_getElem (List.getElem?_eq_some_iff.1 h).1, List.flatMap_append]
  simp [(List.getElem?_eq_some_iff.1 h).2]
theorem nmR_le (l : List OB) (r : List Int) (k : Nat) : (nmR l (r.take k)).length ≤ (nmR l r).length := by
  have h : nmR l r = nmR l (r.take k) ++ nmR l (r.drop k) := by
    unfold nmR
    rw [← List.flatMap_append, List.take_append_drop]
  rw [h, List.length_append]
  omega
theorem dfO_some {l : List OB} {d : Int} {x : OB} (h : getO l d = some x) : dfO l d = x.defs := by unfold dfO; rw [h]
def lstsO (l : List ByteArray) : List (List UInt8) := l.map fun n => n.data.toList
open Go.Sort in
/-- The texts rise. -/
def RiseS (l : List ByteArray) : Prop := (lstsO l).mergeSort (fun x y => decide (x ≤ y)) = lstsO l
theorem lstsO_len (l : List ByteArray) : (lstsO l).length = l.length := by simp [lstsO]
theorem strsO_lists (l : List ByteArray) : strsO l = (lstsO l).map fun t => Value.string ⟨t.toArray⟩ := by
  unfold strsO lstsO
  rw [List.map_map]
  apply List.map_congr_left
  intro n _
  simp

set_option maxRecDepth 100000 in
set_option maxHeartbeats 2000000 in
theorem names_g {w : World} {B a m : Nat} {T : List OM} {c mx o : Int} (h : TabG w B a m T c mx) (ho : I64 o) (hpi : ParI T) (hsm : (nmO (obT T) o).length ≤ 100000) (hri : RiseS (nmO (obT T) o)) :
    Calls Tryz.prog 48 #[.pointer (some ⟨a, 0, none⟩), .int .i64 o] w fun e w' => ∃ v, e = .returned v ∧ w'.ownsRow w.heap.size 9 1 v (nmO (obT T) o).length (strsO (nmO (obT T) o)) ∧ Below w.heap.size w w' := by
  obtain ⟨i0, hi0, hz0, hz1, hz2⟩ := info_parts ostr_info
  have CA := Lib.hid (above_g h ho hpi)
  have HX := Lib.hid (fun x (hx : x ∈ aboveO (obT T) o) => mem_above hx)
  have H := Lib.hid h
  have hr0 := h.rng
  have HRG := Lib.hid hr0
  have hmx := h.mxr
  unfold nmO at hsm hri ⊢
  clear h ho hpi hr0
  generalize aboveO (obT T) o = l at CA HX hsm hri ⊢
  have HRI := Lib.hid hri
  clear hri
  go_enter Tryz.func48, Tryz.ntmps48
  go_wp2_with fail
  refine CA.out.mono ?_
  rintro e w1 ⟨v, rfl, hrow, hb1⟩
  obtain ⟨A, cA, rfl, hnc, hcm, hA, hcell⟩ := own_formO hrow
  unfold maxLen at hcm
  have HB1 := Lib.hid hb1
  have HCL := Lib.hid hcell
  have HR := Lib.hid hrow
  have hs1 := hb1.size
  clear hb1 hrow hcell
  go_wp2_with fail
  go_loopg [5, 12] l.length (fun kk ov iv wr => ∃ (k : Nat) (V : Value), V = ov ∧ iv = .int .i64 (k : Int) ∧ k + kk = l.length ∧ wr.ownsRow w1.heap.size 9 1 V (nmR (obT T) (l.take k)).length (strsO (nmR (obT T) (l.take k))) ∧ Below w1.heap.size w1 wr)
  case atStart => exact ⟨0, _, rfl, rfl, by omega, World.ownsRow_nil _ _ _ _, Below.refl _ _⟩
  case round =>
    obtain ⟨k, V, rfl, rfl, hik, hown, hbr⟩ := hrel
    have hrz := hbr.size
    by_cases hk : k < l.length
    · obtain ⟨j, rfl⟩ : ∃ j, gk = j + 1 := ⟨gk - 1, by omega⟩
      obtain ⟨x, hx⟩ : ∃ x, l[k]? = some x := ⟨l[k], List.getElem?_eq_some_iff.2 ⟨hk, rfl⟩⟩
      obtain ⟨g1, rfl, hc1⟩ := HCL.out k (.int .i64 x) (by simp [intsO, hx])
      have hg1 := HR.out.lt g1 rfl
      obtain ⟨y, hym, hfy⟩ := HX.out x (List.mem_of_getElem? hx)
      have hbw : Below w.heap.size w wr := HB1.out.trans (hbr.mono hs1)
      have ht := H.out.below hbw
      have c0 := ht.c0
      have hyx := (findT_some hfy).2
      have hry := HRG.out y hym
      have hl := ht.look (o := x) ⟨by omega, by omega⟩
      rw [ptrT_some hfy] at hl
      have hcr : wr.cell? ⟨g1, k, none⟩ = some (.int .i64 x) := (hbr.cell (p := ⟨g1, k, none⟩) hg1.2).trans hc1
      have h7 : wr.cell? ⟨y.g, 7, none⟩ = some y.dv := H.out.cellX hbw hym 7
      have hle := nmR_le (obT T) l (k + 1)
      rw [nmR_take hx, dfO_some (getO_some' hfy), List.length_append] at hle
      obtain ⟨Av, cv, rfl⟩ : ∃ A C, V = .slice A (nmR (obT T) (l.take k)).length C := by obtain ⟨A, C, e, _⟩ := own_formO hown; exact ⟨A, C, e⟩
      obtain ⟨Ad, cd, hdv⟩ : ∃ A C, y.dv = .slice A y.o.defs.length C := by obtain ⟨A, C, e, _⟩ := own_formO (ht.rowD hym); exact ⟨A, C, e⟩
      have hsrc := ht.rowD hym
      rw [hdv] at hsrc h7
      have HSRC := Lib.hid hsrc
      have HOWN := Lib.hid hown
      have HBR := Lib.hid hbr
      have HNX := Lib.hid (show nmR (obT T) (l.take (k + 1)) = nmR (obT T) (l.take k) ++ y.o.defs by rw [nmR_take hx, dfO_some (getO_some' hfy)])
      clear hbr hx hfy hbw ht hc1 hry hyx hown hsrc hdv
      go_wp2_with (at_builtin; refine wpList_append_rowO rfl (.tmp 16) (.tmp 25) 25 rfl w1.heap.size 9 i0 (.string ⟨#[]⟩) 1 16 Tryz.underlying25 hi0 hz0 hz1 hz2 rfl (by decide) (.slice Av (nmR (obT T) (l.take k)).length cv) (nmR (obT T) (l.take k)).length (strsO (nmR (obT T) (l.take k))) rfl HOWN.out (.slice Ad y.o.defs.length cd) B y.o.defs.length (strsO y.o.defs) rfl HSRC.out (strsO_one _) ?c1 ?c2 ?c3 ?_
                   case c1 => unfold maxLen; omega
                   case c2 => omega
                   case c3 => omega
                   intro v' w11 hown' hgrow
                   have HB11 := Lib.hid (Below.grown HBR.out hgrow (by omega) (fun k hk => (HOWN.out.lt k hk).1))
                   have HO11 := Lib.hid hown'
                   clear hown' hgrow)
      go_roundg j
      case measure => omega
      case rel => exact ⟨k + 1, v', rfl, by go_num, by omega, by rw [HNX.out, List.length_append, strsO_app]; exact HO11.out, HB11.out⟩
    · obtain rfl : k = l.length := by omega
      rw [List.take_length] at hown
      obtain ⟨Av, cv, rfl, hnv, hcv, hAv, _⟩ := own_formO hown
      have HBR := Lib.hid hbr
      clear hbr
      by_cases h0 : (nmR (obT T) l).length = 0
      · have HOWN := Lib.hid hown
        have HV := Lib.hid h0
        have CS := Lib.hid (show ∀ W, Calls Tryz.prog 66 #[.slice Av (nmR (obT T) l).length cv] W fun e w' => e = .returned (.tuple #[]) ∧ w' = W by intro W; rw [h0]; exact Tryz.slices_Sort_string_none Av cv W)
        clear hown h0 hAv
        go_wp2_with fail
        refine (CS.out _).mono ?_
        rintro e w2 ⟨rfl, rfl⟩
        go_wp2_with fail
        go_ret
        exact ⟨_, rfl, ownsRow_base HOWN.out hs1, HB1.out.trans (HBR.out.mono hs1)⟩
      · obtain ⟨g, rfl⟩ : ∃ g, Av = some ⟨g, 0, none⟩ := by
          rcases hown.2 with ⟨e1, _⟩ | ⟨g, cap, cur, e1, _⟩
          · injection e1 with _ e2 _; exact absurd e2 h0
          · injection e1 with e1 _ _; exact ⟨g, e1⟩
        have HOWN := Lib.hid hown
        have h2 := hown
        rw [strsO_lists] at h2
        have CS := Lib.hid (sort_rises (ss := lstsO (nmR (obT T) l)) (g := g) (cap := cv) (base := w1.heap.size) (w := wr) (by rw [lstsO_len]; exact h2) (by rw [lstsO_len]; omega) HRI.out)
        rw [lstsO_len] at CS
        clear hown h2 h0 hAv
        go_wp2_with fail
        refine CS.out.mono ?_
        rintro e w2 ⟨rfl, hb2⟩
        have HB2 := Lib.hid hb2
        clear hb2
        go_wp2_with fail
        go_ret
        exact ⟨_, rfl, ownsRow_base (own_keepO HOWN.out HB2.out) hs1, HB1.out.trans ((HBR.out.trans (HB2.out.mono hrz)).mono hs1)⟩
end Go.Proofs.YtnphgcbknfmapaaGreatDoor
namespace Go.Proofs.YtnphgcbknfmapaaGreatDoor
open Go.RowKit Go.Lib
set_option linter.unusedVariables false

theorem results_rowP {P : Program} {fn : Func} {p u : Tmp} {ty : TypeId} (h : fn.results = #[.cell p ty, .tmp u]) (tmps : Array Value) (w : World) (g : Nat) (t : TypeId) (cs : Array Value) (fr : Nat × Nat) (d : TypeDesc)
    (hp : tmps.getD p undef = .pointer (some ⟨g, 0, none⟩)) (hg : w.heap[g]? = some (.cells cs t fr))
    (hu : P.underlying ty = some d) (hd : (match d with | .struct _ | .array _ _ => true | _ => false) = true) (hi : (P.info? ty).map (·.size) = some cs.size) :
    (results fn tmps).run P w = .ok (.tuple #[.agg cs, tmps.getD u undef]) w := by
  rw [results_cell_tmp h, hp]
  simp [asAddr, run_loadVar_row w g t ty cs fr d hg hu hd hi, Result.andThen]
theorem findT_of_getO {T : List OM} {d : Int} {x : OB} (h : getO (obT T) d = some x) : ∃ y, findT T d = some y ∧ y.o = x := by
  rw [getO_obT] at h
  cases hf : findT T d with
  | none => rw [hf] at h; cases h
  | some y => rw [hf] at h; injection h with h; exact ⟨y, rfl, h⟩
end Go.Proofs.YtnphgcbknfmapaaGreatDoor
namespace Go.Proofs.YtnphgcbknfmapaaGreatDoor
open Go.RowKit Go.Lib
set_option linter.unusedVariables false

theorem there_row {w : World} {b o n t : Nat} {cs : Array Value} (h : w.heap[b]? = some (.cells cs t (0, 0))) (hn : o + n ≤ cs.size) : w.there b o n := by
  intro j hj
  refine ⟨?_, frozen_of_row w b (o + j) _ _ h⟩
  rw [cell_of_row w b (o + j) _ _ _ h, Array.getElem?_eq_getElem (by omega)]
  rfl
def setAt (cs : Array Value) : Nat → List Value → Array Value
  | _, [] => cs
  | o, v :: r => setAt (cs.setIfInBounds o v) (o + 1) r
theorem setCells_row (b t : Nat) : ∀ (vs : List Value) (o : Nat) (w : World) (cs : Array Value), w.heap[b]? = some (.cells cs t (0, 0)) → (w.setCells b o vs).heap[b]? = some (.cells (setAt cs o vs) t (0, 0))
  | [], _, _, _, h => h
  | v :: r, o, w, cs, h => by
    rw [World.setCells, setAt]
    exact setCells_row b t r (o + 1) _ _ (heap_setCell_same w b o cs t v h)
theorem below_setCells {B b : Nat} {a : World} (hB : B ≤ b) : ∀ (vs : List Value) (o : Nat) (w : World), Below B a w → Below B a (w.setCells b o vs)
  | [], _, _, h => h
  | v :: r, o, w, h => by
    rw [World.setCells]
    exact below_setCells hB r (o + 1) _ (h.setCell (p := ⟨b, o, none⟩) hB v)
end Go.Proofs.YtnphgcbknfmapaaGreatDoor
namespace Go.Proofs.YtnphgcbknfmapaaGreatDoor
open Go.RowKit Go.Lib
set_option linter.unusedVariables false

/-- A copy of an object: its rows are its own. -/
structure CpO (w w' : World) (x : OB) (dv sv : Value) : Prop where
  defs : w'.ownsRow w.heap.size 9 1 dv x.defs.length (strsO x.defs)
  slots : w'.ownsRow w.heap.size 35 8 sv x.slots.length (x.slots.flatMap SL.cells)
  apart : ∀ b, dv.ownBlock = some b → sv.ownBlock ≠ some b
  nild : x.defs = [] → dv = .slice none 0 0
  nils : x.slots = [] → sv = .slice none 0 0
  below : Below w.heap.size w w'

/-- A row of names copied. -/
theorem clone_s {w : World} {B : Nat} {v : Value} {l : List ByteArray} (h : w.ownsRow B 9 1 v l.length (strsO l)) (hn : l = [] → v = .slice none 0 0) (hl : l.length ≤ 1000) :
    Calls Tryz.prog 83 #[v] w fun e w' => ∃ v', e = .returned v' ∧ w'.ownsRow w.heap.size 9 1 v' l.length (strsO l) ∧ (l = [] → v' = .slice none 0 0) ∧ Below w.heap.size w w' := by
  cases l with
  | nil =>
    rw [hn rfl]
    refine (Tryz.slices_Clone_string_nil 0 0 _).mono ?_
    rintro e w1 ⟨rfl, rfl⟩
    exact ⟨_, rfl, World.ownsRow_nil _ _ _ _, fun _ => rfl, Below.refl _ _⟩
  | cons n r =>
    obtain ⟨A, c, rfl, hnc, hcm, hA, hcell⟩ := own_formO h
    obtain ⟨g, rfl, _⟩ := hcell 0 (.string n) rfl
    refine (Tryz.slices_Clone_string g 0 (n :: r).length c (n :: r) w (Nat.le_refl _) (by omega) ?_).mono ?_
    · intro j hj
      obtain ⟨g2, e, hc⟩ := hcell j (.string ((n :: r).getD j ByteArray.empty)) (by rw [strsO, List.getElem?_map, List.getD_eq_getElem?_getD, List.getElem?_eq_getElem hj]; rfl)
      injection e with e
      injection e with e _ _
      subst e
      rw [Nat.zero_add]
      exact hc
    · rintro e w1 ⟨v', rfl, hown, _, hb⟩
      rw [List.take_length] at hown
      exact ⟨_, rfl, hown, fun e => (by cases e), hb⟩

set_option maxRecDepth 100000 in
set_option maxHeartbeats 4000000 in
theorem object_r {w : World} {Bd Bs : Nat} (x : OM) (hd : w.ownsRow Bd 9 1 x.dv x.o.defs.length (strsO x.o.defs)) (hs : w.ownsRow Bs 35 8 x.sv x.o.slots.length (x.o.slots.flatMap SL.cells)) (hnd : x.o.defs = [] → x.dv = .slice none 0 0) (hfl : ∀ s ∈ x.o.slots, FlatS s) (hdl : x.o.defs.length ≤ 1000) (hsl : x.o.slots.length ≤ 1000) :
    Calls Tryz.prog 43 #[.agg x.cells] w fun e w' => ∃ dv sv, e = .returned (.agg ({ x with dv := dv, sv := sv } : OM).cells) ∧ CpO w w' x.o dv sv := by
  obtain ⟨i0, hi0, hz0, hz1, hz2⟩ := info_parts slot_info
  have hcl := fun W (hb : Below w.heap.size w W) => clone_s (own_keepO hd hb) hnd hdl
  obtain ⟨⟨id, parent, owner, place, flags, quota, name, defs, slots⟩, gx, dv0, sv0⟩ := x
  obtain ⟨A, c, hsv, hnc, hcm, hA, hcell⟩ := own_formO hs
  simp only at hsv hs hd hnd hfl hdl hsl hcl hnc hcell ⊢
  subst hsv
  have HCL := Lib.hid hcl
  have HC := Lib.hid hcell
  have HS := Lib.hid hs
  have HFL := Lib.hid hfl
  unfold OM.cells
  simp only
  clear hcl hcell hs hfl hd hnd hA
  go_enter Tryz.func43, Tryz.ntmps43
  go_wp2_with fail
  refine (HCL.out _ (((Below.refl _ _).alloc (Nat.le_refl _) _).alloc (by simp) _)).mono ?_
  rintro e w1 ⟨dv, rfl, hdv, hnd, hb1⟩
  have hA1 := (hb1.block w.heap.size (by simp; omega)).trans ((Below.heap_alloc _ _ _ (by simp)).trans (heap_alloc_new w _))
  have hZ1 := (hb1.block (w.heap.size + 1) (by simp)).trans (heap_alloc2_new _ _ _)
  obtain ⟨Ad, cd, rfl, _⟩ := own_formO hdv
  obtain ⟨w2, hw2⟩ : ∃ w2, w2 = w1.setCell ⟨w.heap.size, 7, none⟩ (.slice Ad defs.length cd) := ⟨_, rfl⟩
  have hs1 : w.heap.size + 2 ≤ w1.heap.size := by have := hb1.size; simpa using this
  have hs2 : w2.heap.size = w1.heap.size := by rw [hw2]; simp [World.setCell]
  have hbw1 : Below w.heap.size w w1 := (((Below.refl w.heap.size w).alloc (Nat.le_refl _) _).alloc (by simp) _).trans (hb1.mono (by simp; omega))
  have hb2 : Below w.heap.size w w2 := by rw [hw2]; exact hbw1.setCell (Nat.le_refl _) _
  have hA2 : w2.heap[w.heap.size]? = some (.cells #[.int .i64 id, .int .i64 parent, .int .i64 owner, .int .i64 place, .int .i64 flags, .int .i64 quota, .string name, .slice Ad defs.length cd, .slice A slots.length c, .slice none 0 0] 29 (0, 0)) := by
    rw [hw2]
    exact heap_setCell_same w1 w.heap.size 7 _ _ _ hA1
  have hZ2 : w2.heap[w.heap.size + 1]? = some (.cells #[.int .i64 0, .int .i64 0, .int .i64 0, .int .i64 0, .int .i64 0, .int .i64 0, .string ⟨#[]⟩, .slice none 0 0, .slice none 0 0, .slice none 0 0] 29 (0, 0)) := by
    rw [hw2]
    exact (Below.heap_setCell _ _ _ _ (by simp)).trans hZ1
  have hdv2 : w2.ownsRow (w.heap.size + 2) 9 1 (.slice Ad defs.length cd) defs.length (strsO defs) := by
    rw [hw2]
    exact ownsRow_same (ownsRow_base hdv (by simp)) fun b hb => Below.heap_setCell _ _ _ _ (by have := (hdv.lt b hb).1; simp at this; simp; omega)
  have f7 := frozen_of_row w1 w.heap.size 7 _ _ hA1
  have a7 := cell_of_row w1 w.heap.size 7 _ _ _ hA1
  have b8 := cell_of_row w2 w.heap.size 8 _ _ _ hA2
  have b8' : (w1.setCell ⟨w.heap.size, 7, none⟩ (.slice Ad defs.length cd)).cell? ⟨w.heap.size, 8, none⟩ = some (.slice A slots.length c) := by rw [← hw2]; exact b8
  have HW2 := Lib.hid hw2
  have HB2 := Lib.hid hb2
  have HA2 := Lib.hid hA2
  have HZ2 := Lib.hid hZ2
  have HDV := Lib.hid hdv2
  have HND := Lib.hid hnd
  clear hA1 hZ1 hw2 hbw1 hb2 hA2 hZ2 hdv hdv2 hnd hb1 b8
  go_wp2_with fail
  rw [← HW2.out]
  go_loopg [3, 16] slots.length (fun kk ov iv wr => ∃ (i : Nat) (V : Value), V = ov ∧ iv = .int .i64 (i : Int) ∧ i + kk = slots.length ∧ wr.ownsRow w2.heap.size 35 8 V i ((slots.take i).flatMap SL.cells) ∧ (i = 0 → V = .slice none 0 0) ∧ Below w2.heap.size w2 wr)
  case atStart => exact ⟨0, _, rfl, rfl, by omega, World.ownsRow_nil _ _ _ _, fun _ => rfl, Below.refl _ _⟩
  case round =>
    obtain ⟨i, V, rfl, rfl, hik, hown, hnil, hbr⟩ := hrel
    have hrz := hbr.size
    obtain ⟨Av, cv, rfl⟩ : ∃ A C, V = .slice A i C := by obtain ⟨A, C, e, _⟩ := own_formO hown; exact ⟨A, C, e⟩
    by_cases hi : i < slots.length
    · obtain ⟨j, rfl⟩ : ∃ j, gk = j + 1 := ⟨gk - 1, by omega⟩
      obtain ⟨s, hs⟩ : ∃ s, slots[i]? = some s := ⟨slots[i], List.getElem?_eq_some_iff.2 ⟨hi, rfl⟩⟩
      have hfl := HFL.out s (List.mem_of_getElem? hs)
      have hnext : (slots.take i).flatMap SL.cells ++ s.cells = (slots.take (i + 1)).flatMap SL.cells := by
        rw [List.take_add_one, hs, List.flatMap_append]
        simp
      obtain ⟨nm, ow, bits, clr, kind, num, text⟩ := s
      obtain ⟨_, _, e1, e2⟩ := hfl
      simp only at e1 e2
      subst e1
      subst e2
      have hbw := HB2.out.trans (hbr.mono HB2.out.size)
      have hrd : ∃ g1, A = some ⟨g1, 0, none⟩ ∧ ∀ j, j < 8 → ∀ u, (SL.mk nm ow bits clr 0 num ⟨#[]⟩).cells[j]? = some u → wr.cell? ⟨g1, i * 8 + j, none⟩ = some u := by
        obtain ⟨g1, e, _⟩ := HC.out (i * 8 + 0) (.string nm) (by rw [slCells_at _ _ _ 0 hs (by omega)]; rfl)
        refine ⟨g1, e, fun j hj u hu => ?_⟩
        obtain ⟨g2, e2, hc⟩ := HC.out (i * 8 + j) u (by rw [slCells_at _ _ _ j hs hj]; exact hu)
        rw [e] at e2
        injection e2 with e2
        injection e2 with e2 _ _
        subst e2
        exact (hbw.cell (p := ⟨g1, i * 8 + j, none⟩) (HS.out.lt g1 (by rw [e]; rfl)).2).trans hc
      obtain ⟨g1, rfl, hrd⟩ := hrd
      have r0 := hrd 0 (by omega) _ rfl
      rw [Nat.add_zero] at r0
      have r1 := hrd 1 (by omega) _ rfl
      have r2 := hrd 2 (by omega) _ rfl
      have r3 := hrd 3 (by omega) _ rfl
      have r4 := hrd 4 (by omega) _ rfl
      have r5 := hrd 5 (by omega) _ rfl
      have r6 := hrd 6 (by omega) _ rfl
      have r7 := hrd 7 (by omega) _ rfl
      have CC := Lib.hid (show ∀ W, Calls Tryz.prog 59 #[.agg #[.int .i64 0, .int .i64 num, .string ⟨#[]⟩, .slice none 0 0]] W (fun e w' => e = .returned (.agg #[.int .i64 0, .int .i64 num, .string ⟨#[]⟩, .slice none 0 0]) ∧ Below W.heap.size W w') from fun W => clone_int num W)
      have HOW := Lib.hid hown
      have HBR := Lib.hid hbr
      have HNX := Lib.hid hnext
      have HIC := Lib.hid (show i < 1000 from by omega)
      clear hbw hrd hs hown hbr hnext hnil
      go_wp2_with fail
      refine (CC.out _).mono ?_
      rintro e w7 ⟨rfl, hb7⟩
      have hr7 := (hb7.block wr.heap.size (by simp)).trans (heap_alloc_new wr _)
      have hbr7 : Below wr.heap.size wr w7 := ((Below.refl _ wr).alloc (Nat.le_refl _) _).trans (hb7.mono (by simp))
      obtain ⟨w8, hw8⟩ : ∃ w8, w8 = w7.setCells wr.heap.size 4 [.int .i64 0, .int .i64 num, .string ⟨#[]⟩, .slice none 0 0] := ⟨_, rfl⟩
      have hr8 : w8.heap[wr.heap.size]? = some (.cells #[.string nm, .int .i64 ow, .int .i64 bits, .bool clr, .int .i64 0, .int .i64 num, .string ⟨#[]⟩, .slice none 0 0] 35 (0, 0)) := by
        rw [hw8]
        exact setCells_row _ _ _ _ _ _ hr7
      have hb8 : Below wr.heap.size wr w8 := by
        rw [hw8]
        exact below_setCells (Nat.le_refl _) _ _ _ hbr7
      have y0 := cell_of_row w8 wr.heap.size 0 _ _ _ hr8
      have y1 := cell_of_row w8 wr.heap.size 1 _ _ _ hr8
      have y2 := cell_of_row w8 wr.heap.size 2 _ _ _ hr8
      have y3 := cell_of_row w8 wr.heap.size 3 _ _ _ hr8
      have y4 := cell_of_row w8 wr.heap.size 4 _ _ _ hr8
      have y5 := cell_of_row w8 wr.heap.size 5 _ _ _ hr8
      have y6 := cell_of_row w8 wr.heap.size 6 _ _ _ hr8
      have y7 := cell_of_row w8 wr.heap.size 7 _ _ _ hr8
      have HTH := Lib.hid (there_row (o := 4) (n := 4) hr7 (by simp))
      have HW8 := Lib.hid hw8
      have HB8 := Lib.hid hb8
      have hz8 := hb8.size
      clear hb7 hr7 hbr7 hw8 hr8 hb8 r0 r1 r2 r3 r4 r5 r6 r7
      go_wp2_with (first
        | (refine wpList_store_mid rfl 33 (.tmp 23) (.tmp 22) rfl wr.heap.size 4 #[.int .i64 0, .int .i64 num, .string ⟨#[]⟩, .slice none 0 0] rfl rfl HTH.out (by kernel_rfl) (by simp [Value.oneCell']) ?_
           rw [show w7.setCells wr.heap.size 4 (#[.int .i64 0, .int .i64 num, .string ⟨#[]⟩, .slice none 0 0] : Array Value).toList = w8 from HW8.out.symm])
        | (at_builtin; refine wpList_append_own _ rfl (.tmp 24) (.tmp 26) 26 rfl w2.heap.size 35 i0 _ 8 96 Tryz.underlying26 hi0 hz0 hz1 hz2 rfl (by decide) (.slice Av i cv) i ((slots.take i).flatMap SL.cells) rfl (own_keepO (own_keepO HOW.out HB8.out) ((Below.refl _ _).alloc (Nat.le_refl _) _)) ⟨w8.heap.size, 0, none⟩ 1 1 [.string nm, .int .i64 ow, .int .i64 bits, .bool clr, .int .i64 0, .int .i64 num, .string ⟨#[]⟩, .slice none 0 0] rfl rfl ?c1 ?c2 ?c3 ?c4 ?c5 ?c6
           case c1 => exact news8 _ _ _ _ _ _ _ _ _ _
           case c2 => exact one8 _ _ _ _ _ _ _
           case c3 => unfold maxLen; have := HIC.out; omega
           case c4 => have := HIC.out; omega
           case c5 => simp; omega
           intro v' w11 hown' hgrow hat
           have HB11 := Lib.hid (Below.grown ((HBR.out.trans (HB8.out.mono hrz)).alloc (by omega) _) hgrow (by simp; omega) (fun k hk => (HOW.out.lt k hk).1))
           have HO11 := Lib.hid hown'
           clear hown' hgrow hat))
      go_roundg j
      case measure => omega
      case rel => exact ⟨i + 1, v', rfl, by go_num, by omega, by rw [← HNX.out]; exact HO11.out, (fun e => by omega), HB11.out⟩
    · obtain rfl : i = slots.length := by omega
      rw [List.take_length] at hown
      have hgr := (hbr.block w.heap.size (by omega)).trans HA2.out
      have hzr := (hbr.block (w.heap.size + 1) (by omega)).trans HZ2.out
      have hdr : wr.ownsRow (w.heap.size + 2) 9 1 (.slice Ad defs.length cd) defs.length (strsO defs) := ownsRow_same HDV.out fun b hb => hbr.block b (HDV.out.lt b hb).2
      have hap : ∀ b, (Value.slice Ad defs.length cd).ownBlock = some b → (Value.slice Av slots.length cv).ownBlock ≠ some b := by
        intro b hb hb2
        have h1 := (HDV.out.lt b hb).2
        have h2 := (hown.lt b hb2).1
        omega
      have hni : slots = [] → Value.slice Av slots.length cv = .slice none 0 0 := fun e => hnil (by rw [e]; rfl)
      have hbw := HB2.out.trans (hbr.mono HB2.out.size)
      obtain ⟨w3, hw3⟩ : ∃ w3, w3 = (wr.setCell ⟨w.heap.size, 8, none⟩ (.slice Av slots.length cv)).setCell ⟨w.heap.size, 9, none⟩ (.slice none 0 0) := ⟨_, rfl⟩
      have hg3 : w3.heap[w.heap.size]? = some (.cells #[.int .i64 id, .int .i64 parent, .int .i64 owner, .int .i64 place, .int .i64 flags, .int .i64 quota, .string name, .slice Ad defs.length cd, .slice Av slots.length cv, .slice none 0 0] 29 (0, 0)) := by
        rw [hw3]
        exact heap_setCell_same _ w.heap.size 9 _ _ _ (heap_setCell_same _ w.heap.size 8 _ _ _ hgr)
      have hk3 : ∀ b, b ≠ w.heap.size → w3.heap[b]? = wr.heap[b]? := by
        intro b hb
        rw [hw3]
        exact (Below.heap_setCell _ _ _ _ hb).trans (Below.heap_setCell _ _ _ _ hb)
      have hz3 := (hk3 (w.heap.size + 1) (by omega)).trans hzr
      have hb3 : Below w.heap.size w w3 := by rw [hw3]; exact (hbw.setCell (Nat.le_refl _) _).setCell (Nat.le_refl _) _
      have f8 := frozen_of_row wr w.heap.size 8 _ _ hgr
      have f9 := frozen_of_row wr w.heap.size 9 _ _ hgr
      have a9 := cell_of_row wr w.heap.size 9 _ _ _ hgr
      have a8 := cell_of_row wr w.heap.size 8 _ _ _ hgr
      have y0 := cell_of_row w3 w.heap.size 0 _ _ _ hg3
      have y1 := cell_of_row w3 w.heap.size 1 _ _ _ hg3
      have y2 := cell_of_row w3 w.heap.size 2 _ _ _ hg3
      have y3 := cell_of_row w3 w.heap.size 3 _ _ _ hg3
      have y4 := cell_of_row w3 w.heap.size 4 _ _ _ hg3
      have y5 := cell_of_row w3 w.heap.size 5 _ _ _ hg3
      have y6 := cell_of_row w3 w.heap.size 6 _ _ _ hg3
      have y7 := cell_of_row w3 w.heap.size 7 _ _ _ hg3
      have y8 := cell_of_row w3 w.heap.size 8 _ _ _ hg3
      have y9 := cell_of_row w3 w.heap.size 9 _ _ _ hg3
      rw [hw3] at y0 y1 y2 y3 y4 y5 y6 y7 y8 y9
      have HW3 := Lib.hid hw3
      have HZ3 := Lib.hid hz3
      have hrw : (w3.setRow (w.heap.size + 1) #[.int .i64 id, .int .i64 parent, .int .i64 owner, .int .i64 place, .int .i64 flags, .int .i64 quota, .string name, .slice Ad defs.length cd, .slice Av slots.length cv, .slice none 0 0]).heap[w.heap.size + 1]? = _ := setRow_heap w3 (w.heap.size + 1) _ _ _ _ hz3
      have HROW := Lib.hid hrw
      have hsr : ∀ b, b ≠ w.heap.size + 1 → (w3.setRow (w.heap.size + 1) #[.int .i64 id, .int .i64 parent, .int .i64 owner, .int .i64 place, .int .i64 flags, .int .i64 quota, .string name, .slice Ad defs.length cd, .slice Av slots.length cv, .slice none 0 0]).heap[b]? = w3.heap[b]? := fun b hb => setRow_other w3 _ b _ hb
      have HCP := Lib.hid (show CpO w (w3.setRow (w.heap.size + 1) #[.int .i64 id, .int .i64 parent, .int .i64 owner, .int .i64 place, .int .i64 flags, .int .i64 quota, .string name, .slice Ad defs.length cd, .slice Av slots.length cv, .slice none 0 0]) ⟨id, parent, owner, place, flags, quota, name, defs, slots⟩ (.slice Ad defs.length cd) (.slice Av slots.length cv) from
        ⟨ownsRow_base (ownsRow_same hdr fun b hb => (hsr b (by have := (hdr.lt b hb).1; omega)).trans (hk3 b (by have := (hdr.lt b hb).1; omega))) (by omega),
         ownsRow_base (ownsRow_same hown fun b hb => (hsr b (by have := (hown.lt b hb).1; omega)).trans (hk3 b (by have := (hown.lt b hb).1; omega))) (by omega), hap, HND.out, hni, sbelow_setRow hb3 (by omega) _⟩)
      clear hown hgr hzr hdr hap hni hbw hw3 hg3 hk3 hz3 hb3 hrw hsr hbr hnil
      go_wp2_with fail
      refine wp_loop_rounds 1 ?_
      rw [rounds_succ]
      go_wp2_with (rw [← HW3.out]; refine wpList_store_row rfl 29 (.tmp 2) (.tmp 49) rfl (w.heap.size + 1) #[.int .i64 id, .int .i64 parent, .int .i64 owner, .int .i64 place, .int .i64 flags, .int .i64 quota, .string name, .slice Ad defs.length cd, .slice Av slots.length cv, .slice none 0 0] rfl rfl _ _ HZ3.out (by kernel_rfl) rfl (by simp [Value.oneCell']) ?_)
      exact bodyPost_ret (results_cell_row (P := Tryz.prog) rfl _ _ (w.heap.size + 1) _ _ _ _ rfl HROW.out Tryz.underlying29 rfl (by kernel_rfl)) rfl ⟨_, _, rfl, HCP.out⟩
end Go.Proofs.YtnphgcbknfmapaaGreatDoor
namespace Go.Proofs.YtnphgcbknfmapaaGreatDoor
open Go.RowKit Go.Lib
set_option linter.unusedVariables false

section
variable {w : World} {B a m : Nat} {T : List OM} {mx o : Int} {x : OM}
end
end Go.Proofs.YtnphgcbknfmapaaGreatDoor
namespace Go.Proofs.YtnphgcbknfmapaaGreatDoor
open Go.RowKit Go.Lib
set_option linter.unusedVariables false

/-- The table as it stands; what the law itself laid beside it. -/
def LS (B : Nat) (w0 w : World) (a m : Nat) (l : List OB) (mx : Int) (K : List (Nat × Obj)) : Prop :=
  ∃ T, TS w B a m T mx ∧ obT T = l ∧ Below B w0 w ∧ ∀ p ∈ K, w.heap[p.1]? = some p.2 ∧ p.1 ∉ a :: m :: blkT T
section
variable {B a m : Nat} {w0 w w' : World} {l l' : List OB} {mx mx' o : Int} {K : List (Nat × Obj)} {x : OB}
theorem TS.baseB {T : List OM} (h : TS w B a m T mx) : B ≤ w.heap.size := by
  have h1 := h.tab.base a (List.mem_cons_self ..)
  have h2 := h.tab.lt a (List.mem_cons_self ..)
  omega
theorem ls_step {T T' : List OM} (ht : TS w B a m T mx) (hb : Below B w0 w) (hK : ∀ p ∈ K, w.heap[p.1]? = some p.2 ∧ p.1 ∉ a :: m :: blkT T) (hs : StS w w' B a m T T' mx mx') (hl : obT T' = l') : LS B w0 w' a m l' mx' K := by
  refine ⟨T', hs.ts, hl, hb.trans (hs.chg.below ht.baseB fun i hi => ht.tab.base i hi), fun p hp => ?_⟩
  obtain ⟨h1, h2⟩ := hK p hp
  have hlt : p.1 < w.heap.size := (Array.getElem?_eq_some_iff.1 h1).1
  refine ⟨(hs.chg.block p.1 hlt h2).trans h1, fun hm => ?_⟩
  rcases List.mem_cons.1 hm with e | hm
  · exact h2 (by rw [e]; exact List.mem_cons_self ..)
  rcases List.mem_cons.1 hm with e | hm
  · exact h2 (by rw [e]; exact List.mem_cons_of_mem _ (List.mem_cons_self ..))
  rcases hs.new p.1 hm with e | e
  · exact h2 (List.mem_cons_of_mem _ (List.mem_cons_of_mem _ e))
  · omega
theorem LS.below (h : LS B w0 w a m l mx K) (hb : Below w.heap.size w w') : LS B w0 w' a m l mx K := by
  obtain ⟨T, ht, hl, h0, hK⟩ := h
  refine ⟨T, ht.keep hb, hl, h0.trans (hb.mono ht.baseB), fun p hp => ?_⟩
  obtain ⟨h1, h2⟩ := hK p hp
  exact ⟨(hb.block p.1 (Array.getElem?_eq_some_iff.1 h1).1).trans h1, h2⟩
theorem LS.row {g : Nat} {ob : Obj} (h : LS B w0 w a m l mx K) (hp : (g, ob) ∈ K) : w.heap[g]? = some ob := by
  obtain ⟨T, ht, hl, h0, hK⟩ := h
  exact (hK _ hp).1
theorem LS.base (h : LS B w0 w a m l mx K) : Below B w0 w := by
  obtain ⟨T, ht, hl, h0, hK⟩ := h
  exact h0
theorem createo_L (h : LS B w0 w a m l mx K) {p ow : Int} (how : ¬ ow = -1) (hp : I64 p) (hx : getO l p = some x) (hfew : l.length < 512) (hmm : mx + 1 < 1073741824) (hsl : x.slots.length ≤ 1000) :
    Calls Tryz.prog 12 #[.pointer (some ⟨a, 0, none⟩), .int .i64 p, .int .i64 ow] w fun e w' => e = .returned (.tuple #[.int .i64 (mx + 1), .int .i64 0]) ∧ LS B w0 w' a m (l ++ [newO mx p ow (x.slots.map fun s => freshO s ow)]) (mx + 1) K := by
  obtain ⟨T, ht, rfl, h0, hK⟩ := h
  obtain ⟨y, hy, rfl⟩ := findT_of_getO hx
  refine (create_so how ht hp hy (by simpa [obT] using hfew) hmm hsl).mono ?_
  rintro e w' ⟨rfl, sv, hs⟩
  exact ⟨rfl, ls_step ht h0 hK hs (by simp [obT, newS])⟩
end
end Go.Proofs.YtnphgcbknfmapaaGreatDoor
namespace Go.Proofs.YtnphgcbknfmapaaGreatDoor
open Go.RowKit Go.Lib
set_option linter.unusedVariables false
set_option linter.unusedSimpArgs false

section
variable {B a m : Nat} {w0 w w' : World} {l l' : List OB} {mx mx' o : Int} {K : List (Nat × Obj)} {x : OB}
theorem ls_at {T T' : List OM} {W : World} (ht : TS w B a m T mx) (hb : Below B w0 w) (hK : ∀ p ∈ K, w.heap[p.1]? = some p.2 ∧ p.1 ∉ a :: m :: blkT T) (hW : Below w.heap.size w W) (hs : StS W w' B a m T T' mx mx') (hl : obT T' = l') : LS B w0 w' a m l' mx' K :=
  ls_step (ht.keep hW) (hb.trans (hW.mono ht.baseB)) (fun p hp => ⟨(hW.block p.1 (Array.getElem?_eq_some_iff.1 (hK p hp).1).1).trans (hK p hp).1, (hK p hp).2⟩) hs hl
end
end Go.Proofs.YtnphgcbknfmapaaGreatDoor
