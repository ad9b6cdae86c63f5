/- Contracts of the functions that the statement reaches, and the plain mathematics beneath: several texts joined. -/
import Derived.Maps.Views
import Derived.StringKeys
import Derived.Test.YtnphgcbknfmapaaGreatDoorOslAH
import Derived.Test.YtnphgcbknfmapaaGreatDoorOslAF
import Derived.Test.YtnphgcbknfmapaaGreatDoorOslAB
import Derived.Test.YtnphgcbknfmapaaGreatDoorOslAE
namespace Go.Proofs.YtnphgcbknfmapaaGreatDoor
open Go.RowKit Go.Lib
set_option linter.unusedVariables false

theorem CpO.step {w w1 w2 w3 : World} {x : OB} {dv sv : Value} (h : CpO w1 w2 x dv sv) (hb : Below w.heap.size w w1) (hk : ∀ b, w1.heap.size ≤ b → b < w2.heap.size → w3.heap[b]? = w2.heap[b]?) (hb3 : Below w.heap.size w w3) : CpO w w3 x dv sv :=
  ⟨ownsRow_base (ownsRow_same h.defs fun b e => hk b (h.defs.lt b e).1 (h.defs.lt b e).2) hb.size, ownsRow_base (ownsRow_same h.slots fun b e => hk b (h.slots.lt b e).1 (h.slots.lt b e).2) hb.size, h.apart, h.nild, h.nils, hb3⟩

set_option maxRecDepth 100000 in
set_option maxHeartbeats 4000000 in
theorem get_r {w : World} {B a m : Nat} {T : List OM} {mx o : Int} (h : TS w B a m T mx) (ho : I64 o) {x : OM} (hx : findT T o = some x) (hdl : x.o.defs.length ≤ 1000) (hsl : x.o.slots.length ≤ 1000) :
    Calls Tryz.prog 13 #[.pointer (some ⟨a, 0, none⟩), .int .i64 o] w fun e w' => ∃ A2 c2 A3 c3, e = .returned (.tuple #[.agg #[.int .i64 x.o.id, .int .i64 x.o.parent, .int .i64 x.o.owner, .int .i64 x.o.place, .int .i64 x.o.flags, .int .i64 x.o.quota, .string x.o.name, .slice A2 x.o.defs.length c2, .slice A3 x.o.slots.length c3, .slice none 0 0], .bool true]) ∧ CpO w w' x.o (.slice A2 x.o.defs.length c2) (.slice A3 x.o.slots.length c3) := by
  have hxm := (findT_some hx).1
  have hb1 : Below w.heap.size w (w.alloc (.cells #[.int .i64 0, .int .i64 0, .int .i64 0, .int .i64 0, .int .i64 0, .int .i64 0, .string ⟨#[]⟩, .slice none 0 0, .slice none 0 0, .slice none 0 0] 29)) := (Below.refl _ _).alloc (Nat.le_refl _) _
  have HB1 := Lib.hid hb1
  have ht := h.tab.below hb1
  have c0 := ht.c0
  have hl := ht.look ho
  rw [ptrT_some hx] at hl
  have hob := ht.objs x hxm
  have hfl := h.flat x hxm
  have hbr := h.bare x hxm
  obtain ⟨Ad, cd, hdv⟩ : ∃ A C, x.dv = .slice A x.o.defs.length C := by obtain ⟨A, C, e, _⟩ := own_formO hob.defs; exact ⟨A, C, e⟩
  obtain ⟨As, cs, hsv⟩ : ∃ A C, x.sv = .slice A x.o.slots.length C := by obtain ⟨A, C, e, _⟩ := own_formO hob.slots; exact ⟨A, C, e⟩
  obtain ⟨ob, gx, dv, sv⟩ := x
  simp only at hdv hsv hdl hsl hfl hbr ⊢
  subst hdv
  subst hsv
  have CO := Lib.hid (show Calls Tryz.prog 43 #[.agg #[.int .i64 ob.id, .int .i64 ob.parent, .int .i64 ob.owner, .int .i64 ob.place, .int .i64 ob.flags, .int .i64 ob.quota, .string ob.name, .slice Ad ob.defs.length cd, .slice As ob.slots.length cs, .slice none 0 0]] (w.alloc (.cells #[.int .i64 0, .int .i64 0, .int .i64 0, .int .i64 0, .int .i64 0, .int .i64 0, .string ⟨#[]⟩, .slice none 0 0, .slice none 0 0, .slice none 0 0] 29)) fun e w' => ∃ A2 c2 A3 c3, e = .returned (.agg #[.int .i64 ob.id, .int .i64 ob.parent, .int .i64 ob.owner, .int .i64 ob.place, .int .i64 ob.flags, .int .i64 ob.quota, .string ob.name, .slice A2 ob.defs.length c2, .slice A3 ob.slots.length c3, .slice none 0 0]) ∧ CpO (w.alloc (.cells #[.int .i64 0, .int .i64 0, .int .i64 0, .int .i64 0, .int .i64 0, .int .i64 0, .string ⟨#[]⟩, .slice none 0 0, .slice none 0 0, .slice none 0 0] 29)) w' ob (.slice A2 ob.defs.length c2) (.slice A3 ob.slots.length c3) by
    refine (object_r ⟨ob, gx, .slice Ad ob.defs.length cd, .slice As ob.slots.length cs⟩ hob.defs hob.slots hbr.2 hfl hdl hsl).mono ?_
    rintro e w3 ⟨dv', sv', rfl, hcp⟩
    obtain ⟨Ad2, cd2, rfl⟩ : ∃ A C, dv' = .slice A ob.defs.length C := by obtain ⟨A, C, e, _⟩ := own_formO hcp.defs; exact ⟨A, C, e⟩
    obtain ⟨As2, cs2, rfl⟩ : ∃ A C, sv' = .slice A ob.slots.length C := by obtain ⟨A, C, e, _⟩ := own_formO hcp.slots; exact ⟨A, C, e⟩
    exact ⟨_, _, _, _, rfl, hcp⟩)
  have d0 := hob.cell 0
  have d1 := hob.cell 1
  have d2 := hob.cell 2
  have d3 := hob.cell 3
  have d4 := hob.cell 4
  have d5 := hob.cell 5
  have d6 := hob.cell 6
  have d7 := hob.cell 7
  have d8 := hob.cell 8
  have d9 := hob.cell 9
  unfold OM.cells at d0 d1 d2 d3 d4 d5 d6 d7 d8 d9
  simp at d0 d1 d2 d3 d4 d5 d6 d7 d8 d9
  clear h ht hx hob hfl hbr hb1
  go_enter Tryz.func13, Tryz.ntmps13
  go_wp2_with fail
  refine CO.out.mono ?_
  rintro e w2 ⟨A2, c2, A3, c3, rfl, hcp⟩
  have hz2 := (hcp.below.block w.heap.size (by simp)).trans (heap_alloc_new w _)
  have hb2 : Below w.heap.size w w2 := HB1.out.trans (hcp.below.mono (by simp))
  have HZ2 := Lib.hid hz2
  have HROW := Lib.hid (setRow_heap w2 w.heap.size _ #[.int .i64 ob.id, .int .i64 ob.parent, .int .i64 ob.owner, .int .i64 ob.place, .int .i64 ob.flags, .int .i64 ob.quota, .string ob.name, .slice A2 ob.defs.length c2, .slice A3 ob.slots.length c3, .slice none 0 0] _ _ hz2)
  have HCP := Lib.hid (hcp.step HB1.out (w3 := w2.setRow w.heap.size #[.int .i64 ob.id, .int .i64 ob.parent, .int .i64 ob.owner, .int .i64 ob.place, .int .i64 ob.flags, .int .i64 ob.quota, .string ob.name, .slice A2 ob.defs.length c2, .slice A3 ob.slots.length c3, .slice none 0 0]) (fun b hb _ => setRow_other w2 w.heap.size b _ (by simp at hb; omega)) (below_setRow hb2 (g := w.heap.size) (Nat.le_refl _) _))
  clear hcp hz2 hb2 c0 hl d0 d1 d2 d3 d4 d5 d6 d7 d8 d9
  go_wp2_with (refine wpList_store_row rfl 29 (.tmp 4) (.tmp 19) rfl w.heap.size #[.int .i64 ob.id, .int .i64 ob.parent, .int .i64 ob.owner, .int .i64 ob.place, .int .i64 ob.flags, .int .i64 ob.quota, .string ob.name, .slice A2 ob.defs.length c2, .slice A3 ob.slots.length c3, .slice none 0 0] rfl rfl _ _ HZ2.out (by kernel_rfl) rfl (by simp [Value.oneCell']) ?_)
  exact bodyPost_ret (results_rowP (P := Tryz.prog) rfl _ _ w.heap.size _ _ _ _ rfl HROW.out Tryz.underlying29 rfl (by kernel_rfl)) rfl ⟨_, _, _, _, rfl, HCP.out⟩
end Go.Proofs.YtnphgcbknfmapaaGreatDoor
namespace Go.Proofs.YtnphgcbknfmapaaGreatDoor
open Go.RowKit Go.Lib
set_option linter.unusedVariables false

/-- The first of a row of objects whose own property a name is; -1: none. -/
def hldR (l : List OB) (n : ByteArray) : List Int → Int
  | [] => -1
  | d :: r => if containsS (dfO l d) n = true then d else hldR l n r
def hldO (l : List OB) (n : ByteArray) (o : Int) : Int := hldR l n (aboveO l o)
theorem drop_consO {r : List Int} {k : Nat} {d : Int} (h : r[k]? = some d) : r.drop k = d :: r.drop (k + 1) := by
  rw [List.drop_eq_getElem_cons (List.getElem?_eq_some_iff.1 h).1, (List.getElem?_eq_some_iff.1 h).2]

set_option maxRecDepth 100000 in
set_option maxHeartbeats 2000000 in
theorem holder_c {w : World} {B a m : Nat} {T : List OM} {mx o : Int} (h : Tab w B a m T mx) (ho : I64 o) (hpi : ParI T) (hdl : ∀ x ∈ T, x.o.defs.length ≤ 1000) (n : ByteArray) :
    Calls Tryz.prog 97 #[.pointer (some ⟨a, 0, none⟩), .int .i64 o, .string n] w fun e w' => e = .returned (.int .i64 (hldO (obT T) n o)) ∧ Below w.heap.size w w' := by
  have CA := Lib.hid (above_c h ho hpi)
  have HX := Lib.hid (fun x (hx : x ∈ aboveO (obT T) o) => mem_above hx)
  have H := Lib.hid h
  have hr0 := h.rng
  have HRG := Lib.hid hr0
  have HDL := Lib.hid hdl
  have hmx := h.mxr
  unfold hldO
  clear h ho hpi hr0 hdl
  generalize aboveO (obT T) o = l at CA HX ⊢
  obtain ⟨q, hq⟩ : ∃ q, q = hldR (obT T) n l := ⟨_, rfl⟩
  rw [← hq]
  have HQ := Lib.hid hq
  clear hq
  go_enter Tryz.func97, Tryz.ntmps97
  go_wp2_with fail
  refine CA.out.mono ?_
  rintro e w1 ⟨v, rfl, hrow, hb1⟩
  obtain ⟨A, cA, rfl, hnc, hcm, hA, hcell⟩ := own_formO hrow
  unfold maxLen at hcm
  have HB1 := Lib.hid hb1
  have HCL := Lib.hid hcell
  have HR := Lib.hid hrow
  have hs1 := hb1.size
  clear hb1 hrow hcell
  go_wp2_with fail
  go_loopg [13] l.length (fun kk iv wr => ∃ (k : Nat), iv = .int .i64 (k : Int) ∧ k + kk = l.length ∧ Hid (q = hldR (obT T) n (l.drop k)) ∧ Below w1.heap.size w1 wr)
  case atStart => exact ⟨0, rfl, by omega, HQ, Below.refl _ _⟩
  case round =>
    obtain ⟨k, rfl, hik, hqk, hbr⟩ := hrel
    have hrz := hbr.size
    by_cases hk : k < l.length
    · obtain ⟨j, rfl⟩ : ∃ j, gk = j + 1 := ⟨gk - 1, by omega⟩
      obtain ⟨x, hx⟩ : ∃ x, l[k]? = some x := ⟨l[k], List.getElem?_eq_some_iff.2 ⟨hk, rfl⟩⟩
      obtain ⟨g1, rfl, hc1⟩ := HCL.out k (.int .i64 x) (by simp [intsO, hx])
      have hg1 := HR.out.lt g1 rfl
      obtain ⟨y, hym, hfy⟩ := HX.out x (List.mem_of_getElem? hx)
      have hbw : Below w.heap.size w wr := HB1.out.trans (hbr.mono hs1)
      have ht := H.out.below hbw
      have c0 := ht.c0
      have hyx := (findT_some hfy).2
      have hry := HRG.out y hym
      have hl := ht.look (o := x) ⟨by omega, by omega⟩
      rw [ptrT_some hfy] at hl
      have hcr : wr.cell? ⟨g1, k, none⟩ = some (.int .i64 x) := (hbr.cell (p := ⟨g1, k, none⟩) hg1.2).trans hc1
      have h7 : wr.cell? ⟨y.g, 7, none⟩ = some y.dv := cellX H.out hbw hym 7
      have hqk' := hqk.out
      rw [drop_consO hx, hldR, dfO_some (getO_some' hfy)] at hqk'
      have HQK := Lib.hid hqk'
      have CO := fun (b : Bool) (e : containsS y.o.defs n = b) => contS_c ((ht.objs y hym).defs) n (by have := HDL.out y hym; omega) e
      have HBR := Lib.hid hbr
      cases hb : containsS y.o.defs n with
      | true =>
        have CT := Lib.hid (CO true hb)
        rw [hb, if_pos rfl] at HQK
        clear hbr hx hfy hbw ht hc1 hry hyx hqk hqk' CO hb
        go_wp2_with fail
        refine CT.out.mono ?_
        rintro e w2 ⟨rfl, rfl⟩
        go_wp2_with fail
        go_ret
        exact ⟨by rw [HQK.out]; rfl, HB1.out.trans (HBR.out.mono hs1)⟩
      | false =>
        have CT := Lib.hid (CO false hb)
        rw [hb, if_neg (by decide)] at HQK
        clear hbr hx hfy hbw ht hc1 hry hyx hqk hqk' CO hb
        go_wp2_with fail
        refine CT.out.mono ?_
        rintro e w2 ⟨rfl, rfl⟩
        go_wp2_with fail
        go_roundg j
        case measure => omega
        case rel => exact ⟨k + 1, by go_num, by omega, HQK, HBR.out⟩
    · obtain rfl : k = l.length := by omega
      rw [List.drop_length] at hqk
      have HBR := Lib.hid hbr
      clear hbr
      go_wp2_with fail
      go_ret
      exact ⟨by rw [hqk.out]; rfl, HB1.out.trans (HBR.out.mono hs1)⟩
end Go.Proofs.YtnphgcbknfmapaaGreatDoor
namespace Go.Proofs.YtnphgcbknfmapaaGreatDoor
open Go.RowKit Go.Lib
set_option linter.unusedVariables false
set_option linter.unusedSimpArgs false

/-- How an element reads that is a map: by its block. -/
def mapR : Value → Option (DataW Unit × List MemPlace)
  | .map none => some (.lit (.int .i64 (-1)), [])
  | .map (some g) => some (.lit (.int .i64 (g : Int)), [])
  | _ => none
theorem mapR_inv {v : Value} {n : Int} {ps : List MemPlace} (h : mapR v = some (.lit (.int .i64 n), ps)) : (n = -1 ∧ v = .map none) ∨ ∃ g : Nat, n = g ∧ v = .map (some g) := by
  unfold mapR at h
  split at h
  · simp at h; exact .inl ⟨h.1.symm, rfl⟩
  · rename_i g
    simp at h; exact .inr ⟨g, h.1.symm, rfl⟩
  · cases h
theorem repO_twice (l : List OB) (o : Int) (y z : OB) (h : y.id = o) : repO (repO l o y) o z = repO l o z := by
  unfold repO
  rw [List.map_map]
  apply List.map_congr_left
  intro x _
  simp only [Function.comp]
  by_cases e : x.id = o
  · simp [e, h]
  · simp [e]
theorem okS_par {l : List OB} {mx o p : Int} {x x' : OB} (h : OkS l mx) (hx : getO l o = some x) (hp : p = -1 ∨ hasO l p = true) (hi : o ∉ rowO (l.map bareO) OB.parent p) (hb : bareO x' = setP p (bareO x)) : OkS (repO l o x') mx := by
  have e : (repO l o x').map bareO = updO (l.map bareO) o (setP p) := by
    unfold repO updO
    rw [List.map_map, List.map_map]
    apply List.map_congr_left
    intro y hy
    simp only [Function.comp]
    by_cases h1 : y.id = o
    · have h2 : y = x := eq_of_id h.sortS hy (getO_mem hx) (by rw [h1, getO_id hx])
      rw [if_pos (by simpa using h1), if_pos (by simpa [bareO] using h1), hb, h2]
    · rw [if_neg (by simpa using h1), if_neg (by simpa [bareO] using h1)]
  unfold OkS
  rw [e]
  refine OkT.chparent h ?_ hi
  rcases hp with hp | hp
  · exact .inl hp
  · exact .inr (by rw [hasO_bare]; exact hp)
theorem ba_eq {a b : ByteArray} (h : a.data.toList = b.data.toList) : a = b := by
  cases a
  cases b
  congr 1
  exact Array.toList_inj.1 h
theorem skey : Tryz.prog.underlying 9 = some .string := by kernel_rfl
theorem skeyed : Maps.Keyed Tryz.prog 9 := Maps.string_keyed skey
theorem smapO : Tryz.prog.underlying 133 = some (.map 3 134) := by kernel_rfl
theorem smapI : Tryz.prog.underlying 134 = some (.map 9 3) := by kernel_rfl
theorem szeroM (w : World) : (zeroValue 134).run Tryz.prog w = .ok (.map none) w := by kernel_rfl
theorem szeroI (w : World) : (zeroValue 3).run Tryz.prog w = .ok (.int .i64 0) w := by kernel_rfl
theorem own_isMap {w : World} {P : Program} {k : TypeId} {R : Value → Option (DataW Unit × List MemPlace)} {b n : Nat} {D : DataW Unit} (h : w.ownsMap P k R b n D) : Maps.IsMap D := by
  obtain ⟨es, clock, _, _, _, rfl⟩ := h
  exact ⟨_, rfl⟩
/-- What is looked up in the outer map. -/
theorem outer_look {w : World} {M1 M2 n : Nat} {o : Int} (ho : I64 o) (h : w.ownsMap Tryz.prog 3 mapR M1 n ((DataW.map []).put (.int .i64 o) (.lit (.int .i64 (M2 : Int))))) :
    (Instr.lookup 133 (.map (some M1)) (.int .i64 o) false).run Tryz.prog w = .ok (.map (some M2)) w := by
  obtain ⟨v, ps, hrun, hv⟩ := h.lookup tkeyed smapO (szeroM w) (zd := .lit (.int .i64 (-1))) (zp := []) rfl (tkey_of ho)
  rw [Maps.atKey_put_same ⟨_, rfl⟩ (by trivial)] at hv
  rcases mapR_inv hv with ⟨e, _⟩ | ⟨g, e, rfl⟩
  · omega
  · rw [hrun]
    have : g = M2 := by omega
    rw [this]
theorem alone_above {l : List OB} {o : Int} {x : OB} (hx : getO l o = some x) (hp : x.parent = -1) (hn : getO l (-1) = none) : aboveO l o = [o] := by
  unfold aboveO
  rw [abvO, hx]
  simp only [hp, getO_id hx]
  rw [abv_none hn]

set_option maxRecDepth 100000 in
set_option maxHeartbeats 4000000 in
theorem under_a {w : World} {B a m : Nat} {T : List OM} {mx o : Int} (h : TS w B a m T mx) (ho : I64 o) {x0 : OM} (hx0 : findT T o = some x0) (hb : belowO (obT T) o = some [o]) (hd : x0.o.defs = []) (hsl : x0.o.slots.length ≤ 1000) (hdl : ∀ x ∈ T, x.o.defs.length ≤ 1000) (hpi : ParI T)
    (hnm : ∀ s ∈ x0.o.slots, s.name.size ≤ 1000 ∧ hldO (obT T) s.name o ≠ -1 ∧ I64 (hldO (obT T) s.name o)) :
    Calls Tryz.prog 53 #[.pointer (some ⟨a, 0, none⟩), .int .i64 o, .int .i64 (-1)] w fun e w' => e = .returned (.tuple #[]) ∧ ∃ T', StS w w' B a m T T' mx mx ∧ obT T' = repO (obT T) o { x0.o with parent := -1, slots := [] } := by
  have CB := Lib.hid (below_c h.tab ho hb (fun x hx => by simp at hx; rw [hx]; exact ho) (by simp))
  have H := Lib.hid h
  have HX0 := Lib.hid hx0
  have HPI := Lib.hid hpi
  have HDL := Lib.hid hdl
  have HNM := Lib.hid hnm
  have hmm := @run_makeMap Tryz.prog
  clear h hb hpi hdl hx0 hnm
  go_enter Tryz.func53, Tryz.ntmps53
  go_wp2_with fail
  refine CB.out.mono ?_
  rintro e w1 ⟨v, rfl, hrow, hb1⟩
  obtain ⟨A, c, rfl, hnc, hcm, hA, hcell⟩ := own_formO hrow
  obtain ⟨g1, rfl, hc1⟩ := hcell 0 (.int .i64 o) rfl
  have hg1 := hrow.lt g1 rfl
  have HB1 := Lib.hid hb1
  have hs1 := hb1.size
  clear hb1 hrow hcell CB
  obtain ⟨w2, hw2⟩ : ∃ w2, w2 = w1.alloc (.map #[] 0) := ⟨_, rfl⟩
  have hm0 : w2.ownsMap Tryz.prog 3 mapR w1.heap.size 0 (.map []) := by rw [hw2]; exact World.ownsMap_made w1 _ _ _
  have hb2 : Below w1.heap.size w1 w2 := by rw [hw2]; exact (Below.refl _ _).alloc (Nat.le_refl _) _
  have hz2 : w2.heap.size = w1.heap.size + 1 := by rw [hw2]; simp
  have hcr : w2.cell? ⟨g1, 0, none⟩ = some (.int .i64 o) := (hb2.cell (p := ⟨g1, 0, none⟩) hg1.2).trans hc1
  have HM0 := Lib.hid hm0
  have HB2 := Lib.hid hb2
  have HW2 := Lib.hid hw2
  have HZ2 := Lib.hid hz2
  clear hm0 hb2 hw2 hz2
  go_wp2_with fail
  rw [← HW2.out]
  refine wp_loop_rounds 2 ?_
  rw [rounds_succ]
  have hxm := (findT_some HX0.out).1
  go_wp2_with (at_mapUpdate; refine wpList_mapUpdate_own _ rfl _ _ _ 133 rfl 3 134 tkeyed Tryz.underlying133 mapR w1.heap.size 0 (.map []) rfl (HM0.out.alloc _) (by unfold maxLen; omega) _ _ (.int .i64 o) rfl rfl (tkey_of ho) (.lit (.int .i64 ((w1.heap.size + 1 : Nat) : Int))) [] (by rw [← HZ2.out]; rfl) ?_
               intro w5 hown5 hgrow5
               have hb5 := Below.grown (HB2.out.alloc (by have := HZ2.out; omega) (.map #[] 0)) hgrow5 (by have := HZ2.out; simp; omega) (fun k hk => by injection hk with hk; omega)
               have hin5 : w5.ownsMap Tryz.prog 9 (plainElem Tryz.prog 3) (w1.heap.size + 1) 0 (.map []) := ownsMap_same (by rw [← HZ2.out]; exact World.ownsMap_made w2 _ _ _) (hgrow5.block _ (by have := HZ2.out; simp; omega) (fun e => by injection e with e; omega))
               have HI5 := Lib.hid hin5
               have HB5 := Lib.hid hb5
               have HO5 := Lib.hid hown5
               have ht := H.out.tab.below (HB1.out.trans (hb5.mono hs1))
               have c0 := ht.c0
               have hl := ht.look ho
               rw [ptrT_some HX0.out] at hl
               obtain ⟨As, cs, hsv⟩ : ∃ A C, x0.sv = .slice A x0.o.slots.length C := by obtain ⟨A, C, e, _⟩ := own_formO (ht.objs x0 hxm).slots; exact ⟨A, C, e⟩
               have h8 : w5.cell? ⟨x0.g, 8, none⟩ = some (.slice As x0.o.slots.length cs) := by rw [← hsv]; exact cellX H.out.tab (HB1.out.trans (hb5.mono hs1)) hxm 8
               have HSV := Lib.hid hsv
               clear hb5 hown5 ht hgrow5 hin5 hsv)
  obtain ⟨D1, hD1⟩ : ∃ D1, D1 = (DataW.map ([] : List (Lit × DataW Unit))).put (.int .i64 o) (.lit (.int .i64 ((w1.heap.size + 1 : Nat) : Int))) := ⟨_, rfl⟩
  rw [← hD1] at HO5
  have HD1 := Lib.hid hD1
  clear hD1
  go_loopg [44] x0.o.slots.length (fun kk iv wr => ∃ (i : Nat) (D : DataW Unit), iv = .int .i64 (i : Int) ∧ i + kk = x0.o.slots.length ∧ wr.ownsMap Tryz.prog 9 (plainElem Tryz.prog 3) (w1.heap.size + 1) i D ∧ wr.ownsMap Tryz.prog 3 mapR w1.heap.size 1 D1 ∧ Hid (∀ (j : Nat) (s : SL), j < i → x0.o.slots[j]? = some s → D.atKey (.string s.name.data.toList) (.lit (.int .i64 0)) = .lit (.int .i64 (hldO (obT T) s.name o))) ∧ Below w1.heap.size w1 wr)
  case atStart => exact ⟨0, _, rfl, by omega, HI5.out, HO5.out, Lib.hid (fun j s hj => by omega), HB5.out⟩
  case round =>
    obtain ⟨i, D, rfl, hik, hmi, hmo, hat, hbr⟩ := hrel
    have hrz := hbr.size
    by_cases hi : i < x0.o.slots.length
    · obtain ⟨j, rfl⟩ : ∃ j, gk = j + 1 := ⟨gk - 1, by omega⟩
      obtain ⟨s, hs⟩ : ∃ s, x0.o.slots[i]? = some s := ⟨x0.o.slots[i], List.getElem?_eq_some_iff.2 ⟨hi, rfl⟩⟩
      have hsm := List.mem_of_getElem? hs
      obtain ⟨hns, hnh, hni⟩ := HNM.out s hsm
      have hbw : Below w.heap.size w wr := HB1.out.trans (hbr.mono hs1)
      have hob := H.out.tab.objs x0 hxm
      obtain ⟨A2, C2, hsvA, _, _, _, hcell2⟩ := own_formO hob.slots
      have hrd : ∃ g3, As = some ⟨g3, 0, none⟩ ∧ ∀ j, j < 8 → ∀ u, s.cells[j]? = some u → wr.cell? ⟨g3, i * 8 + j, none⟩ = some u := by
        rw [HSV.out] at hsvA
        injection hsvA with e1 _ e2
        subst e1
        obtain ⟨g3, e, _⟩ := hcell2 (i * 8 + 0) (.string s.name) (by rw [slCells_at _ _ _ 0 hs (by omega)]; rfl)
        refine ⟨g3, e, fun j hj u hu => ?_⟩
        obtain ⟨g4, e2, hc⟩ := hcell2 (i * 8 + j) u (by rw [slCells_at _ _ _ j hs hj]; exact hu)
        rw [e] at e2
        injection e2 with e2
        injection e2 with e2 _ _
        subst e2
        exact (hbw.cell (p := ⟨g3, i * 8 + j, none⟩) (hob.slots.lt g3 (by rw [HSV.out, e]; rfl)).2).trans hc
      obtain ⟨g3, rfl, hrd⟩ := hrd
      have r0 := hrd 0 (by omega) (.string s.name) rfl
      rw [Nat.add_zero] at r0
      have r1 := hrd 1 (by omega) (.int .i64 s.owner) rfl
      have r2 := hrd 2 (by omega) (.int .i64 s.bits) rfl
      have r3 := hrd 3 (by omega) (.bool s.clear) rfl
      have r4 := hrd 4 (by omega) (.int .i64 s.kind) rfl
      have r5 := hrd 5 (by omega) (.int .i64 s.num) rfl
      have r6 := hrd 6 (by omega) (.string s.text) rfl
      have r7 := hrd 7 (by omega) (.slice none 0 0) rfl
      obtain ⟨wx, hwx⟩ : ∃ wx, wx = wr.alloc (.cells #[.string s.name, .int .i64 s.owner, .int .i64 s.bits, .bool s.clear, .int .i64 s.kind, .int .i64 s.num, .string s.text, .slice none 0 0] 35) := ⟨_, rfl⟩
      have hbx : Below wr.heap.size wr wx := by rw [hwx]; exact (Below.refl _ _).alloc (Nat.le_refl _) _
      have hxz : wx.heap.size = wr.heap.size + 1 := by rw [hwx]; simp
      have hgx : wx.heap[wr.heap.size]? = some (.cells #[.string s.name, .int .i64 s.owner, .int .i64 s.bits, .bool s.clear, .int .i64 s.kind, .int .i64 s.num, .string s.text, .slice none 0 0] 35 (0, 0)) := by rw [hwx]; exact heap_alloc_new wr _
      have hmiz := hmi.lt
      have hmoz := hmo.lt
      have KS : ∀ W, Below wx.heap.size wx W → (fun W : World => W.cell? ⟨wr.heap.size, 0, none⟩ = some (.string s.name) ∧ (Instr.lookup 133 (.map (some w1.heap.size)) (.int .i64 o) false).run Tryz.prog W = .ok (.map (some (w1.heap.size + 1))) W) W := by
        intro W hW
        refine ⟨cell_of_row W _ 0 _ _ _ ((hW.block _ (by omega)).trans hgx), ?_⟩
        refine outer_look (n := 1) ho ?_
        rw [← HD1.out]
        exact ownsMap_same hmo ((hW.block _ (by omega)).trans (hbx.block _ hmoz))
      have CH := Lib.hid (fun W (hW : Below wx.heap.size wx W) => holder_c (H.out.tab.below (hbw.trans ((hbx.trans (hW.mono hbx.size)).mono hbw.size))) ho HPI.out HDL.out s.name)
      have HMI := Lib.hid (fun W (hW : Below wx.heap.size wx W) => ownsMap_same hmi ((hW.block _ (by omega)).trans (hbx.block _ hmiz)))
      have HMO := Lib.hid (fun W (hW : Below wx.heap.size wx W) => ownsMap_same hmo ((hW.block _ (by omega)).trans (hbx.block _ hmoz)))
      have HBX := Lib.hid hbx
      have HXZ := Lib.hid hxz
      have HWX := Lib.hid hwx
      have HBR := Lib.hid hbr
      have HAT := Lib.hid hat.out
      have HS := Lib.hid hs
      have HKS := Lib.hid KS
      obtain ⟨q, hq⟩ : ∃ q, q = hldO (obT T) s.name o := ⟨_, rfl⟩
      rw [← hq] at CH hni
      have HQ := Lib.hid hq
      clear hmi hmo hat hbr hs hsm hbw hob hsvA hcell2 hrd hbx hxz hgx hwx KS hq hnh
      go_wp2_with fail
      rw [← HWX.out]
      clear r0 r1 r2 r3 r4 r5 r6 r7
      refine wp_region_heldTo 10 (fun W => W.cell? ⟨wr.heap.size, 0, none⟩ = some (.string s.name) ∧ (Instr.lookup 133 (.map (some w1.heap.size)) (.int .i64 o) false).run Tryz.prog W = .ok (.map (some (w1.heap.size + 1))) W) (by kernel_rfl) (by kernel_rfl) (HKS.out _ (Below.refl _ wx).drew) (fun hSucc hHeld => ?_)
      refine heldTo_take (i := 0) (oi := _) (v := (.map (some w1.heap.size))) hSucc rfl (by kernel_rfl) (by kernel_rfl) (by kernel_rfl) (by kernel_rfl) rfl (fun _ _ _ h => h) (Or.inl ⟨by rfl, fun W hSw => ?_⟩) (by with_reducible assumption) ?_
      · (try dsimp only at hSw); go_simp
      change heldTo _ _ _ _ _ _ _ _ (Act.put _ (some 48) _) _
      simp only [Act.put, List.setIfInBounds_toArray, List.set_cons_zero, List.set_cons_succ]
      refine heldTo_take (i := 1) (oi := _) (v := (.int .i64 o)) hSucc rfl (by kernel_rfl) (by kernel_rfl) (by kernel_rfl) (by kernel_rfl) rfl (fun _ _ _ h => h) (Or.inl ⟨by rfl, fun W hSw => ?_⟩) (by with_reducible assumption) ?_
      · (try dsimp only at hSw); go_simp
      change heldTo _ _ _ _ _ _ _ _ (Act.put _ (some 49) _) _
      simp only [Act.put, List.setIfInBounds_toArray, List.set_cons_zero, List.set_cons_succ]
      refine heldTo_take (i := 2) (oi := _) (v := (.map (some (w1.heap.size + 1)))) hSucc rfl (by kernel_rfl) (by kernel_rfl) (by kernel_rfl) (by kernel_rfl) rfl (fun _ _ _ h => h) (Or.inl ⟨by rfl, fun W hSw => ?_⟩) (by with_reducible assumption) ?_
      · (try dsimp only at hSw); go_simp
      change heldTo _ _ _ _ _ _ _ _ (Act.put _ (some 50) _) _
      simp only [Act.put, List.setIfInBounds_toArray, List.set_cons_zero, List.set_cons_succ]
      refine heldTo_take (i := 3) (oi := _) (v := (.pointer (some ⟨wr.heap.size, 0, none⟩))) hSucc rfl (by kernel_rfl) (by kernel_rfl) (by kernel_rfl) (by kernel_rfl) rfl (fun _ _ _ h => h) (Or.inl ⟨by rfl, fun W hSw => ?_⟩) (by with_reducible assumption) ?_
      · (try dsimp only at hSw); go_simp
      change heldTo _ _ _ _ _ _ _ _ (Act.put _ (some 51) _) _
      simp only [Act.put, List.setIfInBounds_toArray, List.set_cons_zero, List.set_cons_succ]
      refine heldTo_take (i := 4) (oi := _) (v := (.string s.name)) hSucc rfl (by kernel_rfl) (by kernel_rfl) (by kernel_rfl) (by kernel_rfl) rfl (fun _ _ _ h => h) (Or.inl ⟨by rfl, fun W hSw => ?_⟩) (by with_reducible assumption) ?_
      · (try dsimp only at hSw); go_simp
      change heldTo _ _ _ _ _ _ _ _ (Act.put _ (some 52) _) _
      simp only [Act.put, List.setIfInBounds_toArray, List.set_cons_zero, List.set_cons_succ]
      refine heldTo_take (i := 5) (oi := _) (v := (.pointer (some ⟨a, 0, none⟩))) hSucc rfl (by kernel_rfl) (by kernel_rfl) (by kernel_rfl) (by kernel_rfl) rfl (fun _ _ _ h => h) (Or.inl ⟨by rfl, fun W hSw => ?_⟩) (by with_reducible assumption) ?_
      · (try dsimp only at hSw); go_simp
      change heldTo _ _ _ _ _ _ _ _ (Act.put _ (some 53) _) _
      simp only [Act.put, List.setIfInBounds_toArray, List.set_cons_zero, List.set_cons_succ]
      refine heldTo_take (i := 6) (oi := _) (v := (.int .i64 o)) hSucc rfl (by kernel_rfl) (by kernel_rfl) (by kernel_rfl) (by kernel_rfl) rfl (fun _ _ _ h => h) (Or.inl ⟨by rfl, fun W hSw => ?_⟩) (by with_reducible assumption) ?_
      · (try dsimp only at hSw); go_simp
      change heldTo _ _ _ _ _ _ _ _ (Act.put _ (some 54) _) _
      simp only [Act.put, List.setIfInBounds_toArray, List.set_cons_zero, List.set_cons_succ]
      refine heldTo_take (i := 7) (oi := _) (v := (.pointer (some ⟨wr.heap.size, 0, none⟩))) hSucc rfl (by kernel_rfl) (by kernel_rfl) (by kernel_rfl) (by kernel_rfl) rfl (fun _ _ _ h => h) (Or.inl ⟨by rfl, fun W hSw => ?_⟩) (by with_reducible assumption) ?_
      · (try dsimp only at hSw); go_simp
      change heldTo _ _ _ _ _ _ _ _ (Act.put _ (some 55) _) _
      simp only [Act.put, List.setIfInBounds_toArray, List.set_cons_zero, List.set_cons_succ]
      refine heldTo_take (i := 8) (oi := _) (v := (.string s.name)) hSucc rfl (by kernel_rfl) (by kernel_rfl) (by kernel_rfl) (by kernel_rfl) rfl (fun _ _ _ h => h) (Or.inl ⟨by rfl, fun W hSw => ?_⟩) (by with_reducible assumption) ?_
      · (try dsimp only at hSw); go_simp
      change heldTo _ _ _ _ _ _ _ _ (Act.put _ (some 56) _) _
      simp only [Act.put, List.setIfInBounds_toArray, List.set_cons_zero, List.set_cons_succ]
      refine heldTo_one (i := 9) (o := _) (by kernel_rfl) rfl (fun K hK => ?_)
      go_simp
      go_at_call 97
      refine (CH.out _ (Below.refl _ wx).drew).mono ?_
      rintro e w8 ⟨rfl, hb8⟩
      have HB8 := Lib.hid (show Below wx.heap.size wx w8 from ((Below.refl wx.heap.size wx).drew).trans hb8)
      clear hb8 hHeld
      refine hK.out _ _ (HKS.out _ HB8.out) (fun hHeld => ?_)
      clear hK K
      obtain ⟨w9, hrun9, hown9, hgrow9⟩ := (HMI.out w8 HB8.out).update skeyed smapI (by unfold maxLen; omega) (Go.WideMaps.keyOf_string_mk skey (s := s.name) (by unfold maxLen; omega)) (val := .int .i64 q) (d := .lit (.int .i64 q)) (ps := []) (plainElem_int tkey hni.wf)
      have HI9 := Lib.hid hown9
      have HO9 := Lib.hid (ownsMap_same (HMO.out w8 HB8.out) (hgrow9.block _ (HMO.out w8 HB8.out).lt (fun e => by injection e with e; omega)))
      have HB9 := Lib.hid (show Below w1.heap.size w1 w9 from Below.grown (HBR.out.trans ((HBX.out.trans (HB8.out.mono HBX.out.size)).mono hrz)) hgrow9 (by have := HB8.out.size; have := HBX.out.size; omega) (fun k hk => by injection hk with hk; omega))
      clear hown9 hgrow9
      refine heldTo_last (o := _) (by kernel_rfl) rfl (fun K hK => ?_)
      go_simp
      refine hK.out _ _ ?_
      clear hK K hHeld
      refine heldTo_done (by kernel_rfl) ?_ _
      go_wp2_with fail
      go_roundg j
      case measure => omega
      case rel => exact ⟨i + 1, _, by go_num, by omega, HI9.out, HO9.out, Lib.hid (fun k u hk hu => by
        by_cases hsn : u.name.data.toList = s.name.data.toList
        · have e : u.name = s.name := ba_eq hsn
          rw [hsn, e, Maps.atKey_put_same (own_isMap (HMI.out _ (Below.refl _ _))) (by trivial), HQ.out]
        · rw [Maps.atKey_put_other (fun e => hsn (by injection e))]
          refine HAT.out k u ?_ hu
          rcases Nat.lt_or_ge k i with h1 | h1
          · exact h1
          · have : k = i := by omega
            subst this
            rw [HS.out] at hu
            injection hu with hu
            subst hu
            exact absurd rfl hsn), HB9.out⟩
    · obtain rfl : i = x0.o.slots.length := by omega
      rename World => wA
      have hbw : Below w.heap.size w wA := HB1.out.trans (hbr.mono hs1)
      have ht := H.out.tab.below hbw
      have c0 := ht.c0
      have hl := ht.look ho
      rw [ptrT_some HX0.out] at hl
      have hob := ht.objs x0 hxm
      have f1 : wA.frozen? ⟨x0.g, 1, none⟩ = false := hob.free 1
      have k1 : wA.cell? ⟨x0.g, 1, none⟩ = some (.int .i64 x0.o.parent) := hob.cell 1
      obtain ⟨x1, hx1⟩ : ∃ x1 : OM, x1 = ⟨{ x0.o with parent := -1 }, x0.g, x0.dv, x0.sv⟩ := ⟨_, rfl⟩
      obtain ⟨w3, hw3⟩ : ∃ w3, w3 = wA.setCell ⟨x0.g, 1, none⟩ (.int .i64 (-1)) := ⟨_, rfl⟩
      have hgb : ∀ b ∈ x0.blocks, b < w.heap.size := fun b hb => H.out.tab.lt b (List.mem_cons_of_mem _ (List.mem_cons_of_mem _ (List.mem_flatMap.2 ⟨x0, hxm, hb⟩)))
      have hbl1 : x1.blocks = x0.blocks := by rw [hx1]; rfl
      have hnd := ht.nodupX hxm
      have hk3 : ∀ b, b ≠ x0.g → w3.heap[b]? = wA.heap[b]? := by
        intro b hb
        rw [hw3]
        exact Below.heap_setCell _ _ _ _ hb
      have hndg : ∀ b, x0.dv.ownBlock = some b ∨ x0.sv.ownBlock = some b → b ≠ x0.g := by
        rintro b hb rfl
        unfold OM.blocks at hnd
        rw [List.nodup_cons] at hnd
        apply hnd.1
        rcases hb with hb | hb
        · exact List.mem_append_left _ (by rw [hb]; simp)
        · exact List.mem_append_right _ (by rw [hb]; simp)
      have hob1 : ObjAt w3 B x1 := by
        refine ⟨?_, ?_, ?_⟩
        · rw [hw3, hx1]
          exact heap_setCell_same wA x0.g 1 _ _ _ hob.blk
        · rw [hx1]
          exact ownsRow_same hob.defs fun b hb => hk3 b (hndg b (.inl hb))
        · rw [hx1]
          exact ownsRow_same hob.slots fun b hb => hk3 b (hndg b (.inr hb))
      have hc3 : Chg (fun b => b ∈ x0.blocks) wA w3 := by rw [hw3]; exact Chg.set wA (by show x0.g ∈ x0.blocks; exact OM.mem_blocks.2 (.inl rfl)) _
      have ht1 := ht.rep HX0.out x1 (by rw [hx1]) (by rw [hx1]) hc3 hob1 (fun b hb => .inl (by rw [← hbl1]; exact hb)) (by rw [hbl1]; exact hnd)
      have hf1 : findT (repT T o x1) o = some x1 := findT_rep_eq (by rw [hx1]; exact (findT_some HX0.out).2) HX0.out
      have HT1 := Lib.hid ht1
      have HF1 := Lib.hid hf1
      have HX1 := Lib.hid hx1
      have HC3 := Lib.hid hc3
      have HBW := Lib.hid hbw
      have HMI := Lib.hid (ownsMap_same hmi (hk3 _ (by have := hgb x0.g (OM.mem_blocks.2 (.inl rfl)); omega)))
      have HMO := Lib.hid (ownsMap_same hmo (hk3 _ (by have := hgb x0.g (OM.mem_blocks.2 (.inl rfl)); omega)))
      have hw3z : w3.heap.size = wA.heap.size := by rw [hw3]; simp [World.setCell]
      have hr3 : w3.cell? ⟨g1, 0, none⟩ = some (.int .i64 o) := (World.cell?_of_block (a := ⟨g1, 0, none⟩) (hk3 g1 (by have := hgb x0.g (OM.mem_blocks.2 (.inl rfl)); omega))).trans ((hbr.cell (p := ⟨g1, 0, none⟩) hg1.2).trans hc1)
      have hdn : x0.dv = .slice none 0 0 := (H.out.bare x0 hxm).2 hd
      have HHL := Lib.hid (show ∀ n, hldO (obT (repT T o x1)) n o = -1 from fun n => by
        unfold hldO
        rw [alone_above (x := x1.o) (getO_some' hf1) (by rw [hx1]) (getO_none' ht1.neg)]
        unfold hldR hldR
        rw [dfO_some (getO_some' hf1), if_neg]
        rw [hx1]
        show ¬ containsS x0.o.defs n = true
        rw [hd]
        rw [show containsS [] n = false from rfl]
        decide)
      have HPI1 := Lib.hid (show ParI (repT T o x1) from fun y hy => by
        obtain ⟨z, hz, e⟩ := List.mem_map.1 hy
        by_cases h1 : z.o.id = o
        · rw [if_pos (by simpa using h1)] at e
          rw [← e, hx1]
          exact ⟨by show (-9223372036854775808 : Int) ≤ -1; omega, by show (-1 : Int) ≤ _; omega⟩
        · rw [if_neg (by simpa using h1)] at e
          rw [← e]
          exact HPI.out z hz)
      have HDL1 := Lib.hid (show ∀ x ∈ repT T o x1, x.o.defs.length ≤ 1000 from fun y hy => by
        obtain ⟨z, hz, e⟩ := List.mem_map.1 hy
        by_cases h1 : z.o.id = o
        · rw [if_pos (by simpa using h1)] at e
          rw [← e, hx1]
          exact HDL.out x0 hxm
        · rw [if_neg (by simpa using h1)] at e
          rw [← e]
          exact HDL.out z hz)
      obtain ⟨T1, hT1e⟩ : ∃ T1, T1 = repT T o x1 := ⟨_, rfl⟩
      rw [← hT1e] at HT1 HF1 HHL HPI1 HDL1
      have HT1E := Lib.hid hT1e
      have hw1z : w1.heap.size ≤ wA.heap.size := hrz
      have HBRR := Lib.hid hbr
      have HW3 := Lib.hid hw3
      have HAT := Lib.hid hat.out
      have HGB := Lib.hid hgb
      have HND := Lib.hid hnd
      have HNDG := Lib.hid hndg
      have HDN := Lib.hid hdn
      clear hmi hmo hat hbr hbw ht hob hbl1 hnd hk3 hndg hob1 hc3 ht1 hf1 hx1 hw3 hT1e hgb hrz hcr hc1 hdn
      have hl1 := HT1.out.look ho
      rw [ptrT_some HF1.out, HX1.out] at hl1
      dsimp only at hl1
      have c01 := HT1.out.c0
      have hx1m := (findT_some HF1.out).1
      have h81 : w3.cell? ⟨x0.g, 8, none⟩ = some (.slice As x0.o.slots.length cs) := by
        have := (HT1.out.objs x1 hx1m).cell 8
        rw [HX1.out] at this
        rw [← HSV.out]
        exact this
      go_wp2_with fail
      rw [rounds_succ]
      go_wp2_with fail
      rw [← HW3.out]
      refine wp_loop_rounds 2 ?_
      rw [rounds_succ]
      go_wp2_with fail
      go_loopg [15, 86] x0.o.slots.length (fun kk ov iv wr => ∃ (i : Nat), .slice none 0 0 = ov ∧ iv = .int .i64 (i : Int) ∧ i + kk = x0.o.slots.length ∧ Below w3.heap.size w3 wr)
      case atStart => exact ⟨0, rfl, rfl, by omega, Below.refl _ _⟩
      case round =>
        clear hi hik c0 hl f1 k1
        obtain ⟨i, rfl, rfl, hik, hbr⟩ := hrel
        have hrz := hbr.size
        by_cases hi : i < x0.o.slots.length
        · obtain ⟨j, rfl⟩ : ∃ j, gk = j + 1 := ⟨gk - 1, by omega⟩
          obtain ⟨s, hs⟩ : ∃ s, x0.o.slots[i]? = some s := ⟨x0.o.slots[i], List.getElem?_eq_some_iff.2 ⟨hi, rfl⟩⟩
          have hsm := List.mem_of_getElem? hs
          obtain ⟨hns, hnh, hni⟩ := HNM.out s hsm
          have htr := HT1.out.below hbr
          have hob := htr.objs x1 hx1m
          rw [HX1.out] at hob
          obtain ⟨A2, C2, hsvA, _, _, _, hcell2⟩ := own_formO hob.slots
          dsimp only at hsvA hcell2
          have hrd : ∃ g3, As = some ⟨g3, 0, none⟩ ∧ ∀ j, j < 8 → ∀ u, s.cells[j]? = some u → wr.cell? ⟨g3, i * 8 + j, none⟩ = some u := by
            rw [HSV.out] at hsvA
            injection hsvA with e1 _ e2
            subst e1
            obtain ⟨g3, e, _⟩ := hcell2 (i * 8 + 0) (.string s.name) (by rw [slCells_at _ _ _ 0 hs (by omega)]; rfl)
            refine ⟨g3, e, fun j hj u hu => ?_⟩
            obtain ⟨g4, e2, hc⟩ := hcell2 (i * 8 + j) u (by rw [slCells_at _ _ _ j hs hj]; exact hu)
            rw [e] at e2
            injection e2 with e2
            injection e2 with e2 _ _
            subst e2
            exact hc
          obtain ⟨g3, rfl, hrd⟩ := hrd
          have r0 := hrd 0 (by omega) (.string s.name) rfl
          rw [Nat.add_zero] at r0
          have r1 := hrd 1 (by omega) (.int .i64 s.owner) rfl
          have r2 := hrd 2 (by omega) (.int .i64 s.bits) rfl
          have r3 := hrd 3 (by omega) (.bool s.clear) rfl
          have r4 := hrd 4 (by omega) (.int .i64 s.kind) rfl
          have r5 := hrd 5 (by omega) (.int .i64 s.num) rfl
          have r6 := hrd 6 (by omega) (.string s.text) rfl
          have r7 := hrd 7 (by omega) (.slice none 0 0) rfl
          obtain ⟨wx, hwx⟩ : ∃ wx, wx = wr.alloc (.cells #[.string s.name, .int .i64 s.owner, .int .i64 s.bits, .bool s.clear, .int .i64 s.kind, .int .i64 s.num, .string s.text, .slice none 0 0] 35) := ⟨_, rfl⟩
          have hbx : Below wr.heap.size wr wx := by rw [hwx]; exact (Below.refl _ _).alloc (Nat.le_refl _) _
          have hxz : wx.heap.size = wr.heap.size + 1 := by rw [hwx]; simp
          have hgx : wx.heap[wr.heap.size]? = some (.cells #[.string s.name, .int .i64 s.owner, .int .i64 s.bits, .bool s.clear, .int .i64 s.kind, .int .i64 s.num, .string s.text, .slice none 0 0] 35 (0, 0)) := by rw [hwx]; exact heap_alloc_new wr _
          obtain ⟨q, hq⟩ : ∃ q, q = hldO (obT T) s.name o := ⟨_, rfl⟩
          rw [← hq] at hnh hni
          have hmiz := HMI.out.lt
          have hmoz := HMO.out.lt
          have hxgz : x0.g < w3.heap.size := by
            have := (HT1.out.objs x1 hx1m).lt x1.g (OM.mem_blocks.2 (.inl rfl))
            rw [HX1.out] at this
            exact this
          have hat0 := HAT.out i s hi hs
          rw [← hq] at hat0
          obtain ⟨S, hS⟩ : ∃ S : World → Prop, S = fun W => W.cell? ⟨x0.g, 7, none⟩ = some (.slice none 0 0) ∧ W.cell? ⟨wr.heap.size, 0, none⟩ = some (.string s.name) ∧ (Instr.lookup 133 (.map (some w1.heap.size)) (.int .i64 o) false).run Tryz.prog W = .ok (.map (some (w1.heap.size + 1))) W ∧ (Instr.lookup 134 (.map (some (w1.heap.size + 1))) (.string s.name) false).run Tryz.prog W = .ok (.int .i64 q) W ∧ Below wx.heap.size wx W := ⟨_, rfl⟩
          have KS : ∀ W, Below wx.heap.size wx W → S W := by
            intro W hW
            have hb3 : Below w3.heap.size w3 W := hbr.trans ((hbx.trans (hW.mono hbx.size)).mono hrz)
            rw [hS]
            refine ⟨?_, cell_of_row W _ 0 _ _ _ ((hW.block _ (by omega)).trans hgx), ?_, ?_, hW⟩
            · have h7 := (HT1.out.objs x1 hx1m).cell 7
              rw [HX1.out] at h7
              rw [← HDN.out]
              exact (hb3.cell (p := ⟨x0.g, 7, none⟩) hxgz).trans h7
            · refine outer_look (n := 1) ho ?_
              rw [← HD1.out]
              exact ownsMap_same HMO.out (hb3.block _ hmoz)
            · obtain ⟨c9, hrun, hatc, _⟩ := (ownsMap_same HMI.out (hb3.block _ hmiz)).lookup_int skeyed smapI tkey (szeroI W) (Go.WideMaps.keyOf_string_mk skey (s := s.name) (by unfold maxLen; omega))
              rw [hat0] at hatc
              injection hatc with hatc
              injection hatc with _ hatc
              rw [hrun, ← hatc]
          have BS : ∀ W, S W → Below wx.heap.size wx W := by intro W h; rw [hS] at h; exact h.2.2.2.2
          have C1 := Lib.hid (show ∀ W, S W → Calls Tryz.prog 52 #[.slice none 0 0, .string s.name] W fun e w' => e = .returned (.bool false) ∧ S w' from fun W h => (Tryz.slices_Contains_string_empty none 0 s.name W).mono (by rintro e w' ⟨rfl, rfl⟩; exact ⟨rfl, h⟩))
          have C2 := Lib.hid (show ∀ W, S W → Calls Tryz.prog 97 #[.pointer (some ⟨a, 0, none⟩), .int .i64 o, .string s.name] W fun e w' => e = .returned (.int .i64 (-1)) ∧ S w' from fun W h => by
            have hb3 : Below w3.heap.size w3 W := hbr.trans ((hbx.trans ((BS W h).mono hbx.size)).mono hrz)
            refine (holder_c (HT1.out.below hb3) ho HPI1.out HDL1.out s.name).mono ?_
            rintro e w' ⟨rfl, hb⟩
            exact ⟨by rw [HHL.out], KS _ ((BS W h).trans (hb.mono (BS W h).size))⟩)
          have K0 : S wx.drew := KS _ (Below.refl _ wx).drew
          have BSH := Lib.hid BS
          have HWX := Lib.hid hwx
          have HBX := Lib.hid hbx
          have HBR := Lib.hid hbr
          have hneq : ((-1 : Int) == q) = false := by simp; omega
          clear hrd hs hsm htr hob hsvA hcell2 hbx hbr hxz hgx hwx KS BS hq hnh hat0
          subst hS
          go_wp2_with fail
          rw [← HWX.out]
          clear r0 r1 r2 r3 r4 r5 r6 r7
          go_region_held3 (fun W => W.cell? ⟨x0.g, 7, none⟩ = some (.slice none 0 0) ∧ W.cell? ⟨wr.heap.size, 0, none⟩ = some (.string s.name) ∧ (Instr.lookup 133 (.map (some w1.heap.size)) (.int .i64 o) false).run Tryz.prog W = .ok (.map (some (w1.heap.size + 1))) W ∧ (Instr.lookup 134 (.map (some (w1.heap.size + 1))) (.string s.name) false).run Tryz.prog W = .ok (.int .i64 q) W ∧ Below wx.heap.size wx W)
            (first | (with_reducible assumption) | (with_reducible exact K0))
            (first
              | (go_at_call 52; refine (C1.out _ ?_).mono ?_; with_reducible assumption; rintro e w' ⟨rfl, hs⟩)
              | (go_at_call 97; refine (C2.out _ ?_).mono ?_; with_reducible assumption; rintro e w' ⟨rfl, hs⟩))
          all_goals
            have HBW := Lib.hid (HBR.out.trans ((HBX.out.trans ((BSH.out _ hs).mono HBX.out.size)).mono hrz))
            clear hs
            go_wp2_with fail
            go_roundg j
            case measure => omega
            case rel => exact ⟨i + 1, rfl, by go_num, by omega, HBW.out⟩
        · obtain rfl : i = x0.o.slots.length := by omega
          rename World => wB
          have htr := HT1.out.below hbr
          have hob := htr.objs x1 hx1m
          have c0b := htr.c0
          have k1 : wB.cell? ⟨x0.g, 1, none⟩ = some (.int .i64 (-1)) := by
            have := hob.cell 1
            rw [HX1.out] at this
            exact this
          have hln := htr.look (o := -1) ⟨by omega, by omega⟩
          rw [ptrT_none htr.neg] at hln
          have K1 : (wB.drew.cell? ⟨a, 0, none⟩ = some (.map (some m)) ∧ wB.drew.cell? ⟨x0.g, 1, none⟩ = some (.int .i64 (-1)) ∧ (Instr.lookup 82 (.map (some m)) (.int .i64 (-1)) false).run Tryz.prog wB.drew = .ok (.pointer none) wB.drew) := by
            have h2 := (htr.below ((Below.refl _ wB).drew)).look (o := -1) ⟨by omega, by omega⟩
            rw [ptrT_none htr.neg] at h2
            exact ⟨c0b, k1, h2⟩
          have hbd : Below w3.heap.size w3 wB.drew := hbr.drew
          have htd := HT1.out.below hbd
          have hobd := htd.objs x1 hx1m
          have f8 : wB.drew.frozen? ⟨x0.g, 8, none⟩ = false := by
            have := hobd.free 8
            rw [HX1.out] at this
            exact this
          have k8 : wB.drew.cell? ⟨x0.g, 8, none⟩ = some (.slice As x0.o.slots.length cs) := by
            have := hobd.cell 8
            rw [HX1.out] at this
            rw [← HSV.out]
            exact this
          obtain ⟨x2, hx2⟩ : ∃ x2 : OM, x2 = ⟨{ x0.o with parent := -1, slots := [] }, x0.g, x0.dv, .slice none 0 0⟩ := ⟨_, rfl⟩
          have hob2 : ObjAt (wB.drew.setCell ⟨x0.g, 8, none⟩ (.slice none 0 0)) B x2 := by
            rw [HX1.out] at hobd
            refine ⟨?_, ?_, ?_⟩
            · rw [hx2]
              exact heap_setCell_same wB.drew x0.g 8 _ _ _ hobd.blk
            · rw [hx2]
              exact ownsRow_same hobd.defs fun b hb => Below.heap_setCell _ _ _ _ (HNDG.out b (.inl hb))
            · rw [hx2]
              exact World.ownsRow_nil _ _ _ _
          have hbl2 : ∀ b ∈ x2.blocks, b ∈ x0.blocks := by
            intro b hb
            rw [hx2] at hb
            rcases OM.mem_blocks.1 hb with hb | hb | hb
            · exact OM.mem_blocks.2 (.inl hb)
            · exact OM.mem_blocks.2 (.inr (.inl hb))
            · cases hb
          have hnd2 : x2.blocks.Nodup := by
            rw [hx2]
            unfold OM.blocks
            have h1 := HND.out
            unfold OM.blocks at h1
            exact h1.sublist (List.Sublist.cons_cons _ ((List.append_sublist_append_left _).2 (by simp [Value.ownBlock])))
          have hc8 : Chg (fun b => b ∈ x1.blocks) wB.drew (wB.drew.setCell ⟨x0.g, 8, none⟩ (.slice none 0 0)) := Chg.set _ (by show x0.g ∈ x1.blocks; rw [HX1.out]; exact OM.mem_blocks.2 (.inl rfl)) _
          have ht2 := htd.rep HF1.out x2 (by rw [hx2, HX1.out]) (by rw [hx2, HX1.out]) hc8 hob2 (fun b hb => .inl (by rw [HX1.out]; exact hbl2 b hb)) hnd2
          have hxo : getO (obT T) o = some x0.o := getO_some' HX0.out
          have hx0id : x0.o.id = o := (findT_some HX0.out).2
          have hoT : obT (repT T1 o x2) = repO (obT T) o { x0.o with parent := -1, slots := [] } := by
            rw [obT_rep, HT1E.out, obT_rep, HX1.out, hx2]
            exact repO_twice _ _ _ _ hx0id
          have hmem : ∀ y ∈ repT T1 o x2, y = x2 ∨ y ∈ T := by
            intro y hy
            obtain ⟨z, hz, e⟩ := List.mem_map.1 hy
            by_cases h1 : z.o.id = o
            · rw [if_pos (by simpa using h1)] at e
              exact .inl e.symm
            · rw [if_neg (by simpa using h1)] at e
              subst e
              rw [HT1E.out] at hz
              obtain ⟨u, hu, e2⟩ := List.mem_map.1 hz
              by_cases h2 : u.o.id = o
              · rw [if_pos (by simpa using h2)] at e2
                rw [← e2, HX1.out] at h1
                exact absurd hx0id h1
              · rw [if_neg (by simpa using h2)] at e2
                rw [← e2]
                exact .inr hu
          have hcw : Chg (fun b => b ∈ x0.blocks) w (wB.drew.setCell ⟨x0.g, 8, none⟩ (.slice none 0 0)) := by
            refine ((Chg.of_below HBW.out).trans (HC3.out.trans (Chg.trans' (Chg.of_below hbd) hc8 ?_)))
            intro b _ hb
            rw [HX1.out] at hb
            exact hb
          have HST := Lib.hid (show StS w (wB.drew.setCell ⟨x0.g, 8, none⟩ (.slice none 0 0)) B a m T (repT T1 o x2) mx mx from
            ⟨⟨ht2, by
              rw [hoT]
              exact okS_par H.out.ok hxo (.inl rfl) (by
                rw [row_none]
                · simp
                · rw [getO_bare, getO_none' H.out.tab.neg]; rfl) rfl, fun y hy s hs => by
              rcases hmem y hy with rfl | h1
              · rw [hx2] at hs; cases hs
              · exact H.out.flat y h1 s hs, fun y hy => by
              rcases hmem y hy with rfl | h1
              · rw [hx2]; exact ⟨fun _ => rfl, fun _ => HDN.out⟩
              · exact H.out.bare y h1⟩,
            hcw.mono (fun b _ hb => List.mem_cons_of_mem _ (List.mem_cons_of_mem _ (List.mem_flatMap.2 ⟨x0, hxm, hb⟩))),
            fun b hb => by
              obtain ⟨y, hy, hyb⟩ := List.mem_flatMap.1 hb
              rcases hmem y hy with rfl | h1
              · exact .inl (List.mem_flatMap.2 ⟨x0, hxm, hbl2 b hyb⟩)
              · exact .inl (List.mem_flatMap.2 ⟨y, h1, hyb⟩)⟩)
          have HOT := Lib.hid hoT
          clear htr hob hbr hbd htd hobd hx2 hob2 hbl2 hnd2 hc8 ht2 hxo hx0id hoT hmem hcw
          go_wp2_with fail
          go_region_held3 (fun W => W.cell? ⟨a, 0, none⟩ = some (.map (some m)) ∧ W.cell? ⟨x0.g, 1, none⟩ = some (.int .i64 (-1)) ∧ (Instr.lookup 82 (.map (some m)) (.int .i64 (-1)) false).run Tryz.prog W = .ok (.pointer none) W)
            (first | (with_reducible exact K1) | exact ⟨c0b, k1, hln⟩)
            (fail)
          clear K1 hln c0b k1
          go_wp2_with fail
          refine (sortSlots_none 0 _).mono ?_
          rintro e w9 ⟨rfl, rfl⟩
          go_wp2_with fail
          rw [rounds_succ]
          go_wp2_with fail
          go_end0
          exact ⟨rfl, _, HST.out, HOT.out⟩
end Go.Proofs.YtnphgcbknfmapaaGreatDoor
namespace Go.Proofs.YtnphgcbknfmapaaGreatDoor
open Go.RowKit Go.Lib
set_option linter.unusedVariables false

set_option maxRecDepth 100000 in
set_option maxHeartbeats 4000000 in
theorem chpar_an {w : World} {B a m : Nat} {T : List OM} {mx o : Int} {R : World → World → Prop} (h : TS w B a m T mx) (ho : I64 o) {x0 : OM} (hx0 : findT T o = some x0) (hb : belowO (obT T) o = some [o]) (hd : x0.o.defs = []) (hpi : ParI T) (hi : isO (obT T) (-1) o = false)
    (hsm : (nmO (obT T) (-1)).length ≤ 100000) (hri : RiseS (nmO (obT T) (-1)))
    (CU : ∀ W, Below w.heap.size w W → Calls Tryz.prog 53 #[.pointer (some ⟨a, 0, none⟩), .int .i64 o, .int .i64 (-1)] W fun e w' => e = .returned (.tuple #[]) ∧ R W w') :
    Calls Tryz.prog 14 #[.pointer (some ⟨a, 0, none⟩), .int .i64 o, .int .i64 (-1)] w fun e w' => e = .returned (.int .i64 0) ∧ ∃ W, Below w.heap.size w W ∧ R W w' := by
  have hp : I64 (-1) := ⟨by omega, by omega⟩
  have CO := Lib.hid (has_c h.tab ho)
  rw [findT_has hx0] at CO
  have CI := Lib.hid (is_c (p := o) h.tab hp hpi)
  rw [hi] at CI
  have H := Lib.hid h
  have HX0 := Lib.hid hx0
  have HPI := Lib.hid hpi
  have HRI := Lib.hid hri
  have HCU := Lib.hid CU
  have hxm := (findT_some hx0).1
  have HDN := Lib.hid ((h.bare x0 hxm).2 hd)
  have HBL := Lib.hid hb
  clear h hx0 hpi hri CU hi hb
  go_enter Tryz.func14, Tryz.ntmps14
  go_wp2_with fail
  refine CO.out.mono ?_
  rintro e w1 ⟨rfl, rfl⟩
  go_wp2_with fail
  refine CI.out.mono ?_
  rintro e w1 ⟨rfl, hb1⟩
  have HB1 := Lib.hid hb1
  have CN := Lib.hid (names_g (H.out.tab.below hb1).toG hp HPI.out hsm HRI.out)
  clear hb1
  go_wp2_with fail
  refine CN.out.mono ?_
  rintro e w2 ⟨v, rfl, hrow, hb2⟩
  obtain ⟨An, cn, rfl, _⟩ := own_formO hrow
  have HB2 := Lib.hid (HB1.out.trans (hb2.mono HB1.out.size))
  clear hb2 CN HB1 hrow
  go_wp2_with fail
  obtain ⟨w3, hw3⟩ : ∃ w3, w3 = w2.alloc (.cells #[.slice An (nmO (obT T) (-1)).length cn] 25) := ⟨_, rfl⟩
  have hb3 : Below w.heap.size w w3 := by rw [hw3]; exact HB2.out.alloc HB2.out.size _
  have CB := Lib.hid (below_c (H.out.tab.below hb3) ho HBL.out (fun x hx => by simp at hx; rw [hx]; exact ho) (by simp))
  have HB3 := Lib.hid hb3
  rw [← hw3]
  clear hb3 hw3
  refine CB.out.mono ?_
  rintro e w4 ⟨v, rfl, hrow, hb4⟩
  obtain ⟨A, c, rfl, hnc, hcm, hA, hcell⟩ := own_formO hrow
  obtain ⟨g1, rfl, hc1⟩ := hcell 0 (.int .i64 o) rfl
  have HB4 := Lib.hid (HB3.out.trans (hb4.mono HB3.out.size))
  clear hb4 hcell CB HB3 hrow
  have c0 := (H.out.tab.below HB4.out).c0
  have hl := (H.out.tab.below HB4.out).look ho
  rw [ptrT_some HX0.out] at hl
  have h7 : w4.cell? ⟨x0.g, 7, none⟩ = some (.slice none 0 0) := by rw [← HDN.out]; exact cellX H.out.tab HB4.out hxm 7
  go_wp2_with fail
  refine wp_loop_rounds 2 ?_
  rw [rounds_succ]
  go_wp2_with fail
  refine (conF_none 0 _ _).mono ?_
  rintro e w5 ⟨rfl, rfl⟩
  go_wp2_with fail
  rw [rounds_succ]
  go_wp2_with fail
  refine (HCU.out _ HB4.out).mono ?_
  rintro e w6 ⟨rfl, hR⟩
  go_wp2_with fail
  go_ret
  exact ⟨rfl, _, HB4.out, hR⟩

end Go.Proofs.YtnphgcbknfmapaaGreatDoor
namespace Go.Proofs.YtnphgcbknfmapaaGreatDoor
open Go.RowKit Go.Lib
set_option linter.unusedVariables false

/-- The name of a property: p and a letter. -/
def nmP (i : Nat) : ByteArray := ⟨#[112, (97 + i).toUInt8]⟩
def nmL (n : Nat) : List ByteArray := (List.range n).map nmP
/-- Such a property. -/
def slP (i : Nat) (b : Int) : SL := ⟨nmP i, 5, b % 8, false, 0, i, ⟨#[]⟩⟩
def slL : Nat → List Int → List SL
  | _, [] => []
  | i, b :: r => slP i b :: slL (i + 1) r
theorem slL_len : ∀ (i : Nat) (l : List Int), (slL i l).length = l.length
  | _, [] => rfl
  | i, b :: r => by rw [slL, List.length_cons, slL_len (i + 1) r, List.length_cons]
theorem slL_at : ∀ (i : Nat) (l : List Int) (k : Nat), (slL i l)[k]? = (l[k]?).map fun b => slP (i + k) b
  | _, [], k => by simp [slL]
  | i, b :: r, 0 => by simp [slL]
  | i, b :: r, k + 1 => by
    rw [slL, List.getElem?_cons_succ, slL_at (i + 1) r k, List.getElem?_cons_succ]
    congr 1
    funext x
    rw [show i + 1 + k = i + (k + 1) by omega]
theorem slL_names (l : List Int) : (slL 0 l).map SL.name = nmL l.length := by
  apply List.ext_getElem?
  intro k
  rw [List.getElem?_map, slL_at]
  unfold nmL
  rw [List.getElem?_map]
  by_cases h : k < l.length
  · rw [List.getElem?_eq_getElem h, List.getElem?_range h]
    simp [slP]
  · rw [List.getElem?_eq_none (by omega), List.getElem?_eq_none (by simp; omega)]
    rfl
theorem slL_take (l : List Int) (k : Nat) (b : Int) (h : l[k]? = some b) : (slL 0 l).take (k + 1) = (slL 0 l).take k ++ [slP k b] := by
  have h2 : (slL 0 l)[k]? = some (slP k b) := by rw [slL_at, h]; simp
  rw [List.take_succ_eq_append_getElem (List.getElem?_eq_some_iff.1 h2).1, (List.getElem?_eq_some_iff.1 h2).2]
theorem nmL_len (n : Nat) : (nmL n).length = n := by simp [nmL]
theorem mem_nmL {n : Nat} {x : ByteArray} (h : x ∈ nmL n) : ∃ i, i < n ∧ x = nmP i := by
  unfold nmL at h
  obtain ⟨i, hi, rfl⟩ := List.mem_map.1 h
  exact ⟨i, List.mem_range.1 hi, rfl⟩
theorem mem_slL {l : List Int} {s : SL} (h : s ∈ slL 0 l) : ∃ i b, i < l.length ∧ s = slP i b := by
  obtain ⟨k, hk⟩ := List.mem_iff_getElem?.1 h
  rw [slL_at] at hk
  cases hb : l[k]? with
  | none => rw [hb] at hk; cases hk
  | some b =>
    rw [hb] at hk
    injection hk with hk
    exact ⟨k, b, (List.getElem?_eq_some_iff.1 hb).1, by rw [← hk]; simp⟩
theorem nmP_good : ∀ i : Fin 12, nmB (nmP i.1).data.toList = true ∧ biB (nmP i.1) = false := by decide +kernel
theorem nmP_up : ∀ i : Fin 11, Op.bytesLess (nmP (i.1 + 1)).toList (nmP i.1).toList = false ∧ ((nmP (i.1 + 1)).toList == (nmP i.1).toList) = false := by decide +kernel
theorem nmP_rise : ∀ i j : Fin 12, i.1 < j.1 → decide ((nmP i.1).data.toList ≤ (nmP j.1).data.toList) = true := by decide +kernel
theorem rise_nmL {n : Nat} (h : n ≤ 12) : RiseS (nmL n) := by
  unfold RiseS
  apply List.mergeSort_of_pairwise
  unfold lstsO nmL
  rw [List.map_map, List.pairwise_map]
  refine List.Pairwise.imp_of_mem ?_ List.pairwise_lt_range
  intro i j hi hj hij
  exact nmP_rise ⟨i, by have := List.mem_range.1 hi; omega⟩ ⟨j, by have := List.mem_range.1 hj; omega⟩ hij
theorem rise_nil : RiseS [] := by
  unfold RiseS
  simp [lstsO]

/-- The object. -/
def obP (l : List Int) : OB := ⟨0, -1, 0, -1, 0, 0, ⟨#[]⟩, nmL l.length, slL 0 l⟩
theorem getO_obP (l : List Int) : getO [obP l] 0 = some (obP l) := rfl
theorem getO_obN (l : List Int) : getO [obP l] (-1) = none := rfl
theorem above_obP (l : List Int) : aboveO [obP l] 0 = [0] := alone_above (getO_obP l) rfl (getO_obN l)
theorem nm_obP (l : List Int) : nmO [obP l] 0 = nmL l.length := by
  unfold nmO
  rw [above_obP]
  unfold nmR
  rw [List.flatMap_cons, List.flatMap_nil, List.append_nil, dfO_some (getO_obP l)]
  rfl
theorem nm_obN (l : List Int) : nmO [obP l] (-1) = [] := by
  unfold nmO
  rw [above_none (getO_obN l)]
  rfl
theorem fair_obP {l : List Int} (h : l.length ≤ 12) : FairO [obP l] (obP l) where
  nm := rfl
  own := ⟨by show (-1 : Int) ≤ 0; omega, by show (0 : Int) < _; omega⟩
  fl := ⟨by show (0 : Int) ≤ 0; omega, by show (0 : Int) ≤ _; omega⟩
  qu := ⟨by show (0 : Int) ≤ 0; omega, by show (0 : Int) ≤ _; omega⟩
  dl := by show (nmL l.length).length ≤ 64; rw [nmL_len]; omega
  pl := by show (nmO [obP l] (-1)).length ≤ 1000; rw [nm_obN]; simp
  pr := by show RiseS (nmO [obP l] (-1)); rw [nm_obN]; exact rise_nil
  dn := by
    intro n hn
    obtain ⟨i, hi, rfl⟩ := mem_nmL hn
    have hg := nmP_good ⟨i, by omega⟩
    refine ⟨hg.1, by show 2 ≤ 32; omega, hg.2, ?_⟩
    show containsS (nmO [obP l] (-1)) _ = false
    rw [nm_obN]
    rfl
  du := by
    intro i p q hp hq
    change (nmL l.length)[i]? = some p at hp
    change (nmL l.length)[i + 1]? = some q at hq
    obtain ⟨l2, _⟩ := List.getElem?_eq_some_iff.1 hq
    rw [nmL_len] at l2
    unfold nmL at hp hq
    rw [List.getElem?_map, List.getElem?_range (by omega)] at hp hq
    injection hp with hp
    injection hq with hq
    subst hp
    subst hq
    exact nmP_up ⟨i, by omega⟩
  sn := by show nmO [obP l] 0 = (slL 0 l).map SL.name; rw [nm_obP, slL_names]
  sr := by show RiseS (nmO [obP l] 0); rw [nm_obP]; exact rise_nmL h
  sl := by show (slL 0 l).length ≤ 1000; rw [slL_len]; omega
  sf := by
    intro s hs
    obtain ⟨i, b, hi, rfl⟩ := mem_slL hs
    have h1 := Int.emod_nonneg b (show (8 : Int) ≠ 0 by omega)
    have h2 := Int.emod_lt_of_pos b (show (0 : Int) < 8 by omega)
    exact ⟨⟨h1, by show b % 8 ≤ 7; omega, rfl, rfl⟩, by show (-1 : Int) ≤ 5; omega, by show (5 : Int) < _; omega, fun e => by cases e⟩
theorem ok_obP (l : List Int) : OkS [obP l] 0 := OkT.create OkT.nil (-1) 0 (.inl rfl)

/-- The child: its properties are the object's, at first. -/
def chP (l : List Int) (ow : Int) : OB := newO 0 0 ow ((slL 0 l).map fun s => freshO s ow)
theorem getO_ch0 (l : List Int) (ow : Int) : getO [obP l, chP l ow] 0 = some (obP l) := rfl
theorem getO_ch1 (l : List Int) (ow : Int) : getO [obP l, chP l ow] 1 = some (chP l ow) := rfl
theorem above_ch1 (l : List Int) (ow : Int) : aboveO [obP l, chP l ow] 1 = [1, 0] := rfl
theorem below_ch1 (l : List Int) (ow : Int) : belowO [obP l, chP l ow] 1 = some [1] := by
  show blwO [obP l, chP l ow] 3 0 [1] = some [1]
  rfl
theorem contains_nmL {n i : Nat} (h : i < n) (h12 : n ≤ 12) : containsS (nmL n) (nmP i) = true := by
  rw [containsS_iff]
  exact List.mem_map_of_mem (List.mem_range.2 h)
theorem hld_ch {l : List Int} {ow : Int} (h12 : l.length ≤ 12) : ∀ s ∈ (chP l ow).slots, hldO [obP l, chP l ow] s.name 1 = 0 := by
  intro s hs
  obtain ⟨u, hu, rfl⟩ := List.mem_map.1 hs
  obtain ⟨i, b, hi, rfl⟩ := mem_slL hu
  show hldO [obP l, chP l ow] (nmP i) 1 = 0
  unfold hldO
  rw [above_ch1]
  unfold hldR hldR
  rw [dfO_some (getO_ch1 l ow), dfO_some (getO_ch0 l ow), if_neg, if_pos]
  · exact contains_nmL hi h12
  · rw [show containsS (chP l ow).defs (nmP i) = false from rfl]
    decide
end Go.Proofs.YtnphgcbknfmapaaGreatDoor
