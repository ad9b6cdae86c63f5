/- Contracts of the functions that the statement reaches, and the plain mathematics beneath: several texts joined. -/
import Derived.Laws.Tables
import Derived.Laws.CopyOwn
import Derived.Laws.ResultCell
import Derived.IntWalk
import Derived.Test.YtagajoagdhickaaRows
import Derived.SizedLaws
import Derived.OpenShut
import Derived.ShutString
import Derived.ChangeSlices
import Derived.Carry
import Derived.JoinedOf
import Derived.Test.YtagajoagdhickaaObtAC
namespace Go.Proofs.Ytagajoagdhickaa
open Go.RowKit Go.Lib
set_option linter.unusedVariables false

theorem rcp_start {w w1 : World} {B a m : Nat} {T : List OM} {mx o : Int} (h : TB w B a m T mx) {x0 : OM} (hx0 : findT T o = some x0) (hb : Below w.heap.size w w1) : ∃ rk, RcP w1 w1 B a m T T mx rk o x0 0 ∧ (∀ c ∈ kidsO (obT T) o, rk o < rk c) := by
  obtain ⟨rk, hr⟩ := h.ok.acyP
  obtain ⟨hxm, hxo⟩ := findT_some hx0
  have hxm' : x0.o ∈ obT T := List.mem_map_of_mem hxm
  refine ⟨rk, ⟨.refl (h.keep hb), rfl, hx0, hr, ?_, rfl⟩, fun c hc => ?_⟩
  · rcases h.ok.par x0.o hxm' with e | e
    · exact .inl fun x hx e' => by have := h.ok.rng x hx; omega
    · obtain ⟨y, hy, e⟩ := hasO_iff.1 e
      have := hr x0.o hxm' y hy e.symm
      rw [e, hxo] at this
      exact .inr this
  · obtain ⟨y, hy, rfl, hp⟩ := mem_kids hc
    have := hr y hy x0.o hxm' (by rw [hp, hxo])
    rw [hxo] at this
    exact this
theorem i64_has {w : World} {B a m : Nat} {T : List OM} {mx c : Int} (h : TB w B a m T mx) {x : OM} (hx : findT T c = some x) : I64 c := by
  have h1 := h.tab.rng x (findT_some hx).1
  have h2 := (findT_some hx).2
  have h3 := h.tab.mxr
  exact ⟨by omega, by omega⟩
theorem has_of_ids {T T' : List OM} (h : idsO (obT T') = idsO (obT T)) {c : Int} {x : OM} (hx : findT T c = some x) : ∃ y, findT T' c = some y :=
  hasT (by rw [hasO_ids h]; exact findT_has hx)
theorem stp_drop {w w' : World} {B a m n : Nat} {T : List OM} {mx : Int} (h : TB w B a m T mx) (o : Int) (hmap : w'.ownsMap Try.prog 3 ptrR m n ((DataW.map (datT T)).del (.int .i64 o))) (hg : w.mapTurned w' m) (hok : OkT (delO (obT T) o) mx) : Stp w w' B a m T (T.filter fun x => !(x.o.id == o)) mx mx := by
  have hgr := hg.grown
  refine ⟨⟨h.tab.drop o hmap fun b hb hn => hgr.block b hb fun e => hn (by injection e), by rw [obT_drop]; exact hok, fun x hx => h.bare x (List.mem_filter.1 hx).1⟩, (Chg.of_grown hgr).mono fun i _ e => ?_, fun b hb => .inl ((blkT_filter _).subset hb)⟩
  rw [e]
  exact List.mem_cons_of_mem _ (List.mem_cons_self ..)

set_option maxRecDepth 100000 in
set_option maxHeartbeats 8000000 in
theorem recycle_yes {w : World} {B a m : Nat} {T : List OM} {mx o : Int} (h : TB w B a m T mx) (ho : I64 o) {x0 : OM} (hx0 : findT T o = some x0) :
    Calls Try.prog 9 #[.pointer (some ⟨a, 0, none⟩), .int .i64 o] w fun e w' => e = .returned (.int .i64 0) ∧ ∃ T', Stp w w' B a m T T' mx mx ∧ obT T' = rclO (obT T) o x0.o.parent := by
  have c0 := h.tab.c0
  have hl := h.tab.look ho
  rw [ptrT_some hx0] at hl
  have CK := Lib.hid (kids_c h.tab ho)
  have hkl := kidsO_len (T := T) o
  have hfew := h.tab.few
  have hp := h.parI x0 (findT_some hx0).1
  have H := Lib.hid h
  have HX0 := Lib.hid hx0
  have HNB := Lib.hid (show ∀ g, g ∈ a :: m :: blkT T → g < w.heap.size from h.tab.lt)
  clear h hx0
  go_enter Try.func9, Try.ntmps9
  go_wp2_with fail
  refine CK.out.mono ?_
  rintro e w1 ⟨v, rfl, hrow, hb1⟩
  obtain ⟨A, c, rfl, hnc, hcm, hA, hcell⟩ := own_formO hrow
  obtain ⟨rk, hst, hrkc⟩ := rcp_start H.out HX0.out hb1
  have HST := Lib.hid hst
  have HRK := Lib.hid hrkc
  have HB1 := Lib.hid hb1
  have HCL := Lib.hid hcell
  have HR := Lib.hid hrow
  have hs1 := hb1.size
  clear hb1 hrow hcell CK hst hrkc
  go_wp2_with fail
  go_loopg [22] (kidsO (obT T) o).length (fun kk iv wr => ∃ (k : Nat) (Tk : List OM), iv = .int .i64 (k : Int) ∧ k + kk = (kidsO (obT T) o).length ∧ RcP w1 wr B a m T Tk mx rk o x0 k)
  case atStart => exact ⟨0, T, rfl, by omega, HST.out⟩
  case round =>
    clear c0 hl
    obtain ⟨k, Tk, rfl, hik, hrc⟩ := hrel
    by_cases hk : k < (kidsO (obT T) o).length
    · obtain ⟨j, rfl⟩ : ∃ j, gk = j + 1 := ⟨gk - 1, by omega⟩
      obtain ⟨x, hx⟩ : ∃ x, (kidsO (obT T) o)[k]? = some x := ⟨(kidsO (obT T) o)[k], List.getElem?_eq_some_iff.2 ⟨hk, rfl⟩⟩
      obtain ⟨g1, rfl, hc1⟩ := HCL.out k (.int .i64 x) (by simp [intsO, hx])
      have hg1 := HR.out.lt g1 rfl
      have hcr : wr.cell? ⟨g1, k, none⟩ = some (.int .i64 x) := (World.cell?_of_block (a := ⟨g1, k, none⟩) (hrc.stp.chg.block g1 hg1.2 (fun e => by have := HNB.out g1 e; omega))).trans hc1
      have hxm := List.mem_of_getElem? hx
      obtain ⟨y0, hy0⟩ := kids_lt hxm
      obtain ⟨y, hy⟩ := has_of_ids hrc.ids hy0
      have hxi := i64_has hrc.stp.tb hy
      have h1 : wr.cell? ⟨x0.g, 1, none⟩ = some (.int .i64 x0.o.parent) := (hrc.stp.tb.tab.objs x0 (findT_some hrc.at_).1).cell 1
      obtain ⟨r, hr, hrl, hrh⟩ := below_all hrc.stp.tb (findT_has hy)
      have CU := Lib.hid (under_c0 hrc.stp.tb.tab hxi hp hrc.stp.tb.parI hrc.stp.tb.bare hy hr (fun z hz => by obtain ⟨u, h1, _⟩ := hrh z hz; exact findT_has h1) hrl)
      have hpp : x0.o.parent = -1 ∨ hasO (obT Tk) x0.o.parent = true := by
        rw [hasO_ids hrc.ids]
        exact H.out.ok.par x0.o (List.mem_map_of_mem (findT_some HX0.out).1)
      have HRC := Lib.hid hrc
      have HPP := Lib.hid hpp
      have HX := Lib.hid hx
      have hrx := HRK.out x hxm
      clear hrc hpp hx hc1 hr hrh hy0 hy hxm
      go_wp2_with fail
      refine CU.out.mono ?_
      rintro e w6 ⟨rfl, ht6, hc6⟩
      have HN := Lib.hid (HRC.out.step HX.out hrx HPP.out ht6 hc6)
      clear ht6 hc6
      go_wp2_with fail
      go_roundg j
      case measure => omega
      case rel => exact ⟨k + 1, _, by go_num, by omega, HN.out⟩
    · obtain rfl : k = (kidsO (obT T) o).length := by omega
      obtain ⟨w2, hw2⟩ : ∃ w2, w2 = wr := ⟨_, rfl⟩
      rw [← hw2] at hrc ⊢
      clear hw2
      have heq := hrc.eq
      rw [List.take_length] at heq
      have HEQ := Lib.hid heq
      have HRC := Lib.hid hrc
      have CC := Lib.hid (cont_c hrc.stp.tb.tab ho)
      have hcl := contO_len (T := Tk) o
      have hfk := hrc.stp.tb.tab.few
      have HNB2 := Lib.hid (show ∀ g, g ∈ a :: m :: blkT Tk → g < w2.heap.size from hrc.stp.tb.tab.lt)
      clear hrc heq
      go_wp2_with fail
      refine CC.out.mono ?_
      rintro e w3 ⟨v2, rfl, hrow2, hb3⟩
      obtain ⟨A2, c2, rfl, hnc2, hcm2, hA2, hcell2⟩ := own_formO hrow2
      have HB3 := Lib.hid hb3
      have HCL2 := Lib.hid hcell2
      have HR2 := Lib.hid hrow2
      have HT3 := Lib.hid (HRC.out.stp.tb.keep hb3)
      clear hb3 hcell2 hrow2 CC
      go_wp2_with fail
      go_loopg [38] (contO (obT Tk) o).length (fun kk iv wr => ∃ (k : Nat) (T2 : List OM), iv = .int .i64 (k : Int) ∧ k + kk = (contO (obT Tk) o).length ∧ RcL w3 wr B a m Tk Tk T2 mx o k)
      case atStart => exact ⟨0, Tk, rfl, by omega, .refl HT3.out, rfl, rfl⟩
      case round =>
        clear hik hk
        obtain ⟨k, T2, rfl, hik, hrc⟩ := hrel
        by_cases hk : k < (contO (obT Tk) o).length
        · obtain ⟨j, rfl⟩ : ∃ j, gk = j + 1 := ⟨gk - 1, by omega⟩
          obtain ⟨x, hx⟩ : ∃ x, (contO (obT Tk) o)[k]? = some x := ⟨(contO (obT Tk) o)[k], List.getElem?_eq_some_iff.2 ⟨hk, rfl⟩⟩
          obtain ⟨g1, rfl, hc1⟩ := HCL2.out k (.int .i64 x) (by simp [intsO, hx])
          have hg1 := HR2.out.lt g1 rfl
          have hcr : wr.cell? ⟨g1, k, none⟩ = some (.int .i64 x) := (World.cell?_of_block (a := ⟨g1, k, none⟩) (hrc.stp.chg.block g1 hg1.2 (fun e => by have := HNB2.out g1 e; omega))).trans hc1
          obtain ⟨y0, hy0⟩ := cont_lt (List.mem_of_getElem? hx)
          obtain ⟨y, hy⟩ := has_of_ids hrc.ids hy0
          have hxi := i64_has hrc.stp.tb hy
          have c0 := hrc.stp.tb.tab.c0
          have hl := hrc.stp.tb.tab.look hxi
          rw [ptrT_some hy] at hl
          have hym := (findT_some hy).1
          have h3 : wr.cell? ⟨y.g, 3, none⟩ = some (.int .i64 y.o.place) := (hrc.stp.tb.tab.objs y hym).cell 3
          have f3 : wr.frozen? ⟨y.g, 3, none⟩ = false := (hrc.stp.tb.tab.objs y hym).free 3
          have HN := Lib.hid (hrc.step hx hy)
          clear hrc hx hc1 hy0 hy
          go_wp2_with fail
          go_roundg j
          case measure => omega
          case rel => exact ⟨k + 1, _, by go_num, by omega, HN.out⟩
        · obtain rfl : k = (contO (obT Tk) o).length := by omega
          have heq := hrc.eq
          rw [List.take_length] at heq
          have hrcl : delO (obT T2) o = rclO (obT T) o x0.o.parent := by
            rw [heq, HEQ.out]
            rfl
          have hok : OkT (delO (obT T2) o) mx := by
            rw [hrcl]
            exact H.out.ok.recycle (getO_some' HX0.out)
          have HOK := Lib.hid hok
          have HRL := Lib.hid hrcl
          have HRC2 := Lib.hid hrc
          have HOW := Lib.hid hrc.stp.tb.tab.map
          have c0 := hrc.stp.tb.tab.c0
          clear hrc heq hrcl hok
          go_wp2_with (refine wpList_delete_own _ rfl _ _ 51 3 rfl 54 tkeyed tmap ptrR m T2.length (.map (datT T2)) rfl HOW.out (.int .i64 o) (.int .i64 o) rfl (tkey_of ho) ?_
                       intro w9 hown9 hturn9
                       have HS := Lib.hid (stp_drop HRC2.out.stp.tb o hown9 hturn9 HOK.out)
                       clear hown9 hturn9)
          go_ret
          exact ⟨rfl, _, (((Stp.of_below H.out HB1.out).trans HRC.out.stp).behind HB3.out).trans (HRC2.out.stp.trans HS.out), by rw [obT_drop]; exact HRL.out⟩
end Go.Proofs.Ytagajoagdhickaa
namespace Go.Proofs.Ytagajoagdhickaa
open Go.RowKit Go.Lib
set_option linter.unusedVariables false

/-- The cells of an object without properties. -/
def bareCs (x : OB) : Array Value := #[.int .i64 x.id, .int .i64 x.parent, .int .i64 x.owner, .int .i64 x.place, .int .i64 x.flags, .int .i64 x.quota, .string x.name, .slice none 0 0, .slice none 0 0, .slice none 0 0]

theorem bare_one (x : OB) : (bareCs x).all (·.oneCell') = true := by simp [bareCs, Value.oneCell']
set_option maxRecDepth 100000 in
set_option maxHeartbeats 4000000 in
theorem object_c (x : OB) (w : World) : Calls Try.prog 34 #[.agg (bareCs x)] w fun e w' => e = .returned (.agg (bareCs x)) ∧ Below w.heap.size w w' := by
  obtain ⟨id, parent, owner, place, flags, quota, name, defs, slots⟩ := x
  unfold bareCs
  go_enter Try.func34, Try.ntmps34
  go_wp2_with fail
  refine (Try.slices_Clone_string_nil 0 0 _).mono ?_
  rintro e w1 ⟨rfl, rfl⟩
  go_wp2_with fail
  refine wp_loop_rounds 1 ?_
  rw [rounds_succ]
  go_wp2_with fail
  refine wp_loop_rounds 1 ?_
  rw [rounds_succ]
  go_wp2_with fail
  exact bodyPost_ret (results_cell_row (P := Try.prog) rfl _ _ (w.heap.size + 1) _ _ _ _ rfl (heap_alloc2_new _ _ _) Try.underlying38 rfl (by kernel_rfl)) rfl ⟨rfl, ((Below.refl _ _).alloc (Nat.le_refl _) _).alloc (by simp) _⟩

theorem results_row_tmp {P : Program} {fn : Func} {p u : Tmp} {ty : TypeId} (h : fn.results = #[.cell p ty, .tmp u]) (tmps : Array Value) (w : World) (g : Nat) (t : TypeId) (cs : Array Value) (fr : Nat × Nat) (d : TypeDesc)
    (hp : tmps.getD p undef = .pointer (some ⟨g, 0, none⟩)) (hg : w.heap[g]? = some (.cells cs t fr))
    (hu : P.underlying ty = some d) (hd : (match d with | .struct _ | .array _ _ => true | _ => false) = true) (hi : (P.info? ty).map (·.size) = some cs.size) :
    (results fn tmps).run P w = .ok (.tuple #[.agg cs, tmps.getD u undef]) w := by
  rw [results_cell_tmp h, hp]
  simp [asAddr, run_loadVar_row w g t ty cs fr d hg hu hd hi, Result.andThen]
/-- An object without properties in memory has such cells. -/
theorem bare_cells {T : List OM} (hb : BareM T) {x : OM} (hx : x ∈ T) : x.cells = bareCs x.o := by
  unfold OM.cells bareCs
  rw [(hb x hx).1, (hb x hx).2]
set_option maxRecDepth 100000 in
set_option maxHeartbeats 4000000 in
theorem get_c {w : World} {B a m : Nat} {T : List OM} {mx o : Int} (h : TB w B a m T mx) (ho : I64 o) {x : OM} (hx : findT T o = some x) :
    Calls Try.prog 19 #[.pointer (some ⟨a, 0, none⟩), .int .i64 o] w fun e w' => e = .returned (.tuple #[.agg (bareCs x.o), .bool true]) ∧ Below w.heap.size w w' := by
  have hxm := (findT_some hx).1
  have hb1 : Below w.heap.size w (w.alloc (.cells #[.int .i64 0, .int .i64 0, .int .i64 0, .int .i64 0, .int .i64 0, .int .i64 0, .string ⟨#[]⟩, .slice none 0 0, .slice none 0 0, .slice none 0 0] 38)) := (Below.refl _ _).alloc (Nat.le_refl _) _
  have HB1 := Lib.hid hb1
  have ht := h.tab.below hb1
  clear hb1
  have c0 := ht.c0
  have hl := ht.look ho
  rw [ptrT_some hx] at hl
  have hg := (ht.objs x hxm).blk
  rw [bare_cells h.bare hxm] at hg
  have CO := object_c x.o
  unfold bareCs at CO
  have CO := Lib.hid CO
  have HG := Lib.hid hg
  have hcl := fun j => (ht.objs x hxm).cell j
  rw [bare_cells h.bare hxm] at hcl
  have d0 := hcl 0
  have d1 := hcl 1
  have d2 := hcl 2
  have d3 := hcl 3
  have d4 := hcl 4
  have d5 := hcl 5
  have d6 := hcl 6
  have d7 := hcl 7
  have d8 := hcl 8
  have d9 := hcl 9
  unfold bareCs at d0 d1 d2 d3 d4 d5 d6 d7 d8 d9
  simp at d0 d1 d2 d3 d4 d5 d6 d7 d8 d9
  clear h hg hcl ht hx
  go_enter Try.func19, Try.ntmps19
  go_wp2_with fail
  refine CO.out _ |>.mono ?_
  rintro e w2 ⟨rfl, hb2⟩
  have hz2 : w2.heap[w.heap.size]? = some (.cells #[.int .i64 0, .int .i64 0, .int .i64 0, .int .i64 0, .int .i64 0, .int .i64 0, .string ⟨#[]⟩, .slice none 0 0, .slice none 0 0, .slice none 0 0] 38 (0, 0)) := (hb2.block _ (by simp)).trans (heap_alloc_new _ _)
  have HZ2 := Lib.hid hz2
  have HB2 := Lib.hid (HB1.out.trans (hb2.mono (by simp)))
  clear hb2 hz2 c0 hl d0 d1 d2 d3 d4 d5 d6 d7 d8 d9
  have hr := setRow_heap w2 w.heap.size _ (bareCs x.o) _ _ HZ2.out
  have HROW := Lib.hid hr
  have HBR := Lib.hid (below_setRow HB2.out (g := w.heap.size) (Nat.le_refl _) (bareCs x.o))
  clear hr
  go_wp2_with (refine wpList_store_row rfl 38 (.tmp 4) (.tmp 19) rfl w.heap.size #[.int .i64 x.o.id, .int .i64 x.o.parent, .int .i64 x.o.owner, .int .i64 x.o.place, .int .i64 x.o.flags, .int .i64 x.o.quota, .string x.o.name, .slice none 0 0, .slice none 0 0, .slice none 0 0] rfl rfl _ _ HZ2.out (by kernel_rfl) rfl (bare_one x.o) ?_)
  exact bodyPost_ret (results_row_tmp (P := Try.prog) rfl _ _ w.heap.size _ (bareCs x.o) _ _ rfl HROW.out Try.underlying38 rfl (by kernel_rfl)) rfl ⟨rfl, HBR.out⟩
set_option maxRecDepth 100000 in
set_option maxHeartbeats 4000000 in
theorem get_no {w : World} {B a m : Nat} {T : List OM} {mx o : Int} (h : TB w B a m T mx) (ho : I64 o) (hn : hasO (obT T) o = false) :
    Calls Try.prog 19 #[.pointer (some ⟨a, 0, none⟩), .int .i64 o] w fun e w' => e = .returned (.tuple #[.agg #[.int .i64 0, .int .i64 0, .int .i64 0, .int .i64 0, .int .i64 0, .int .i64 0, .string ⟨#[]⟩, .slice none 0 0, .slice none 0 0, .slice none 0 0], .bool false]) ∧ Below w.heap.size w w' := by
  have hb1 : Below w.heap.size w (w.alloc (.cells #[.int .i64 0, .int .i64 0, .int .i64 0, .int .i64 0, .int .i64 0, .int .i64 0, .string ⟨#[]⟩, .slice none 0 0, .slice none 0 0, .slice none 0 0] 38)) := (Below.refl _ _).alloc (Nat.le_refl _) _
  have ht := h.tab.below hb1
  have c0 := ht.c0
  have hl := ht.look ho
  have hf : findT T o = none := by
    cases hf : findT T o with
    | none => rfl
    | some x => rw [findT_has hf] at hn; cases hn
  rw [ptrT_none hf] at hl
  have HB1 := Lib.hid hb1
  clear h ht hn hf hb1
  go_enter Try.func19, Try.ntmps19
  go_wp2_with fail
  exact bodyPost_ret (results_row_tmp (P := Try.prog) rfl _ _ w.heap.size _ _ _ _ rfl (heap_alloc_new w _) Try.underlying38 rfl (by kernel_rfl)) rfl ⟨rfl, HB1.out⟩
end Go.Proofs.Ytagajoagdhickaa
namespace Go.Proofs.Ytagajoagdhickaa
open Go.RowKit Go.Lib
set_option linter.unusedVariables false

theorem Stp.below {w w' : World} {B a m : Nat} {T T' : List OM} {mx mx' : Int} (k : Stp w w' B a m T T' mx mx') (h : TB w B a m T mx) (hB : B ≤ w.heap.size) : Below B w w' := k.chg.below hB fun i hi => h.tab.base i hi
theorem oret_int {k : IntKind} {a b : Int} (h : a = b) : Ending.returned (.int k a) = .returned (.int k b) := by rw [h]
theorem otmod (n : Int) (b : Int) (hb : 0 < b) : (Int.tmod n b < 0 → n % b = Int.tmod n b + b) ∧ (¬ Int.tmod n b < 0 → n % b = Int.tmod n b) ∧ -b < Int.tmod n b ∧ Int.tmod n b < b := by
  have h0 : n % b = (Int.tmod n b) % b := by
    conv => lhs; rw [← Int.tmod_add_mul_tdiv n b]
    rw [Int.add_mul_emod_self_left]
  have ht1 : Int.tmod n b < b := Int.tmod_lt_of_pos n (by omega)
  have ht0 : -b < Int.tmod n b := by
    by_cases h : 0 ≤ n
    · have := Int.tmod_nonneg b h; omega
    · have h1 := Int.tmod_lt_of_pos (-n) hb
      rw [Int.neg_tmod] at h1; omega
  refine ⟨fun h => ?_, fun h => ?_, ht0, ht1⟩
  · rw [h0, ← Int.add_emod_right, Int.emod_eq_of_lt (by omega) (by omega)]
  · rw [h0, Int.emod_eq_of_lt (by omega) (by omega)]
theorem onumber_c (n b : Int) (w : World) (hn : I64 n) (h0 : 0 < b) (h1 : b ≤ 1000000) :
    Calls Try.prog 8 #[.int .i64 n, .int .i64 b] w fun e w' => e = .returned (.int .i64 (n % b)) ∧ w = w' := by
  obtain ⟨hn1, hn2⟩ := hn
  obtain ⟨he1, he2, ht0, ht1⟩ := otmod n b h0
  have hbz : (b == 0) = false := by simp; omega
  obtain ⟨r, hr⟩ : ∃ r, r = n % b := ⟨_, rfl⟩
  rw [← hr] at he1 he2 ⊢
  clear hr
  by_cases hneg : Int.tmod n b < 0
  · have hd : decide (Int.tmod n b < 0) = true := decide_eq_true hneg
    have HE := Lib.hid (he1 hneg)
    clear he1 he2
    go_enter Try.func8, Try.ntmps8
    go_wp2_with fail
    go_ret
    exact ⟨oret_int HE.out.symm, rfl⟩
  · have hd : decide (Int.tmod n b < 0) = false := decide_eq_false hneg
    have HE := Lib.hid (he2 hneg)
    clear he1 he2
    go_enter Try.func8, Try.ntmps8
    go_wp2_with fail
    go_ret
    exact ⟨oret_int HE.out.symm, rfl⟩
theorem tb_new {w w' : World} {B a m : Nat} (h : Tab w' B a m [] (-1)) : TB w' B a m [] (-1) := ⟨h, OkT.nil, fun x hx => by cases hx⟩

set_option maxRecDepth 100000 in
set_option maxHeartbeats 4000000 in
theorem ofirst_c (w : World) : Calls Try.prog 6 #[] w fun e w' => e = .returned (.bool true) ∧ Below w.heap.size w w' := by
  go_enter Try.func6, Try.ntmps6
  go_wp2_with fail
  refine (new_c w).mono ?_
  rintro e w1 ⟨rfl, ht1, hb1⟩
  have hb := tb_new (w := w) ht1
  have HT1 := Lib.hid hb
  have HB1 := Lib.hid hb1
  have CC := Lib.hid (create_yes (p := -1) hb ⟨by omega, by omega⟩ (.inl rfl) (by decide) (by omega))
  have hs1 := hb1.size
  clear ht1 hb1 hb
  go_wp2_with fail
  refine CC.out.mono ?_
  rintro e w2 ⟨rfl, hst⟩
  have HST := Lib.hid hst
  have HB2 := Lib.hid (HB1.out.trans (hst.below HT1.out hs1))
  have CG := Lib.hid (get_c hst.tb (o := 0) ⟨by omega, by omega⟩ (x := newM (-1) (-1) (-1) w1.heap.size) rfl)
  clear hst CC
  go_wp2_with fail
  refine CG.out.mono ?_
  rintro e w3 ⟨rfl, hb3⟩
  have HB3 := Lib.hid (HB2.out.trans (hb3.mono HB2.out.size))
  clear hb3 CG
  unfold bareCs newM newO
  go_wp2_with fail
  go_ret
  exact ⟨rfl, HB3.out.alloc HB3.out.size _⟩
/-- A row of numbers that was handed in. -/
def ArgI (W : World) (A : Option Addr) (l : List Int) : Prop := (∀ x ∈ l, I64 x) ∧ (l = [] ∨ ∃ b o, A = some ⟨b, o, none⟩ ∧ b < W.heap.size ∧ ∀ (j : Nat) (x : Int), l[j]? = some x → W.cell? ⟨b, o + j, none⟩ = some (.int .i64 x))
theorem ArgI.at_ {W w : World} {A : Option Addr} {l : List Int} (h : ArgI W A l) (hb : Below W.heap.size W w) {j : Nat} {x : Int} (hj : l[j]? = some x) : I64 x ∧ ∃ b o, A = some ⟨b, o, none⟩ ∧ w.cell? ⟨b, o + j, none⟩ = some (.int .i64 x) := by
  obtain ⟨h1, h2⟩ := h
  refine ⟨h1 x (List.mem_of_getElem? hj), ?_⟩
  rcases h2 with rfl | ⟨b, o, rfl, hlt, hc⟩
  · simp at hj
  · exact ⟨b, o, rfl, (hb.cell (p := ⟨b, o + j, none⟩) hlt).trans (hc j x hj)⟩
end Go.Proofs.Ytagajoagdhickaa
namespace Go.Proofs.Ytagajoagdhickaa
open Go.RowKit Go.Lib
set_option linter.unusedVariables false

/-- What holds in the law's loop. -/
structure NmI (w0 wr : World) (B a m : Nat) (T : List OM) (nx : Int) (i : Nat) : Prop where
  tb : TB wr B a m T (nx - 1)
  lo : 0 ≤ nx
  hi : nx ≤ i
  len : T.length ≤ i
  bel : Below w0.heap.size w0 wr
theorem NmI.step {w0 wr w' : World} {B a m : Nat} {T T' : List OM} {nx mx' : Int} {i : Nat} (h : NmI w0 wr B a m T nx i) (hB : B = w0.heap.size) (hs : Stp wr w' B a m T T' (nx - 1) mx') (hm : mx' = nx - 1 ∨ mx' = nx) (hl : T'.length ≤ T.length + 1) : NmI w0 w' B a m T' (mx' + 1) (i + 1) :=
  ⟨by rw [show mx' + 1 - 1 = mx' from by omega]; exact hs.tb, by have := h.lo; omega, by have := h.hi; omega, by have := h.len; omega, h.bel.trans (by have := hs.below h.tb (by rw [hB]; exact h.bel.size); rw [hB] at this; exact this)⟩

end Go.Proofs.Ytagajoagdhickaa
namespace Go.Proofs.Ytagajoagdhickaa
open Go.RowKit Go.Lib
set_option linter.unusedVariables false

set_option maxHeartbeats 2000000 in
theorem among_c {W : World} {B : Nat} {v : Value} {l : List Int} (h : W.ownsRow B 3 1 v l.length (intsO l)) (x : Int) {r : Bool} (hr : l.contains x = r) :
    Calls Try.prog 31 #[v, .int .i64 x] W fun e w' => e = .returned (.bool r) ∧ W = w' := by
  obtain ⟨A, C, rfl, hnc, hcm, hA, hcell⟩ := own_formO h
  unfold maxLen at hcm
  have HC := Lib.hid hcell
  have HR := Lib.hid hr
  clear hcell hr h
  go_enter Try.func31, Try.ntmps31
  go_wp2_with fail
  go_loopg [5] l.length (fun kk iv wr => ∃ i : Nat, iv = .int .i64 (i : Int) ∧ i + kk = l.length ∧ W = wr ∧ Hid ((l.drop i).contains x = r))
  case atStart => exact ⟨0, rfl, by omega, rfl, HR.out⟩
  case round =>
    obtain ⟨i, rfl, hik, rfl, hq⟩ := hrel
    by_cases hi : i < l.length
    · obtain ⟨j, rfl⟩ : ∃ j, gk = j + 1 := ⟨gk - 1, by omega⟩
      obtain ⟨y, hy⟩ : ∃ y, l[i]? = some y := ⟨l[i], List.getElem?_eq_some_iff.2 ⟨hi, rfl⟩⟩
      obtain ⟨g, rfl, hc⟩ := HC.out i (.int .i64 y) (by simp [intsO, hy])
      have hd : l.drop i = y :: l.drop (i + 1) := by
        obtain ⟨h1, h2⟩ := List.getElem?_eq_some_iff.1 hy
        rw [List.drop_eq_getElem_cons h1, h2]
      have hq' := hq.out
      rw [hd, List.contains_cons] at hq'
      by_cases hyx : y = x
      · subst hyx
        have hr : r = true := by rw [← hq']; simp
        subst hr
        clear hq hq' hd hy
        go_wp2_with fail
        go_ret
        exact ⟨rfl, rfl⟩
      · have hb : (y == x) = false := by simpa using hyx
        have hb2 : (x == y) = false := by simpa using Ne.symm hyx
        rw [hb2, Bool.false_or] at hq'
        have HQ := Lib.hid hq'
        clear hq hq' hd hy
        go_wp2_with fail
        go_roundg j
        case measure => omega
        case rel => exact ⟨i + 1, by go_num, by omega, rfl, HQ.out⟩
    · obtain rfl : i = l.length := by omega
      have hq' := hq.out
      rw [List.drop_length] at hq'
      have hr : r = false := by rw [← hq']; rfl
      subst hr
      clear hq hq'
      go_wp2_with fail
      go_ret
      exact ⟨rfl, rfl⟩
theorem lhas_c {W : World} {B : Nat} {v : Value} {l : List Int} (h : W.ownsRow B 3 1 v l.length (intsO l)) (x : Int) {r : Bool} (hr : l.contains x = r) :
    Calls Try.prog 17 #[v, .int .i64 x] W fun e w' => e = .returned (.bool r) ∧ W = w' := by
  have C := Lib.hid (among_c h x hr)
  clear h hr
  go_enter Try.func17, Try.ntmps17
  go_wp2_with fail
  refine C.out.mono ?_
  rintro e w' ⟨rfl, rfl⟩
  go_wp2_with fail
  go_ret
  exact ⟨rfl, rfl⟩
end Go.Proofs.Ytagajoagdhickaa
namespace Go.Proofs.Ytagajoagdhickaa
open Go.RowKit Go.Lib
set_option linter.unusedVariables false

/-- A row of things told, handed in: each begins with its kind and two numbers. -/
def ArgD (W : World) (A : Option Addr) (n : Nat) : Prop := n = 0 ∨ ∃ b o, A = some ⟨b, o, none⟩ ∧ b < W.heap.size ∧ ∀ i, i < n → ∃ k x y : Int, I64 k ∧ I64 x ∧ I64 y ∧ W.cell? ⟨b, o + i * 13, none⟩ = some (.int .i64 k) ∧ W.cell? ⟨b, o + i * 13 + 1, none⟩ = some (.int .i64 x) ∧ W.cell? ⟨b, o + i * 13 + 2, none⟩ = some (.int .i64 y)
theorem ArgD.at_ {W w : World} {A : Option Addr} {n : Nat} (h : ArgD W A n) (hb : Below W.heap.size W w) {i : Nat} (hi : i < n) : ∃ b o k x y, A = some ⟨b, o, none⟩ ∧ I64 k ∧ I64 x ∧ I64 y ∧ w.cell? ⟨b, o + i * 13, none⟩ = some (.int .i64 k) ∧ w.cell? ⟨b, o + i * 13 + 1, none⟩ = some (.int .i64 x) ∧ w.cell? ⟨b, o + i * 13 + 2, none⟩ = some (.int .i64 y) := by
  rcases h with rfl | ⟨b, o, rfl, hlt, hc⟩
  · omega
  · obtain ⟨k, x, y, h1, h2, h3, c1, c2, c3⟩ := hc i hi
    exact ⟨b, o, k, x, y, rfl, h1, h2, h3, (hb.cell (p := ⟨b, _, none⟩) hlt).trans c1, (hb.cell (p := ⟨b, _, none⟩) hlt).trans c2, (hb.cell (p := ⟨b, _, none⟩) hlt).trans c3⟩

set_option maxRecDepth 100000 in
set_option maxHeartbeats 8000000 in
theorem objsTrees_c (n : Int) (len : Nat) (A : Option Addr) (c : Nat) (w : World) (hn : I64 n) (hl : ArgD w A len) (hc : len ≤ 9223372036854775807) :
    Calls Try.prog 4 #[.int .i64 n, .slice A len c] w fun e w' => e = .returned (.bool true) ∧ Below w.heap.size w w' := by
  have HL := Lib.hid hl
  have h0 := Int.emod_nonneg n (show (12 : Int) ≠ 0 by omega)
  have h1 := Int.emod_lt_of_pos n (show (0 : Int) < 12 by omega)
  have CN := Lib.hid (fun W => onumber_c n 12 W hn (by omega) (by omega))
  obtain ⟨nn, hnn⟩ : ∃ nn : Nat, n % 12 = (nn : Int) := ⟨(n % 12).toNat, by omega⟩
  rw [hnn] at h0 h1 CN
  clear hl hnn
  have hnlt : nn < 12 := by omega
  clear h0 h1
  go_enter Try.func4, Try.ntmps4
  go_wp2_with fail
  refine (ofirst_c w).mono ?_
  rintro e w1 ⟨rfl, hb1⟩
  have HB1 := Lib.hid hb1
  clear hb1
  go_wp2_with fail
  refine (CN.out w1).mono ?_
  rintro e w1' ⟨rfl, rfl⟩
  by_cases hbig : 30 < len
  · go_wp2_with fail
    go_ret
    exact ⟨rfl, HB1.out⟩
  · go_wp2_with fail
    refine (new_c w1).mono ?_
    rintro e w2 ⟨rfl, ht2, hb2⟩
    have HT2 := Lib.hid (tb_new (w := w1) ht2)
    have HB2 := Lib.hid hb2
    clear ht2 hb2
    go_wp2_with fail
    go_loopg [7] (nn + 1) (fun kk iv wr => ∃ (i : Nat) (T : List OM), iv = .int .i64 (i : Int) ∧ i + kk = nn + 1 ∧ TB wr w1.heap.size (w1.heap.size + 1) w1.heap.size T ((i : Int) - 1) ∧ T.length ≤ i ∧ Below w1.heap.size w1 wr)
    case atStart => exact ⟨0, [], rfl, by omega, HT2.out, by simp, HB2.out⟩
    case round =>
      obtain ⟨i, T, rfl, hik, htb, hTl, hbr⟩ := hrel
      by_cases hi : i < nn + 1
      · obtain ⟨j, rfl⟩ : ∃ j, gk = j + 1 := ⟨gk - 1, by omega⟩
        have CC := Lib.hid (create_yes (p := -1) htb ⟨by omega, by omega⟩ (.inl rfl) (by omega) (by omega))
        have HTB := Lib.hid htb
        have HBR := Lib.hid hbr
        have hrz := hbr.size
        clear htb hbr
        go_wp2_with fail
        refine CC.out.mono ?_
        rintro e w4 ⟨rfl, hst⟩
        have HN := Lib.hid hst.tb
        have HB := Lib.hid (HBR.out.trans (hst.below HTB.out hrz))
        clear hst
        go_wp2_with fail
        go_roundg j
        case measure => omega
        case rel => exact ⟨i + 1, _, by go_num, by omega, by have := HN.out; rw [show (i : Int) - 1 + 1 = ((i + 1 : Nat) : Int) - 1 from by omega] at this; exact this, by simp; omega, HB.out⟩
      · obtain rfl : i = nn + 1 := by omega
        have hmx : ((nn + 1 : Nat) : Int) - 1 = (nn : Int) := by omega
        rw [hmx] at htb
        have HTB := Lib.hid htb
        have HBR := Lib.hid hbr
        clear htb hbr hTl hmx hik
        go_wp2_with fail
        go_loopg [8] len (fun kk iv wr => ∃ (i : Nat) (T : List OM), iv = .int .i64 (i : Int) ∧ i + kk = len ∧ TB wr w1.heap.size (w1.heap.size + 1) w1.heap.size T (nn : Int) ∧ Below w1.heap.size w1 wr)
        case atStart => exact ⟨0, T, rfl, by omega, HTB.out, HBR.out⟩
        case round =>
          clear hi
          obtain ⟨i, T, rfl, hik, htb, hbr⟩ := hrel
          have hrz := hbr.size
          by_cases hi : i < len
          · obtain ⟨j, rfl⟩ : ∃ j, gk = j + 1 := ⟨gk - 1, by omega⟩
            obtain ⟨b, o, k, x, y, rfl, hk1, hx1, hy1, d0, d1, d2⟩ := HL.out.at_ (HB1.out.trans (hbr.mono HB1.out.size)) hi
            have CX := Lib.hid (fun W => onumber_c x ((nn : Int) + 1) W hx1 (by omega) (by omega))
            have CY := Lib.hid (fun W => onumber_c y ((nn : Int) + 1 + 1) W hy1 (by omega) (by omega))
            have hx2 := Int.emod_nonneg x (show (nn : Int) + 1 ≠ 0 by omega)
            have hx3 := Int.emod_lt_of_pos x (show 0 < (nn : Int) + 1 by omega)
            have hy2 := Int.emod_nonneg y (show (nn : Int) + 1 + 1 ≠ 0 by omega)
            have hy3 := Int.emod_lt_of_pos y (show 0 < (nn : Int) + 1 + 1 by omega)
            obtain ⟨p, hp⟩ : ∃ p, p = x % ((nn : Int) + 1) := ⟨_, rfl⟩
            obtain ⟨q, hq⟩ : ∃ q, q = y % ((nn : Int) + 1 + 1) := ⟨_, rfl⟩
            rw [← hp] at CX hx2 hx3
            rw [← hq] at CY hy2 hy3
            have hpi : I64 p := ⟨by omega, by omega⟩
            have hqi : I64 (q - 1) := ⟨by omega, by omega⟩
            have HTB := Lib.hid htb
            have HBR := Lib.hid hbr
            clear htb hbr hp hq
            go_wp2_with fail
            refine (CX.out _).mono ?_
            rintro e w3 ⟨rfl, rfl⟩
            go_wp2_with fail
            refine (CY.out _).mono ?_
            rintro e w3 ⟨rfl, rfl⟩
            by_cases hk3 : k = 3
            · subst hk3
              go_wp2_with fail
              refine (chpar_c HTB.out hpi hqi).mono ?_
              rintro e w4 ⟨cc, T', rfl, hst, _⟩
              have HN := Lib.hid hst.tb
              have HB := Lib.hid (HBR.out.trans (hst.below HTB.out hrz))
              clear hst
              go_wp2_with fail
              go_roundg j
              case measure => omega
              case rel => exact ⟨i + 1, T', by go_num, by omega, HN.out, HB.out⟩
            · have hk3' : (k == 3) = false := by simpa using hk3
              by_cases hk4 : k = 4
              · subst hk4
                clear hk3 hk3'
                go_wp2_with fail
                refine (move_c HTB.out hpi hqi).mono ?_
                rintro e w4 ⟨cc, T', rfl, hst, _⟩
                have HN := Lib.hid hst.tb
                have HB := Lib.hid (HBR.out.trans (hst.below HTB.out hrz))
                clear hst
                go_wp2_with fail
                go_roundg j
                case measure => omega
                case rel => exact ⟨i + 1, T', by go_num, by omega, HN.out, HB.out⟩
              · have hk4' : (k == 4) = false := by simpa using hk4
                by_cases hk2 : k = 2
                · subst hk2
                  clear hk3 hk3' hk4 hk4'
                  cases hhp : hasO (obT T) p with
                  | false =>
                    have CR := Lib.hid (recycle_no HTB.out hpi hhp)
                    clear hhp
                    go_wp2_with fail
                    refine CR.out.mono ?_
                    rintro e w4 ⟨rfl, rfl⟩
                    go_wp2_with fail
                    go_roundg j
                    case measure => omega
                    case rel => exact ⟨i + 1, T, by go_num, by omega, HTB.out, HBR.out⟩
                  | true =>
                    obtain ⟨x0, hx0⟩ := hasT hhp
                    have CR := Lib.hid (recycle_yes HTB.out hpi hx0)
                    clear hhp hx0
                    go_wp2_with fail
                    refine CR.out.mono ?_
                    rintro e w4 ⟨rfl, T', hst, _⟩
                    have HN := Lib.hid hst.tb
                    have HB := Lib.hid (HBR.out.trans (hst.below HTB.out hrz))
                    clear hst
                    go_wp2_with fail
                    go_roundg j
                    case measure => omega
                    case rel => exact ⟨i + 1, T', by go_num, by omega, HN.out, HB.out⟩
                · have hk2' : (k == 2) = false := by simpa using hk2
                  clear hk3 hk4 hk2
                  go_wp2_with fail
                  go_roundg j
                  case measure => omega
                  case rel => exact ⟨i + 1, T, by go_num, by omega, HTB.out, HBR.out⟩
          · obtain rfl : i = len := by omega
            obtain ⟨w5, hw5⟩ : ∃ w5, w5 = wr := ⟨_, rfl⟩
            rw [← hw5] at htb hbr ⊢
            have HTB := Lib.hid htb
            have HB5 := Lib.hid hbr
            clear hw5 htb hbr hrz hik
            go_wp2_with fail
            go_loopg [11] (nn + 1) (fun kk iv wr => ∃ (o : Nat), iv = .int .i64 (o : Int) ∧ o + kk = nn + 1 ∧ Below w5.heap.size w5 wr)
            case atStart => exact ⟨0, rfl, by omega, Below.refl _ _⟩
            case round =>
              clear hi
              obtain ⟨o, rfl, hok, hbr⟩ := hrel
              have hrz := hbr.size
              by_cases ho : o < nn + 1
              · obtain ⟨j, rfl⟩ : ∃ j, gk = j + 1 := ⟨gk - 1, by omega⟩
                have hoi : I64 (o : Int) := ⟨by omega, by omega⟩
                have CA := Lib.hid (above_c (HTB.out.keep hbr).tab hoi HTB.out.parI)
                have HBR := Lib.hid hbr
                clear hbr
                go_wp2_with fail
                refine CA.out.mono ?_
                rintro e w6 ⟨v, rfl, hrow, hb6⟩
                obtain ⟨Av, cv, rfl, hnc, hcm, hA, hcell⟩ := own_formO hrow
                unfold maxLen at hcm
                have HB6 := Lib.hid (HBR.out.trans (hb6.mono hrz))
                have CH := Lib.hid (has_c (HTB.out.keep HB6.out).tab hoi)
                have HROW := Lib.hid hrow
                have HCL := Lib.hid hcell
                obtain ⟨hg1, hg2⟩ := above_good HTB.out.ok (o : Int)
                have HG2 := Lib.hid hg2
                have hz6 := hb6.size
                clear hrow hcell hb6 hg2
                cases hho : hasO (obT T) (o : Int) with
                | false =>
                  rw [hho] at CH
                  have hL0 : (aboveO (obT T) (o : Int)).length = 0 := by
                    rcases Nat.eq_zero_or_pos (aboveO (obT T) (o : Int)).length with h | h
                    · exact h
                    · have := hg1.2 h; rw [hho] at this; cases this
                  have CG := Lib.hid (get_no (HTB.out.keep HB6.out) hoi hho)
                  rw [hL0]
                  clear hho hg1 hL0
                  go_wp2_with fail
                  refine CH.out.mono ?_
                  rintro e w7 ⟨rfl, rfl⟩
                  go_wp2_with fail
                  refine wp_loop_rounds 1 ?_
                  rw [rounds_succ]
                  go_wp2_with fail
                  refine CG.out.mono ?_
                  rintro e w7 ⟨rfl, hb7⟩
                  have HB7 := Lib.hid (HB6.out.trans (hb7.mono HB6.out.size))
                  clear hb7
                  go_wp2_with fail
                  go_roundg j
                  case measure => omega
                  case rel => exact ⟨o + 1, by go_num, by omega, HB7.out.alloc HB7.out.size _⟩
                | true =>
                  rw [hho] at CH
                  have hLp := hg1.1 hho
                  have HHO := Lib.hid hho
                  clear hho hg1
                  generalize hL : aboveO (obT T) (o : Int) = L at hLp hnc HG2 HROW HCL ⊢
                  clear hL
                  go_wp2_with fail
                  refine CH.out.mono ?_
                  rintro e w7 ⟨rfl, rfl⟩
                  go_wp2_with fail
                  go_loopg [13] L.length (fun kk iv wr => ∃ (k : Nat), iv = .int .i64 ((k : Int) + 1) ∧ k + 1 + kk = L.length + 1 ∧ Below w6.heap.size w6 wr)
                  case atStart => exact ⟨0, rfl, by omega, Below.refl _ _⟩
                  case round =>
                    obtain ⟨k, rfl, hkk, hbr⟩ := hrel
                    by_cases hk : k + 1 < L.length
                    · obtain ⟨jj, rfl⟩ : ∃ jj, gk = jj + 1 := ⟨gk - 1, by omega⟩
                      obtain ⟨x, hx⟩ : ∃ x, L[k]? = some x := ⟨L[k], List.getElem?_eq_some_iff.2 ⟨by omega, rfl⟩⟩
                      obtain ⟨y, hy⟩ : ∃ y, L[k + 1]? = some y := ⟨L[k + 1], List.getElem?_eq_some_iff.2 ⟨hk, rfl⟩⟩
                      obtain ⟨hyo, hiy, hxk⟩ := HG2.out k x y hx hy
                      obtain ⟨g, rfl, hcx⟩ := HCL.out k (.int .i64 x) (by simp [intsO, hx])
                      obtain ⟨g', eg, hcy⟩ := HCL.out (k + 1) (.int .i64 y) (by simp [intsO, hy])
                      obtain rfl : g = g' := by injection eg with eg; injection eg
                      have hgl := (HROW.out.lt g rfl).2
                      have dx : wr.cell? ⟨g, k, none⟩ = some (.int .i64 x) := (hbr.cell (p := ⟨g, k, none⟩) hgl).trans hcx
                      have dy : wr.cell? ⟨g, k + 1, none⟩ = some (.int .i64 y) := (hbr.cell (p := ⟨g, k + 1, none⟩) hgl).trans hcy
                      have hyo' : (y == (o : Int)) = false := by simpa using hyo
                      have e1 : IntKind.i64.wrap ((k : Int) + 1 - 1) = (k : Int) := by rw [show (k : Int) + 1 - 1 = (k : Int) from by omega]; exact IntWalk.i64_in _ (by omega)
                      have e2 : ((k : Int) + 1).toNat = k + 1 := by omega
                      have KS : ∀ W, Below w6.heap.size w6 W → (W.cell? ⟨g, k, none⟩ = some (.int .i64 x) ∧ W.cell? ⟨g, k + 1, none⟩ = some (.int .i64 y) ∧ Below w6.heap.size w6 W) := fun W h => ⟨(h.cell (p := ⟨g, k, none⟩) hgl).trans hcx, (h.cell (p := ⟨g, k + 1, none⟩) hgl).trans hcy, h⟩
                      have CI := Lib.hid (fun W (h : W.cell? ⟨g, k, none⟩ = some (.int .i64 x) ∧ W.cell? ⟨g, k + 1, none⟩ = some (.int .i64 y) ∧ Below w6.heap.size w6 W) => (show Calls Try.prog 16 #[.pointer (some ⟨w1.heap.size + 1, 0, none⟩), .int .i64 (o : Int), .int .i64 y] W fun e w' => e = .returned (.bool true) ∧ (w'.cell? ⟨g, k, none⟩ = some (.int .i64 x) ∧ w'.cell? ⟨g, k + 1, none⟩ = some (.int .i64 y) ∧ Below w6.heap.size w6 w') from by
                        have := is_c (p := y) (HTB.out.keep (HB6.out.trans (h.2.2.mono HB6.out.size))).tab hoi HTB.out.parI
                        rw [hiy] at this
                        exact this.mono fun e w' ⟨h1, h2⟩ => ⟨h1, KS _ (h.2.2.trans (h2.mono h.2.2.size))⟩))
                      have hyi : I64 y := by
                        obtain ⟨z, hz, _, hzp⟩ := mem_kids hxk
                        obtain ⟨u, hu, rfl⟩ := mem_obT hz
                        rw [← hzp]
                        exact HTB.out.parI u hu
                      have CK := Lib.hid (fun W (h : W.cell? ⟨g, k, none⟩ = some (.int .i64 x) ∧ W.cell? ⟨g, k + 1, none⟩ = some (.int .i64 y) ∧ Below w6.heap.size w6 W) => (show Calls Try.prog 18 #[.pointer (some ⟨w1.heap.size + 1, 0, none⟩), .int .i64 y] W fun e w' => ∃ v, e = .returned v ∧ w'.ownsRow W.heap.size 3 1 v (kidsO (obT T) y).length (intsO (kidsO (obT T) y)) ∧ (w'.cell? ⟨g, k, none⟩ = some (.int .i64 x) ∧ w'.cell? ⟨g, k + 1, none⟩ = some (.int .i64 y) ∧ Below w6.heap.size w6 w') from by
                        have := kids_c (HTB.out.keep (HB6.out.trans (h.2.2.mono HB6.out.size))).tab hyi
                        exact this.mono fun e w' ⟨v, h1, h0, h2⟩ => ⟨v, h1, h0, KS _ (h.2.2.trans (h2.mono h.2.2.size))⟩))
                      have hxk' : (kidsO (obT T) y).contains x = true := by rw [List.contains_iff_mem]; exact hxk
                      have HXK := Lib.hid hxk'
                      have e3 : (k : Int) < (L.length : Int) := by omega
                      have e7 : (0 : Int) ≤ (k : Int) + 1 := by omega
                      have e8 : (k : Int) + 1 < (L.length : Int) := by omega
                      have e6 : IntKind.i64.wrap (k : Int) = (k : Int) := IntWalk.i64_in _ (by omega)
                      have e4 : (0 : Int) ≤ (k : Int) := by omega
                      have e5 : k < L.length := by omega
                      have K0 := KS _ hbr
                      have K1 := KS _ hbr.drew
                      clear hcx hcy hx hy hyo hiy hxk hxk' eg
                      go_wp2_with fail
                      go_region_held3 (fun W => W.cell? ⟨g, k, none⟩ = some (.int .i64 x) ∧ W.cell? ⟨g, k + 1, none⟩ = some (.int .i64 y) ∧ Below w6.heap.size w6 W)
                        (first | (with_reducible assumption) | (with_reducible exact K1))
                        (first
                          | (go_at_call 16; refine (CI.out _ ?_).mono ?_; (with_reducible assumption); rintro e w8 ⟨rfl, hs8⟩)
                          | (go_at_call 18; refine (CK.out _ ?_).mono ?_; (with_reducible assumption); rintro e w9 ⟨v9, rfl, hr9, hs9⟩)
                          | (go_at_call 17; refine (lhas_c hr9 x HXK.out).mono ?_; rintro e w10 ⟨rfl, rfl⟩))
                      have HB9 := Lib.hid hs9.2.2
                      clear hs8 hs9 K0 K1 hr9
                      go_wp2_with fail
                      go_roundg jj
                      case measure => omega
                      case rel => exact ⟨k + 1, by go_num, by omega, HB9.out⟩
                    · have CG : True := trivial
                      obtain ⟨x, hx⟩ := hasT HHO.out
                      have CG := Lib.hid (get_c (HTB.out.keep (HB6.out.trans (hbr.mono HB6.out.size))) hoi hx)
                      obtain ⟨hp1, hp2⟩ := place_good HTB.out.ok (getO_some' hx)
                      have hpi : I64 x.o.place := HTB.out.plcI x (findT_some hx).1
                      have HBR2 := Lib.hid (HB6.out.trans (hbr.mono HB6.out.size))
                      have HP1 := Lib.hid hp1
                      clear hx hbr hp1
                      unfold bareCs at CG
                      go_wp2_with fail
                      refine CG.out.mono ?_
                      rintro e w8 ⟨rfl, hb8⟩
                      have HB8 := Lib.hid (HBR2.out.trans (hb8.mono HBR2.out.size))
                      clear hb8
                      have hpo : (x.o.place == (o : Int)) = false := by simpa using hp2
                      by_cases hpl : 0 ≤ x.o.place
                      · obtain ⟨w9, hw9⟩ : ∃ w9, w9 = w8.alloc (.cells #[.int .i64 x.o.id, .int .i64 x.o.parent, .int .i64 x.o.owner, .int .i64 x.o.place, .int .i64 x.o.flags, .int .i64 x.o.quota, .string x.o.name, .slice none 0 0, .slice none 0 0, .slice none 0 0] 38) := ⟨_, rfl⟩
                        have d3 : w9.cell? ⟨w8.heap.size, 3, none⟩ = some (.int .i64 x.o.place) := by rw [hw9]; exact cell_of_row _ _ 3 _ _ _ (heap_alloc_new _ _)
                        have hb9 : Below w5.heap.size w5 w9 := by rw [hw9]; exact HB8.out.alloc HB8.out.size _
                        have hz9 : w9.heap.size = w8.heap.size + 1 := by rw [hw9]; simp
                        have HB9 := Lib.hid hb9
                        have CC := Lib.hid (cont_c (HTB.out.keep hb9).tab hpi)
                        have HCO : Hid ((contO (obT T) x.o.place).contains (o : Int) = true) := by
                          have := HP1.out hpl
                          show _ = _
                          rw [List.contains_iff_mem]
                          exact this
                        have HW9 := Lib.hid hw9
                        clear hw9 hb9
                        go_wp2_with fail
                        rw [← HW9.out]
                        go_wp2_with fail
                        refine CC.out.mono ?_
                        rintro e w10 ⟨v10, rfl, hr10, hb10⟩
                        have CL := Lib.hid (lhas_c hr10 (o : Int) HCO.out)
                        have d3' : w10.cell? ⟨w8.heap.size, 3, none⟩ = some (.int .i64 x.o.place) := (hb10.cell (p := ⟨w8.heap.size, 3, none⟩) (by show w8.heap.size < _; omega)).trans d3
                        have HB10 := Lib.hid (HB9.out.trans (hb10.mono HB9.out.size))
                        clear hr10 hb10 d3
                        go_wp2_with fail
                        refine CL.out.mono ?_
                        rintro e w11 ⟨rfl, rfl⟩
                        go_wp2_with fail
                        go_roundg j
                        case measure => omega
                        case rel => exact ⟨o + 1, by go_num, by omega, HB10.out⟩
                      · go_wp2_with fail
                        go_roundg j
                        case measure => omega
                        case rel => exact ⟨o + 1, by go_num, by omega, HB8.out.alloc HB8.out.size _⟩
              · go_wp2_with fail
                go_ret
                exact ⟨rfl, (HB1.out.trans (HB5.out.mono HB1.out.size)).trans (hbr.mono (by have h1 := HB5.out.size; have h2 := HB1.out.size; omega))⟩
end Go.Proofs.Ytagajoagdhickaa
namespace Go.Proofs.Ytagajoagdhickaa
open Go.ChangeShapes Go.WideShapes Go.ChangeAt Go.RowKit Go.Lib
set_option linter.unusedVariables false

theorem o_knob : ownKnob Try.prog.godebug = none := by kernel_rfl
theorem olaid_out : laidOutB Try.prog = true := by kernel_rfl
theorem o_range {a : Int} (h : (Lit.int .i64 a).wf = true) : -9223372036854775808 ≤ a ∧ a ≤ 9223372036854775807 := by
  have e1 : IntKind.i64.min = -9223372036854775808 := by decide
  have e2 : IntKind.i64.max = 9223372036854775807 := by decide
  have h' : (decide (IntKind.i64.min ≤ a) && decide (a ≤ IntKind.i64.max)) = true := h
  rw [e1, e2, Bool.and_eq_true, decide_eq_true_eq, decide_eq_true_eq] at h'
  exact h'
theorem o_i64 {a : Int} (h : (Lit.int .i64 a).wf = true) : I64 a := o_range h
set_option maxRecDepth 100000 in
theorem ocells_slice {W : World} {r : Reach} {b0 : Nat} {t e : TypeId} {v : Value} (ht : Try.prog.underlying t = some (.slice e)) (h : Value.okWide Try.prog W r b0 t v) : v.cells.toList = [v] := by
  obtain ⟨a, len, cap, rfl⟩ := okWide_slice ht h
  rfl
theorem ocells_int : Try.prog.cellsOf 3 = 1 := by kernel_rfl
section
variable {H : Type} {enc : TypeId × Value → H} {W : World} {sp : Nat → Bool} {held : Bool}
end
end Go.Proofs.Ytagajoagdhickaa
namespace Go.Proofs.Ytagajoagdhickaa
open Go.ChangeShapes Go.WideShapes Go.ChangeAt Go.RowKit Go.Lib
set_option linter.unusedVariables false

theorem ocells_do : Try.prog.cellsOf 40 = 13 := by kernel_rfl
theorem add_plainO (b o j : Nat) : (⟨b, o, none⟩ : Addr).add j = ⟨b, o + j, none⟩ := by unfold Addr.add; split <;> simp_all
theorem list13 {l : List Value} (h : l.length = 13) : ∃ a b c r, l = a :: b :: c :: r := by
  match l, h with
  | a :: b :: c :: r, _ => exact ⟨a, b, c, r, rfl⟩
theorem list4O {α : Type} {l : List α} (h : l.length = 4) : ∃ a b c d, l = [a, b, c, d] := by
  match l, h with
  | [a, b, c, d], _ => exact ⟨a, b, c, d, rfl⟩
section
variable {H : Type} {enc : TypeId × Value → H} {W : World} {sp : Nat → Bool} {held : Bool}
theorem trod_do {n : Nat} {cs : List Value} {x : DataW H × List MemPlace} (h : DataW.trod enc Try.prog W 0 sp held n 40 cs = some x) : ∃ (k i j : Int) (r : List Value), cs = .int .i64 k :: .int .i64 i :: .int .i64 j :: r ∧ I64 k ∧ I64 i ∧ I64 j := by
  obtain ⟨xs, m, rfl, rfl, hl, hlen, hf⟩ := DataW.trod_struct Try.underlying40 h
  rw [ocells_do] at hl
  obtain ⟨c0, c1, c2, r, rfl⟩ := list13 hl
  obtain ⟨y0, y1, y2, y3, rfl⟩ := list4O hlen
  have h0 : DataW.trod enc Try.prog W 0 sp held m 3 [c0] = some y0 := by simpa [ocells_int] using hf 0 _ rfl
  have h1 : DataW.trod enc Try.prog W 0 sp held m 3 [c1] = some y1 := by simpa [ocells_int] using hf 1 _ rfl
  have h2 : DataW.trod enc Try.prog W 0 sp held m 3 [c2] = some y2 := by simpa [ocells_int] using hf 2 _ rfl
  obtain ⟨k, e0, rfl, w0⟩ := DataW.trod_int Try.underlying3 h0
  obtain ⟨i, e1, rfl, w1⟩ := DataW.trod_int Try.underlying3 h1
  obtain ⟨j, e2, rfl, w2⟩ := DataW.trod_int Try.underlying3 h2
  injection e0 with e0 _
  injection e1 with e1 _
  injection e2 with e2 _
  subst e0; subst e1; subst e2
  exact ⟨k, i, j, r, rfl, o_i64 w0, o_i64 w1, o_i64 w2⟩
theorem open_dosO {v : Value} {d : DataW H} {p : List MemPlace} (hv : v.cells.toList = [v]) (h : DataW.Trod enc Try.prog W 0 sp held 33 v d p) :
    ∃ (l : Nat) (A : Option Addr) (c : Nat), v = .slice A l c ∧ l ≤ 9223372036854775807 ∧ ArgD W A l := by
  have hmax : maxLen ≤ 9223372036854775807 := by decide
  obtain ⟨fuel, hf⟩ := h
  rw [hv] at hf
  rcases DataW.trod_slice Try.underlying33 hf with ⟨hcs, _⟩ | ⟨a, len, cap, elems, rest, n, _, hcs, _, _, hlc, hcm, hlen, hel, _, _⟩
  · injection hcs with hcs _
    exact ⟨0, none, 0, hcs, by decide, .inl rfl⟩
  · injection hcs with hcs _
    refine ⟨len, some a, cap, hcs, by omega, ?_⟩
    by_cases h0 : len = 0
    · exact .inl h0
    have key : ∀ i, i < len → ∃ cs, W.cells? 0 (a.add (i * 13)) 13 = some cs ∧ ∃ (k x y : Int) (r : List Value), cs = .int .i64 k :: .int .i64 x :: .int .i64 y :: r ∧ I64 k ∧ I64 x ∧ I64 y := by
      intro i hi
      have e0 := hel i hi
      rw [ocells_do] at e0
      obtain ⟨y, hy⟩ : ∃ y, elems[i]? = some y := ⟨elems[i]'(by omega), List.getElem?_eq_getElem (by omega)⟩
      rw [hy, Option.bind_eq_some_iff] at e0
      obtain ⟨cs, hcs, ht⟩ := e0
      exact ⟨cs, hcs, trod_do ht⟩
    obtain ⟨b, o, spot⟩ := a
    obtain ⟨cs0, hcs0, _⟩ := key 0 (by omega)
    obtain ⟨_, hl0, hcell0⟩ := World.cells?_some hcs0
    have hc0 := hcell0 0 (by omega)
    have hne : ∃ u, W.cell? (((⟨b, o, spot⟩ : Addr).add (0 * 13)).add 0) = some u := by
      rw [hc0]
      obtain ⟨cs, hcs, k, x, y, r, e, _⟩ := key 0 (by omega)
      rw [hcs0] at hcs
      injection hcs with hcs
      rw [hcs, e]
      exact ⟨_, rfl⟩
    obtain ⟨u, hu⟩ := hne
    have hspot : spot = none := by simpa [Addr.add] using World.cell?_spot hu
    subst hspot
    have hb : b < W.heap.size := by
      rw [add_plainO, add_plainO] at hu
      unfold World.cell? at hu
      rcases Nat.lt_or_ge b W.heap.size with hlt | hge
      · exact hlt
      · simp only [Array.getElem?_eq_none hge] at hu; cases hu
    refine .inr ⟨b, o, rfl, hb, fun i hi => ?_⟩
    obtain ⟨cs, hcs, k, x, y, r, e, hk, hx, hy⟩ := key i hi
    obtain ⟨_, _, hcell⟩ := World.cells?_some hcs
    refine ⟨k, x, y, hk, hx, hy, ?_, ?_, ?_⟩
    · have := hcell 0 (by omega)
      rw [add_plainO, add_plainO, e] at this
      exact this
    · have := hcell 1 (by omega)
      rw [add_plainO, add_plainO, e] at this
      exact this
    · have := hcell 2 (by omega)
      rw [add_plainO, add_plainO, e] at this
      exact this
end
end Go.Proofs.Ytagajoagdhickaa
