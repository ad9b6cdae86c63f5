/- Contracts of the functions that the statement reaches, and the plain mathematics beneath: several texts joined. -/
import Derived.StillTailTactics
import Derived.Test.YtagajoagdhickaaObtAB
import Derived.Test.YtagajoagdhickaaObtAA
namespace Go.Proofs.Ytagajoagdhickaa
open Go.RowKit Go.Lib
set_option linter.unusedVariables false

theorem updT_id (T : List OM) (o : Int) : updT T o (fun x => x) = T := by
  unfold updT
  conv => rhs; rw [← List.map_id T]
  apply List.map_congr_left
  intro y _
  split <;> rfl
theorem Tab.same8 {w : World} {B a m : Nat} {T : List OM} {mx o : Int} (h : Tab w B a m T mx) {x : OM} (hx : findT T o = some x) (hs : x.sv = .slice none 0 0) : Tab (w.setCell ⟨x.g, 8, none⟩ (.slice none 0 0)) B a m T mx := by
  have := h.store hx 8 (.slice none 0 0) (fun y => y) (fun _ => rfl) rfl rfl (by unfold OM.cells; simp [hs])
  rw [updT_id] at this
  exact this
theorem Tab.drew {w : World} {B a m : Nat} {T : List OM} {mx : Int} (h : Tab w B a m T mx) : Tab w.drew B a m T mx := h.keep fun _ _ => rfl
theorem BareM.upd {T : List OM} (h : BareM T) (o : Int) (f : OB → OB) : BareM (updT T o f) := by
  intro y hy
  obtain ⟨z, hz, ⟨_, rfl⟩ | ⟨_, rfl⟩⟩ := mem_updT hy
  · exact h z hz
  · exact h y hz
theorem ParI.setP {T : List OM} (h : ParI T) (o p : Int) (hp : I64 p) : ParI (updT T o (setP p)) := by
  intro y hy
  obtain ⟨z, hz, ⟨_, rfl⟩ | ⟨_, rfl⟩⟩ := mem_updT hy
  · exact hp
  · exact h y hz
def anyR : Value → Option (DataW Unit × List MemPlace) := fun _ => some (.lit (.bool true), [])
theorem blk_in {T : List OM} {x : OM} (hx : x ∈ T) : x.g ∈ blkT T := List.mem_flatMap.2 ⟨x, hx, OM.mem_blocks.2 (.inl rfl)⟩

set_option maxRecDepth 100000 in
set_option maxHeartbeats 4000000 in
theorem under_c0 {w : World} {B a m : Nat} {T : List OM} {mx o p : Int} (h : Tab w B a m T mx) (ho : I64 o) (hp : I64 p) (hpi : ParI T) (hbm : BareM T) {x0 : OM} (hx0 : findT T o = some x0) {r : List Int} (hr : belowO (obT T) o = some r) (hri : ∀ x ∈ r, hasO (obT T) x = true) (hrl : r.length ≤ 512) :
    Calls Try.prog 23 #[.pointer (some ⟨a, 0, none⟩), .int .i64 o, .int .i64 p] w fun e w' => e = .returned (.tuple #[]) ∧ Tab w' B a m (updT T o (setP p)) mx ∧ Chg (fun b => b ∈ blkT T) w w' := by
  have HRI : Hid (∀ x ∈ r, ∃ y, findT T x = some y ∧ I64 x) := Lib.hid (fun x hx => by
    obtain ⟨z, hz⟩ := hasO_get (hri x hx)
    rw [getO_obT] at hz
    cases hf : findT T x with
    | none => rw [hf] at hz; cases hz
    | some y =>
      have h1 := h.rng y (findT_some hf).1
      have h2 := (findT_some hf).2
      have h3 := h.mxr
      exact ⟨y, rfl, by omega, by omega⟩)
  have CB := Lib.hid (below_c h ho hr (fun x hx => by obtain ⟨y, _, h2⟩ := HRI.out x hx; exact h2) (by omega))
  have H := Lib.hid h
  have HBM := Lib.hid hbm
  have HPI := Lib.hid hpi
  have HX0 := Lib.hid hx0
  have hmm := @run_makeMap Try.prog
  obtain ⟨T1, hTT⟩ : ∃ T1, T1 = updT T o (setP p) := ⟨_, rfl⟩
  rw [← hTT]
  have HTT := Lib.hid hTT
  clear h hpi hbm hx0 hr hri hTT
  go_enter Try.func23, Try.ntmps23
  go_wp2_with fail
  refine CB.out.mono ?_
  rintro e w1 ⟨v, rfl, hrow, hb1⟩
  obtain ⟨A, c, rfl, hnc, hcm, hA, hcell⟩ := own_formO hrow
  unfold maxLen at hcm
  have HB1 := Lib.hid hb1
  have HCL := Lib.hid hcell
  have HR := Lib.hid hrow
  have hs1 := hb1.size
  clear hb1 hrow hcell CB
  obtain ⟨w2, hw2⟩ : ∃ w2, w2 = w1.alloc (.map #[] 0) := ⟨_, rfl⟩
  have hm0 : w2.ownsMap Try.prog 3 anyR w1.heap.size 0 (.map []) := by rw [hw2]; exact World.ownsMap_made w1 _ _ _
  have hb2 : Below w1.heap.size w1 w2 := by rw [hw2]; exact (Below.refl _ _).alloc (Nat.le_refl _) _
  have HM0 := Lib.hid hm0
  have HB2 := Lib.hid hb2
  have HW2 := Lib.hid hw2
  clear hm0 hb2 hw2
  go_wp2_with fail
  rw [← HW2.out]
  go_loopg [27] r.length (fun kk iv wr => ∃ (k : Nat) (D : DataW Unit), iv = .int .i64 (k : Int) ∧ k + kk = r.length ∧ wr.ownsMap Try.prog 3 anyR w1.heap.size k D ∧ Below w1.heap.size w1 wr)
  case atStart => exact ⟨0, _, rfl, by omega, HM0.out, HB2.out⟩
  case round =>
    obtain ⟨k, D, rfl, hik, hmp, hbr⟩ := hrel
    have hrz := hbr.size
    by_cases hk : k < r.length
    · obtain ⟨j, rfl⟩ : ∃ j, gk = j + 1 := ⟨gk - 1, by omega⟩
      obtain ⟨x, hx⟩ : ∃ x, r[k]? = some x := ⟨r[k], List.getElem?_eq_some_iff.2 ⟨hk, rfl⟩⟩
      obtain ⟨g1, rfl, hc1⟩ := HCL.out k (.int .i64 x) (by simp [intsO, hx])
      have hg1 := HR.out.lt g1 rfl
      obtain ⟨y, hfy, hxi⟩ := HRI.out x (List.mem_of_getElem? hx)
      have hcr : wr.cell? ⟨g1, k, none⟩ = some (.int .i64 x) := (hbr.cell (p := ⟨g1, k, none⟩) hg1.2).trans hc1
      have HMP := Lib.hid hmp
      have HBR := Lib.hid hbr
      have HFY := Lib.hid hfy
      clear hmp hbr hx hc1 hfy
      go_wp2_with (at_mapUpdate; refine wpList_mapUpdate_own _ rfl _ _ _ 73 rfl 3 74 tkeyed Try.underlying73 anyR w1.heap.size k D rfl (HMP.out.alloc _) (by unfold maxLen; omega) _ _ (.int .i64 x) rfl rfl (tkey_of hxi) (.lit (.bool true)) [] rfl ?_
                   intro w5 hown5 hgrow5
                   have hb5 := Below.grown (HBR.out.alloc (by omega) (.map #[] 0)) hgrow5 (by simp; omega) (fun k hk => by injection hk with hk; omega)
                   have HB5 := Lib.hid hb5
                   have HO5 := Lib.hid hown5
                   have ht := H.out.below (HB1.out.trans (hb5.mono hs1))
                   have c0 := ht.c0
                   have hl := ht.look hxi
                   rw [ptrT_some HFY.out] at hl
                   have h8 : w5.cell? ⟨y.g, 8, none⟩ = some (.slice none 0 0) := by rw [← (HBM.out y (findT_some HFY.out).1).2]; exact cellX H.out (HB1.out.trans (hb5.mono hs1)) (findT_some HFY.out).1 8
                   clear hb5 hown5 ht hgrow5)
      refine wp_loop_rounds 1 ?_
      rw [rounds_succ]
      go_wp2_with fail
      go_roundg j
      case measure => omega
      case rel => exact ⟨k + 1, _, by go_num, by omega, HO5.out, HB5.out⟩
    · obtain rfl : k = r.length := by omega
      have HBR := Lib.hid hbr
      have hbw : Below w.heap.size w wr := HB1.out.trans (hbr.mono hs1)
      have ht := H.out.below hbw
      have c0 := ht.c0
      have hl := ht.look ho
      rw [ptrT_some HX0.out] at hl
      have hgx : x0.g ∈ blkT T := blk_in (findT_some HX0.out).1
      have hf1 : wr.frozen? ⟨x0.g, 1, none⟩ = false := (ht.objs x0 (findT_some HX0.out).1).free 1
      have h1 : wr.cell? ⟨x0.g, 1, none⟩ = some (.int .i64 x0.o.parent) := cellX H.out hbw (findT_some HX0.out).1 1
      have hT1 := ht.store HX0.out 1 (.int .i64 p) (setP p) (fun _ => rfl) rfl rfl rfl
      obtain ⟨w3, hw3⟩ : ∃ w3, w3 = wr.setCell ⟨x0.g, 1, none⟩ (.int .i64 p) := ⟨_, rfl⟩
      have hC1 : Chg (fun b => b ∈ blkT T) w1 w3 := by rw [hw3]; exact (Chg.of_below hbr).trans (Chg.set wr hgx _)
      rw [← hw3] at hT1
      have hb1 : blkT (updT T o (setP p)) = blkT T := blkT_upd T o _
      have hF1 : ∀ x ∈ r, ∃ y, findT (updT T o (setP p)) x = some y ∧ I64 x := fun x hx => by
        obtain ⟨y, hy, hi⟩ := HRI.out x hx
        exact ⟨_, by rw [findT_upd T o (setP p) (fun _ => rfl), hy]; rfl, hi⟩
      have HT1 := Lib.hid hT1
      have HC1 := Lib.hid hC1
      have HF1 := Lib.hid hF1
      have HBK := Lib.hid hb1
      have HBM1 := Lib.hid (HBM.out.upd o (setP p))
      have HPI1 := Lib.hid (HPI.out.setP o p hp)
      have HW3 := Lib.hid hw3
      rw [← HTT.out] at HT1 HF1 HBK HBM1 HPI1
      have hs3 := hC1.size
      have HNB := Lib.hid (show ∀ g, g ∈ blkT T → g < w.heap.size from fun g hg => H.out.lt g (List.mem_cons_of_mem _ (List.mem_cons_of_mem _ hg)))
      have HB1' := Lib.hid HB1.out
      clear hbr hmp ht hbw hT1 hC1 hgx hF1 hb1 hw3 HX0 HPI HBM HRI
      go_wp2_with fail
      rw [← HW3.out]
      go_loopg [71] r.length (fun kk iv wr => ∃ (k : Nat), iv = .int .i64 (k : Int) ∧ k + kk = r.length ∧ Tab wr B a m T1 mx ∧ Chg (fun b => b ∈ blkT T) w1 wr)
      case atStart => exact ⟨0, rfl, by omega, HT1.out, HC1.out⟩
      case round =>
        clear c0 hl hf1 h1 hk hik hrz
        obtain ⟨k, rfl, hik, htb, hch⟩ := hrel
        have hrz := hch.size
        by_cases hk : k < r.length
        · obtain ⟨j, rfl⟩ : ∃ j, gk = j + 1 := ⟨gk - 1, by omega⟩
          obtain ⟨x, hx⟩ : ∃ x, r[k]? = some x := ⟨r[k], List.getElem?_eq_some_iff.2 ⟨hk, rfl⟩⟩
          obtain ⟨g1, rfl, hc1⟩ := HCL.out k (.int .i64 x) (by simp [intsO, hx])
          have hg1 := HR.out.lt g1 rfl
          obtain ⟨y, hfy, hxi⟩ := HF1.out x (List.mem_of_getElem? hx)
          have hym := (findT_some hfy).1
          have hcr : wr.cell? ⟨g1, k, none⟩ = some (.int .i64 x) := (World.cell?_of_block (a := ⟨g1, k, none⟩) (hch.block g1 hg1.2 (fun e => by have := HNB.out g1 e; omega))).trans hc1
          have c0 := htb.c0
          have hl := htb.look hxi
          rw [ptrT_some hfy] at hl
          have h8 : wr.cell? ⟨y.g, 8, none⟩ = some (.slice none 0 0) := by rw [← (HBM1.out y hym).2]; exact (htb.objs y hym).cell 8
          have h1 : wr.cell? ⟨y.g, 1, none⟩ = some (.int .i64 y.o.parent) := (htb.objs y hym).cell 1
          have hyi := HPI1.out y hym
          have hl2 := htb.look hyi
          have HTB := Lib.hid htb
          have HCH := Lib.hid hch
          have HFY := Lib.hid hfy
          clear htb hch hx hc1 hfy
          go_wp2_with fail
          refine wp_loop_rounds 1 ?_
          rw [rounds_succ]
          go_wp2_with fail
          have K1 : (wr.drew.cell? ⟨a, 0, none⟩ = some (.map (some m)) ∧ wr.drew.cell? ⟨y.g, 1, none⟩ = some (.int .i64 y.o.parent) ∧ (Instr.lookup 51 (.map (some m)) (.int .i64 y.o.parent) false).run Try.prog wr.drew = .ok (ptrT T1 y.o.parent) wr.drew) := ⟨c0, h1, HTB.out.drew.look hyi⟩
          go_region_held3 (fun W => W.cell? ⟨a, 0, none⟩ = some (.map (some m)) ∧ W.cell? ⟨y.g, 1, none⟩ = some (.int .i64 y.o.parent) ∧ (Instr.lookup 51 (.map (some m)) (.int .i64 y.o.parent) false).run Try.prog W = .ok (ptrT T1 y.o.parent) W)
            (first | (with_reducible exact K1) | exact ⟨c0, h1, hl2⟩)
            (fail)
          have HTD := Lib.hid HTB.out.drew
          have f8 : wr.drew.frozen? ⟨y.g, 8, none⟩ = false := (HTD.out.objs y hym).free 8
          have h8d : wr.drew.cell? ⟨y.g, 8, none⟩ = some (.slice none 0 0) := h8
          have HFIN := Lib.hid (show Tab (wr.drew.setCell ⟨y.g, 8, none⟩ (.slice none 0 0)) B a m T1 mx from HTD.out.same8 HFY.out (HBM1.out y hym).2)
          have HCF := Lib.hid (show Chg (fun b => b ∈ blkT T) w1 (wr.drew.setCell ⟨y.g, 8, none⟩ (.slice none 0 0)) from HCH.out.drew.trans (Chg.set _ (by show y.g ∈ blkT T; rw [← HBK.out]; exact blk_in hym) _))
          clear K1 hl hl2
          rcases ptr_cases T1 y.o.parent with ⟨hf, hpe⟩ | ⟨z, hf, hpe⟩
          · rw [hpe]
            clear hf hpe
            go_wp2_with fail
            refine (sortSlots_none 0 _).mono ?_
            rintro e w9 ⟨rfl, rfl⟩
            go_wp2_with fail
            go_roundg j
            case measure => omega
            case rel => exact ⟨k + 1, by go_num, by omega, HFIN.out, HCF.out⟩
          · rw [hpe]
            have hzm := (findT_some hf).1
            have hz8 : wr.drew.cell? ⟨z.g, 8, none⟩ = some (.slice none 0 0) := by rw [← (HBM1.out z hzm).2]; exact (HTD.out.objs z hzm).cell 8
            clear hf hpe
            go_wp2_with fail
            refine wp_loop_rounds 1 ?_
            rw [rounds_succ]
            go_wp2_with fail
            refine (sortSlots_none 0 _).mono ?_
            rintro e w9 ⟨rfl, rfl⟩
            go_wp2_with fail
            go_roundg j
            case measure => omega
            case rel => exact ⟨k + 1, by go_num, by omega, HFIN.out, HCF.out⟩
        · obtain rfl : k = r.length := by omega
          have HTB := Lib.hid htb
          have HCH := Lib.hid hch
          clear htb hch
          go_wp2_with fail
          go_end0
          exact ⟨rfl, HTB.out, (Chg.of_below HB1.out).trans HCH.out⟩
end Go.Proofs.Ytagajoagdhickaa
namespace Go.Proofs.Ytagajoagdhickaa
open Go.RowKit Go.Lib
set_option linter.unusedVariables false

/-- A table without properties in memory. -/
structure TB (w : World) (B a m : Nat) (T : List OM) (mx : Int) : Prop where
  tab : Tab w B a m T mx
  ok : OkT (obT T) mx
  bare : BareM T
/-- What a change leaves: a table again; all but its own blocks is as it was. -/
structure Stp (w w' : World) (B a m : Nat) (T T' : List OM) (mx mx' : Int) : Prop where
  tb : TB w' B a m T' mx'
  chg : Chg (fun b => b ∈ a :: m :: blkT T) w w'
  new : ∀ b ∈ blkT T', b ∈ blkT T ∨ w.heap.size ≤ b
theorem TB.keep {w w' : World} {B a m : Nat} {T : List OM} {mx : Int} (h : TB w B a m T mx) (hb : Below w.heap.size w w') : TB w' B a m T mx := ⟨h.tab.below hb, h.ok, h.bare⟩
theorem Stp.refl {w : World} {B a m : Nat} {T : List OM} {mx : Int} (h : TB w B a m T mx) : Stp w w B a m T T mx mx := ⟨h, .refl _ _, fun b hb => .inl hb⟩
theorem Stp.of_below {w w' : World} {B a m : Nat} {T : List OM} {mx : Int} (h : TB w B a m T mx) (hb : Below w.heap.size w w') : Stp w w' B a m T T mx mx := ⟨h.keep hb, .of_below hb, fun b hb => .inl hb⟩
theorem Stp.trans {w w1 w2 : World} {B a m : Nat} {T T1 T2 : List OM} {mx mx1 mx2 : Int} (h : Stp w w1 B a m T T1 mx mx1) (k : Stp w1 w2 B a m T1 T2 mx1 mx2) : Stp w w2 B a m T T2 mx mx2 := by
  refine ⟨k.tb, h.chg.trans' k.chg ?_, ?_⟩
  · intro i hi hm
    rcases List.mem_cons.1 hm with rfl | hm
    · exact List.mem_cons_self ..
    rcases List.mem_cons.1 hm with rfl | hm
    · exact List.mem_cons_of_mem _ (List.mem_cons_self ..)
    rcases h.new i hm with h1 | h1
    · exact List.mem_cons_of_mem _ (List.mem_cons_of_mem _ h1)
    · omega
  · intro b hb
    rcases k.new b hb with h1 | h1
    · exact h.new b h1
    · exact .inr (Nat.le_trans h.chg.size h1)
theorem Stp.behind {w w1 w2 : World} {B a m : Nat} {T T1 : List OM} {mx mx1 : Int} (h : Stp w w1 B a m T T1 mx mx1) (hb : Below w1.heap.size w1 w2) : Stp w w2 B a m T T1 mx mx1 := h.trans (.of_below h.tb hb)

theorem mem_obT {T : List OM} {y : OB} (h : y ∈ obT T) : ∃ x ∈ T, x.o = y := by
  unfold obT at h
  exact List.mem_map.1 h
theorem TB.parI {w : World} {B a m : Nat} {T : List OM} {mx : Int} (h : TB w B a m T mx) : ParI T := by
  intro x hx
  have hm := h.tab.mxr
  rcases h.ok.par x.o (List.mem_map_of_mem hx) with e | e
  · rw [e]; exact ⟨by omega, by omega⟩
  · obtain ⟨y, hy, e⟩ := hasO_iff.1 e
    have := h.ok.rng y hy
    exact ⟨by omega, by omega⟩
theorem TB.plcI {w : World} {B a m : Nat} {T : List OM} {mx : Int} (h : TB w B a m T mx) : ∀ x ∈ T, I64 x.o.place := by
  intro x hx
  have hm := h.tab.mxr
  rcases h.ok.plc x.o (List.mem_map_of_mem hx) with e | e
  · rw [e]; exact ⟨by omega, by omega⟩
  · obtain ⟨y, hy, e⟩ := hasO_iff.1 e
    have := h.ok.rng y hy
    exact ⟨by omega, by omega⟩
theorem hasT {T : List OM} {o : Int} (h : hasO (obT T) o = true) : ∃ x, findT T o = some x := by
  obtain ⟨y, hy⟩ := hasO_get h
  rw [getO_obT] at hy
  cases hf : findT T o with
  | none => rw [hf] at hy; cases hy
  | some x => exact ⟨x, rfl⟩

/-- What a change with an answer leaves, whatever it answers: the same numbers. -/
def Mov (w : World) (B a m : Nat) (T : List OM) (mx : Int) (e : Ending) (w' : World) : Prop := ∃ (c : Int) (T' : List OM), e = .returned (.int .i64 c) ∧ Stp w w' B a m T T' mx mx ∧ idsO (obT T') = idsO (obT T)

set_option maxRecDepth 100000 in
set_option maxHeartbeats 4000000 in
theorem move_c {w : World} {B a m : Nat} {T : List OM} {mx o p : Int} (h : TB w B a m T mx) (ho : I64 o) (hp : I64 p) :
    Calls Try.prog 14 #[.pointer (some ⟨a, 0, none⟩), .int .i64 o, .int .i64 p] w (Mov w B a m T mx) := by
  have CO := Lib.hid (has_c h.tab ho)
  have CP := Lib.hid (has_c h.tab hp)
  have H := Lib.hid h
  clear h
  cases hho : hasO (obT T) o with
  | false =>
    have HO := Lib.hid hho
    rw [hho] at CO
    clear hho
    go_enter Try.func14, Try.ntmps14
    go_wp2_with fail
    refine CO.out.mono ?_
    rintro e w1 ⟨rfl, rfl⟩
    go_wp2_with fail
    go_ret
    exact ⟨_, T, rfl, .refl H.out, rfl⟩
  | true =>
    rw [hho] at CO
    obtain ⟨x0, hx0⟩ := hasT hho
    have HX0 := Lib.hid hx0
    have HO := Lib.hid hho
    clear hho hx0
    by_cases hpn : p = -1
    · subst hpn
      have c0 := H.out.tab.c0
      have hl := H.out.tab.look ho
      rw [ptrT_some HX0.out] at hl
      have hx0m := (findT_some HX0.out).1
      have h3 : w.cell? ⟨x0.g, 3, none⟩ = some (.int .i64 x0.o.place) := (H.out.tab.objs x0 hx0m).cell 3
      have f3 : w.frozen? ⟨x0.g, 3, none⟩ = false := (H.out.tab.objs x0 hx0m).free 3
      go_enter Try.func14, Try.ntmps14
      go_wp2_with fail
      refine CO.out.mono ?_
      rintro e w1 ⟨rfl, rfl⟩
      go_wp2_with fail
      refine wp_loop_rounds 1 ?_
      rw [rounds_succ]
      go_wp2_with fail
      go_ret
      refine ⟨_, updT T o (setL (-1)), rfl, ⟨⟨H.out.tab.store HX0.out 3 (.int .i64 (-1)) (setL (-1)) (fun _ => rfl) rfl rfl rfl, ?_, H.out.bare.upd o _⟩, Chg.set _ (List.mem_cons_of_mem _ (List.mem_cons_of_mem _ (blk_in hx0m))) _, ?_⟩, ?_⟩
      · rw [obT_upd]
        exact H.out.ok.move (.inl rfl) (by rw [row_none (by rw [getO_obT, H.out.tab.neg]; rfl)]; simp)
      · intro b hb
        rw [blkT_upd] at hb
        exact .inl hb
      · rw [obT_upd, updO_ids _ _ (setL (-1)) (fun _ => rfl)]
    · have hpn' : ((p == -1) = false) := by simpa using hpn
      cases hhp : hasO (obT T) p with
      | false =>
        rw [hhp] at CP
        clear hhp
        go_enter Try.func14, Try.ntmps14
        go_wp2_with fail
        refine CO.out.mono ?_
        rintro e w1 ⟨rfl, rfl⟩
        go_wp2_with fail
        refine CP.out.mono ?_
        rintro e w1 ⟨rfl, rfl⟩
        go_wp2_with fail
        go_ret
        exact ⟨_, T, rfl, .refl H.out, rfl⟩
      | true =>
        rw [hhp] at CP
        have HP := Lib.hid hhp
        clear hhp
        go_enter Try.func14, Try.ntmps14
        go_wp2_with fail
        refine CO.out.mono ?_
        rintro e w1 ⟨rfl, rfl⟩
        go_wp2_with fail
        refine CP.out.mono ?_
        rintro e w1 ⟨rfl, rfl⟩
        go_wp2_with fail
        go_loopg [7] ((rowO (obT T) OB.place p).length + 1) (fun kk iv wr => ∃ q : Int, iv = .int .i64 q ∧ I64 q ∧ (q = -1 ∨ hasO (obT T) q = true) ∧ (rowO (obT T) OB.place q).length + 1 = kk ∧ w = wr ∧ Hid (o ∈ rowO (obT T) OB.place p → o ∈ rowO (obT T) OB.place q))
        case atStart => exact ⟨p, rfl, hp, .inr HP.out, rfl, rfl, fun h => h⟩
        case round =>
          obtain ⟨q, rfl, hq, hqh, hlen, rfl, hin⟩ := hrel
          by_cases hqn : q = -1
          · subst hqn
            have HIN := Lib.hid hin
            have c0 := H.out.tab.c0
            have hl := H.out.tab.look ho
            rw [ptrT_some HX0.out] at hl
            have hx0m := (findT_some HX0.out).1
            have h3 : w.cell? ⟨x0.g, 3, none⟩ = some (.int .i64 x0.o.place) := (H.out.tab.objs x0 hx0m).cell 3
            have f3 : w.frozen? ⟨x0.g, 3, none⟩ = false := (H.out.tab.objs x0 hx0m).free 3
            clear hin hqh hlen
            go_wp2_with fail
            go_ret
            refine ⟨_, updT T o (setL p), rfl, ⟨⟨H.out.tab.store HX0.out 3 (.int .i64 p) (setL p) (fun _ => rfl) rfl rfl rfl, ?_, H.out.bare.upd o _⟩, Chg.set _ (List.mem_cons_of_mem _ (List.mem_cons_of_mem _ (blk_in hx0m))) _, ?_⟩, ?_⟩
            · rw [obT_upd]
              refine H.out.ok.move (.inr HP.out) fun hc => ?_
              have := HIN.out.out hc
              rw [row_none (by rw [getO_obT, H.out.tab.neg]; rfl)] at this
              cases this
            · intro b hb
              rw [blkT_upd] at hb
              exact .inl hb
            · rw [obT_upd, updO_ids _ _ (setL p) (fun _ => rfl)]
          · have hqn' : ((q == -1) = false) := by simpa using hqn
            by_cases hqo : q = o
            · subst hqo
              clear hin hlen
              go_wp2_with fail
              go_ret
              exact ⟨_, T, rfl, .refl H.out, rfl⟩
            · have hqo' : ((q == o) = false) := by simpa using hqo
              have hqh' := hqh.resolve_left hqn
              obtain ⟨z, hz⟩ := hasT hqh'
              have hzm := (findT_some hz).1
              have c0 := H.out.tab.c0
              have hl := H.out.tab.look hq
              rw [ptrT_some hz] at hl
              have h3 : w.cell? ⟨z.g, 3, none⟩ = some (.int .i64 z.o.place) := (H.out.tab.objs z hzm).cell 3
              have hre := row_eq H.out.ok.acyL (getO_some' hz)
              have HZQ := Lib.hid (findT_some hz).2
              have hlen2 : (rowO (obT T) OB.place q).length = (rowO (obT T) OB.place z.o.place).length + 1 := by rw [hre]; rfl
              obtain ⟨j, rfl⟩ : ∃ j, gk = j + 1 := ⟨gk - 1, by omega⟩
              have hzp := H.out.plcI z hzm
              have hzh := H.out.ok.plc z.o (List.mem_map_of_mem hzm)
              have hj : (rowO (obT T) OB.place z.o.place).length + 1 = j := by omega
              have HIN := Lib.hid hin
              have HRE := Lib.hid hre
              have HJ := Lib.hid hj
              clear hin hqh hlen hre hz hlen2 hj hqh'
              go_wp2_with fail
              go_roundg j
              case measure => omega
              case rel => exact ⟨z.o.place, rfl, hzp, hzh, HJ.out, rfl, fun hc => by
                have := HIN.out.out hc
                rw [HRE.out, List.mem_cons] at this
                rcases this with e | e
                · exact absurd (by rw [e, HZQ.out]) hqo
                · exact e⟩
end Go.Proofs.Ytagajoagdhickaa
namespace Go.Proofs.Ytagajoagdhickaa
open Go.RowKit Go.Lib
set_option linter.unusedVariables false

theorem isO_row {T : List OM} {p o : Int} (h : isO (obT T) p o = false) : o ∉ rowO (obT T) OB.parent p := by
  unfold isO at h
  rw [aboveO_row] at h
  intro hm
  rw [← List.contains_iff_mem] at hm
  rw [h] at hm
  cases hm
theorem Stp.under {w w1 w' : World} {B a m : Nat} {T : List OM} {mx o p : Int} (h : TB w B a m T mx) (hb : Below w.heap.size w w1) (hT : Tab w' B a m (updT T o (setP p)) mx) (hc : Chg (fun b => b ∈ blkT T) w1 w') (hp : p = -1 ∨ hasO (obT T) p = true) (hi : o ∉ rowO (obT T) OB.parent p) : Stp w w' B a m T (updT T o (setP p)) mx mx := by
  refine ⟨⟨hT, ?_, h.bare.upd o _⟩, (Chg.of_below hb).trans' hc ?_, ?_⟩
  · rw [obT_upd]
    exact h.ok.chparent hp hi
  · intro i _ hm
    exact List.mem_cons_of_mem _ (List.mem_cons_of_mem _ hm)
  · intro b hb
    rw [blkT_upd] at hb
    exact .inl hb
theorem below_all {w : World} {B a m : Nat} {T : List OM} {mx o : Int} (h : TB w B a m T mx) (ho : hasO (obT T) o = true) : ∃ r, belowO (obT T) o = some r ∧ r.length ≤ 512 ∧ ∀ x ∈ r, ∃ y, findT T x = some y ∧ I64 x := by
  obtain ⟨r, hr, rk, hrk, hinv⟩ := below_some h.ok.sort h.ok.acyP ho
  refine ⟨r, hr, ?_, fun x hx => ?_⟩
  · have h1 := hinv.len
    have h2 : (obT T).length = T.length := by simp [obT]
    have h3 := h.tab.few
    omega
  · obtain ⟨y, hy⟩ := hasT (hinv.all x hx).1
    have h1 := h.tab.rng y (findT_some hy).1
    have h2 := (findT_some hy).2
    have h3 := h.tab.mxr
    exact ⟨y, hy, by omega, by omega⟩

set_option maxRecDepth 100000 in
set_option maxHeartbeats 4000000 in
theorem chpar_neg {w : World} {B a m : Nat} {T : List OM} {mx o : Int} (h : TB w B a m T mx) (ho : I64 o) (hho : hasO (obT T) o = true) :
    Calls Try.prog 13 #[.pointer (some ⟨a, 0, none⟩), .int .i64 o, .int .i64 (-1)] w (Mov w B a m T mx) := by
  have hp : I64 (-1) := ⟨by omega, by omega⟩
  obtain ⟨i0, hi0, hz0, hz1, hz2⟩ := info_parts ostr_info
  have CO := Lib.hid (has_c h.tab ho)
  have CI := Lib.hid (is_c (p := o) h.tab hp h.parI)
  have CN := Lib.hid (names_c0 h.tab hp h.parI h.bare)
  rw [hho] at CO
  obtain ⟨r, hr, hrl, hrh⟩ := below_all h hho
  obtain ⟨x0, hx0⟩ := hasT hho
  have H := Lib.hid h
  have HRR := Lib.hid hr
  have HRH := Lib.hid hrh
  have HX0 := Lib.hid hx0
  have HPI := Lib.hid h.parI
  clear h hho hr hrh hx0
  have head : True := trivial
  cases hi : isO (obT T) (-1) o with
  | true =>
    rw [hi] at CI
    clear hi
    go_enter Try.func13, Try.ntmps13
    go_wp2_with fail
    refine CO.out.mono ?_
    rintro e w1 ⟨rfl, rfl⟩
    go_wp2_with fail
    refine CI.out.mono ?_
    rintro e w1 ⟨rfl, hb1⟩
    have HB1 := Lib.hid hb1
    clear hb1
    go_wp2_with fail
    go_ret
    exact ⟨_, T, rfl, .of_below H.out HB1.out, rfl⟩
  | false =>
    rw [hi] at CI
    have HI := Lib.hid (isO_row hi)
    clear hi
    go_enter Try.func13, Try.ntmps13
    go_wp2_with fail
    refine CO.out.mono ?_
    rintro e w1 ⟨rfl, rfl⟩
    go_wp2_with fail
    refine CI.out.mono ?_
    rintro e w1 ⟨rfl, hb1⟩
    have HB1 := Lib.hid hb1
    have CN := Lib.hid (names_c0 (H.out.tab.below hb1) hp HPI.out H.out.bare)
    clear hb1
    go_wp2_with fail
    refine CN.out.mono ?_
    rintro e w2 ⟨rfl, hb2⟩
    have HB2 := Lib.hid (HB1.out.trans (hb2.mono HB1.out.size))
    clear hb2 CN HB1
    go_wp2_with fail
    obtain ⟨w3, hw3⟩ : ∃ w3, w3 = w2.alloc (.cells #[.slice none 0 0] 34) := ⟨_, rfl⟩
    have hb3 : Below w.heap.size w w3 := by rw [hw3]; exact HB2.out.alloc HB2.out.size _
    have CB := Lib.hid (below_c (H.out.tab.below hb3) ho HRR.out (fun x hx => by obtain ⟨y, _, h2⟩ := HRH.out x hx; exact h2) (by omega))
    have HB3 := Lib.hid hb3
    rw [← hw3]
    clear hb3 hw3
    refine CB.out.mono ?_
    rintro e w4 ⟨v, rfl, hrow, hb4⟩
    obtain ⟨A, c, rfl, hnc, hcm, hA, hcell⟩ := own_formO hrow
    have HB4 := Lib.hid (HB3.out.trans (hb4.mono HB3.out.size))
    have HCL := Lib.hid hcell
    clear hb4 hcell CB HB3 hrow
    have c0 := (H.out.tab.below HB4.out).c0
    go_wp2_with fail
    go_loopg [35] r.length (fun kk iv wr => ∃ k : Nat, iv = .int .i64 (k : Int) ∧ k + kk = r.length ∧ w4 = wr)
    case atStart => exact ⟨0, rfl, by omega, rfl⟩
    case round =>
      obtain ⟨k, rfl, hik, rfl⟩ := hrel
      by_cases hk : k < r.length
      · obtain ⟨j, rfl⟩ : ∃ j, gk = j + 1 := ⟨gk - 1, by omega⟩
        obtain ⟨x, hx⟩ : ∃ x, r[k]? = some x := ⟨r[k], List.getElem?_eq_some_iff.2 ⟨hk, rfl⟩⟩
        obtain ⟨g1, rfl, hc1⟩ := HCL.out k (.int .i64 x) (by simp [intsO, hx])
        obtain ⟨y, hfy, hxi⟩ := HRH.out x (List.mem_of_getElem? hx)
        have hym := (findT_some hfy).1
        have hl := (H.out.tab.below HB4.out).look hxi
        rw [ptrT_some hfy] at hl
        have h7 : w4.cell? ⟨y.g, 7, none⟩ = some (.slice none 0 0) := by rw [← (H.out.bare y hym).1]; exact cellX H.out.tab HB4.out hym 7
        clear hx hfy
        go_wp2_with fail
        refine (conF_none 0 _ _).mono ?_
        rintro e w5 ⟨rfl, rfl⟩
        go_wp2_with fail
        go_roundg j
        case measure => omega
        case rel => exact ⟨k + 1, by go_num, by omega, rfl⟩
      · obtain rfl : k = r.length := by omega
        have CU := Lib.hid (under_c0 (H.out.tab.below HB4.out) ho hp HPI.out H.out.bare HX0.out HRR.out (fun x hx => by obtain ⟨y, h1, _⟩ := HRH.out x hx; exact findT_has h1) hrl)
        go_wp2_with fail
        refine CU.out.mono ?_
        rintro e w6 ⟨rfl, ht6, hc6⟩
        have HS := Lib.hid (Stp.under H.out HB4.out ht6 hc6 (.inl rfl) HI.out)
        clear ht6 hc6
        go_wp2_with fail
        go_ret
        exact ⟨_, _, rfl, HS.out, by rw [obT_upd, updO_ids _ _ (setP (-1)) (fun _ => rfl)]⟩

set_option maxRecDepth 100000 in
set_option maxHeartbeats 4000000 in
theorem chpar_pos {w : World} {B a m : Nat} {T : List OM} {mx o p : Int} (h : TB w B a m T mx) (ho : I64 o) (hp : I64 p) (hho : hasO (obT T) o = true) (hpp : hasO (obT T) p = true) :
    Calls Try.prog 13 #[.pointer (some ⟨a, 0, none⟩), .int .i64 o, .int .i64 p] w (Mov w B a m T mx) := by
  obtain ⟨i0, hi0, hz0, hz1, hz2⟩ := info_parts ostr_info
  have CO := Lib.hid (has_c h.tab ho)
  have CI := Lib.hid (is_c (p := o) h.tab hp h.parI)
  have CN := Lib.hid (names_c0 h.tab hp h.parI h.bare)
  have CP := Lib.hid (has_c h.tab hp)
  rw [hpp] at CP
  have hpn' : ¬ p = -1 := by
    rintro rfl
    rw [h.ok.neg] at hpp
    cases hpp
  have hpn : ((p == -1) = false) := by simpa using hpn'
  have HPP := Lib.hid hpp
  clear hpp
  rw [hho] at CO
  obtain ⟨r, hr, hrl, hrh⟩ := below_all h hho
  obtain ⟨x0, hx0⟩ := hasT hho
  have H := Lib.hid h
  have HRR := Lib.hid hr
  have HRH := Lib.hid hrh
  have HX0 := Lib.hid hx0
  have HPI := Lib.hid h.parI
  clear h hho hr hrh hx0
  have head : True := trivial
  cases hi : isO (obT T) p o with
  | true =>
    rw [hi] at CI
    clear hi
    go_enter Try.func13, Try.ntmps13
    go_wp2_with fail
    refine CO.out.mono ?_
    rintro e w1 ⟨rfl, rfl⟩
    go_wp2_with fail
    refine CP.out.mono ?_
    rintro e w1 ⟨rfl, rfl⟩
    go_wp2_with fail
    refine CI.out.mono ?_
    rintro e w1 ⟨rfl, hb1⟩
    have HB1 := Lib.hid hb1
    clear hb1
    go_wp2_with fail
    go_ret
    exact ⟨_, T, rfl, .of_below H.out HB1.out, rfl⟩
  | false =>
    rw [hi] at CI
    have HI := Lib.hid (isO_row hi)
    clear hi
    go_enter Try.func13, Try.ntmps13
    go_wp2_with fail
    refine CO.out.mono ?_
    rintro e w1 ⟨rfl, rfl⟩
    go_wp2_with fail
    refine CP.out.mono ?_
    rintro e w1 ⟨rfl, rfl⟩
    go_wp2_with fail
    refine CI.out.mono ?_
    rintro e w1 ⟨rfl, hb1⟩
    have HB1 := Lib.hid hb1
    have CN := Lib.hid (names_c0 (H.out.tab.below hb1) hp HPI.out H.out.bare)
    clear hb1
    go_wp2_with fail
    refine CN.out.mono ?_
    rintro e w2 ⟨rfl, hb2⟩
    have HB2 := Lib.hid (HB1.out.trans (hb2.mono HB1.out.size))
    clear hb2 CN HB1
    go_wp2_with fail
    obtain ⟨w3, hw3⟩ : ∃ w3, w3 = w2.alloc (.cells #[.slice none 0 0] 34) := ⟨_, rfl⟩
    have hb3 : Below w.heap.size w w3 := by rw [hw3]; exact HB2.out.alloc HB2.out.size _
    have CB := Lib.hid (below_c (H.out.tab.below hb3) ho HRR.out (fun x hx => by obtain ⟨y, _, h2⟩ := HRH.out x hx; exact h2) (by omega))
    have HB3 := Lib.hid hb3
    rw [← hw3]
    clear hb3 hw3
    refine CB.out.mono ?_
    rintro e w4 ⟨v, rfl, hrow, hb4⟩
    obtain ⟨A, c, rfl, hnc, hcm, hA, hcell⟩ := own_formO hrow
    have HB4 := Lib.hid (HB3.out.trans (hb4.mono HB3.out.size))
    have HCL := Lib.hid hcell
    clear hb4 hcell CB HB3 hrow
    have c0 := (H.out.tab.below HB4.out).c0
    go_wp2_with fail
    go_loopg [35] r.length (fun kk iv wr => ∃ k : Nat, iv = .int .i64 (k : Int) ∧ k + kk = r.length ∧ w4 = wr)
    case atStart => exact ⟨0, rfl, by omega, rfl⟩
    case round =>
      obtain ⟨k, rfl, hik, rfl⟩ := hrel
      by_cases hk : k < r.length
      · obtain ⟨j, rfl⟩ : ∃ j, gk = j + 1 := ⟨gk - 1, by omega⟩
        obtain ⟨x, hx⟩ : ∃ x, r[k]? = some x := ⟨r[k], List.getElem?_eq_some_iff.2 ⟨hk, rfl⟩⟩
        obtain ⟨g1, rfl, hc1⟩ := HCL.out k (.int .i64 x) (by simp [intsO, hx])
        obtain ⟨y, hfy, hxi⟩ := HRH.out x (List.mem_of_getElem? hx)
        have hym := (findT_some hfy).1
        have hl := (H.out.tab.below HB4.out).look hxi
        rw [ptrT_some hfy] at hl
        have h7 : w4.cell? ⟨y.g, 7, none⟩ = some (.slice none 0 0) := by rw [← (H.out.bare y hym).1]; exact cellX H.out.tab HB4.out hym 7
        clear hx hfy
        go_wp2_with fail
        refine (conF_none 0 _ _).mono ?_
        rintro e w5 ⟨rfl, rfl⟩
        go_wp2_with fail
        go_roundg j
        case measure => omega
        case rel => exact ⟨k + 1, by go_num, by omega, rfl⟩
      · obtain rfl : k = r.length := by omega
        have CU := Lib.hid (under_c0 (H.out.tab.below HB4.out) ho hp HPI.out H.out.bare HX0.out HRR.out (fun x hx => by obtain ⟨y, h1, _⟩ := HRH.out x hx; exact findT_has h1) hrl)
        go_wp2_with fail
        refine CU.out.mono ?_
        rintro e w6 ⟨rfl, ht6, hc6⟩
        have HS := Lib.hid (Stp.under H.out HB4.out ht6 hc6 (.inr HPP.out) HI.out)
        clear ht6 hc6
        go_wp2_with fail
        go_ret
        exact ⟨_, _, rfl, HS.out, by rw [obT_upd, updO_ids _ _ (setP p) (fun _ => rfl)]⟩

theorem chpar_c {w : World} {B a m : Nat} {T : List OM} {mx o p : Int} (h : TB w B a m T mx) (ho : I64 o) (hp : I64 p) :
    Calls Try.prog 13 #[.pointer (some ⟨a, 0, none⟩), .int .i64 o, .int .i64 p] w (Mov w B a m T mx) := by
  cases hho : hasO (obT T) o with
  | false =>
    have CO := Lib.hid (has_c h.tab ho)
    rw [hho] at CO
    have H := Lib.hid h
    clear h hho
    go_enter Try.func13, Try.ntmps13
    go_wp2_with fail
    refine CO.out.mono ?_
    rintro e w1 ⟨rfl, rfl⟩
    go_wp2_with fail
    go_ret
    exact ⟨_, T, rfl, .refl H.out, rfl⟩
  | true =>
    by_cases hpn' : p = -1
    · subst hpn'
      exact chpar_neg h ho hho
    · cases hpp : hasO (obT T) p with
      | true => exact chpar_pos h ho hp hho hpp
      | false =>
        have CO := Lib.hid (has_c h.tab ho)
        have CP := Lib.hid (has_c h.tab hp)
        have hpn : ((p == -1) = false) := by simpa using hpn'
        rw [hho] at CO
        rw [hpp] at CP
        have H := Lib.hid h
        clear h hho hpp
        go_enter Try.func13, Try.ntmps13
        go_wp2_with fail
        refine CO.out.mono ?_
        rintro e w1 ⟨rfl, rfl⟩
        go_wp2_with fail
        refine CP.out.mono ?_
        rintro e w1 ⟨rfl, rfl⟩
        go_wp2_with fail
        go_ret
        exact ⟨_, T, rfl, .refl H.out, rfl⟩
end Go.Proofs.Ytagajoagdhickaa
namespace Go.Proofs.Ytagajoagdhickaa
open Go.RowKit Go.Lib
set_option linter.unusedVariables false

/-- An object that is new, without properties, where it lies. -/
def newM (mx p ow : Int) (g : Nat) : OM := ⟨newO mx p ow [], g, .slice none 0 0, .slice none 0 0⟩
theorem Tab.grow {w w' : World} {B a m : Nat} {T : List OM} {mx p ow : Int} (h : Tab w B a m T mx) (g : Nat) (hg : w.heap.size ≤ g)
    (htab : w'.heap[a]? = some (.cells #[.map (some m), .int .i64 (mx + 1)] 53 (0, 0)))
    (hmap : w'.ownsMap Try.prog 3 ptrR m (T.length + 1) ((DataW.map (datT T)).put (.int .i64 (mx + 1)) (.lit (.int .i64 (g : Int)))))
    (hnew : w'.heap[g]? = some (.cells (newM mx p ow g).cells 38 (0, 0)))
    (hold : ∀ b ∈ blkT T, w'.heap[b]? = w.heap[b]?) (hf : T.length < 512) (hm : mx + 1 < 1073741824) : Tab w' B a m (T ++ [newM mx p ow g]) (mx + 1) := by
  have hlt := h.lt
  have hB := h.base a (List.mem_cons_self ..)
  have hla := hlt a (List.mem_cons_self ..)
  have hmx := h.mxr
  have hid : (newM mx p ow g).o.id = mx + 1 := rfl
  have hbk : blkT (T ++ [newM mx p ow g]) = blkT T ++ [g] := by simp [blkT, OM.blocks, newM, Value.ownBlock]
  have hlast : ∀ y ∈ T, y.o.id < (newM mx p ow g).o.id := fun y hy => by have := h.rng y hy; rw [hid]; omega
  refine ⟨htab, ?_, ?_, ?_, ?_, ?_, by simp; omega, by omega, ?_⟩
  · have e := datT_put T (newM mx p ow g) hlast
    rw [hid] at e
    rw [show (T ++ [newM mx p ow g]).length = T.length + 1 from by simp, ← e]
    exact hmap
  · intro x hx
    rcases List.mem_append.1 hx with hx | hx
    · exact (h.objs x hx).keep fun b hb => hold b (List.mem_flatMap.2 ⟨x, hx, hb⟩)
    · rw [List.mem_singleton] at hx
      subst hx
      exact ⟨hnew, World.ownsRow_nil _ _ _ _, World.ownsRow_nil _ _ _ _⟩
  · rw [hbk]
    have hs := h.sep
    rw [show a :: m :: (blkT T ++ [g]) = (a :: m :: blkT T) ++ [g] from rfl, List.nodup_append]
    refine ⟨hs, by simp, ?_⟩
    intro x hx y hy e
    rw [List.mem_singleton] at hy
    have := hlt x hx
    omega
  · rw [hbk]
    intro b hb
    rw [show a :: m :: (blkT T ++ [g]) = (a :: m :: blkT T) ++ [g] from rfl] at hb
    rcases List.mem_append.1 hb with hb | hb
    · exact h.base b hb
    · rw [List.mem_singleton] at hb
      omega
  · unfold SortO obT
    rw [List.map_append, List.pairwise_append]
    refine ⟨h.sort, by simp, ?_⟩
    intro x hx y hy
    obtain ⟨z, hz, rfl⟩ := List.mem_map.1 hx
    simp only [List.map_cons, List.map_nil, List.mem_singleton] at hy
    subst hy
    exact hlast z hz
  · intro x hx
    rcases List.mem_append.1 hx with hx | hx
    · have := h.rng x hx; omega
    · rw [List.mem_singleton] at hx
      subst hx
      rw [hid]
      omega
theorem Tab.raise {w : World} {B a m : Nat} {T : List OM} {mx : Int} (h : Tab w B a m T mx) (hm : mx + 1 < 1073741824) : Tab (w.setCell ⟨a, 1, none⟩ (.int .i64 (mx + 1))) B a m T (mx + 1) := by
  have hs := h.sep
  rw [List.nodup_cons] at hs
  have hoth : ∀ b, b ≠ a → (w.setCell ⟨a, 1, none⟩ (.int .i64 (mx + 1))).heap[b]? = w.heap[b]? := fun b hb => Below.heap_setCell _ _ _ _ hb
  have hmx := h.mxr
  refine ⟨?_, ownsMap_same h.map (hoth m fun e => hs.1 (by rw [← e]; exact List.mem_cons_self ..)), ?_, h.sep, h.base, h.sort, h.few, by omega, fun x hx => by have := h.rng x hx; omega⟩
  · rw [heap_setCell_same w a 1 _ _ _ h.tab]
    rfl
  · intro x hx
    exact (h.objs x hx).keep fun b hb => hoth b fun e => hs.1 (by rw [← e]; exact List.mem_cons_of_mem _ (List.mem_flatMap.2 ⟨x, hx, hb⟩))

theorem create_facts {w w2 : World} {B a m : Nat} {T : List OM} {mx p : Int} (h : Tab w B a m T mx) (h1 : Tab (w.setCell ⟨a, 1, none⟩ (.int .i64 (mx + 1))) B a m T (mx + 1)) (hw : w2 = (w.setCell ⟨a, 1, none⟩ (.int .i64 (mx + 1))).alloc (.cells (newM mx p (-1) w.heap.size).cells 38)) :
    Tab w2 B a m T (mx + 1) ∧ Chg (fun b => b = a) w w2 ∧ w2.heap[w.heap.size]? = some (.cells (newM mx p (-1) w.heap.size).cells 38 (0, 0)) ∧ w2.heap.size = w.heap.size + 1 := by
  subst hw
  refine ⟨h1.alloc _, (Chg.set (S := fun b => b = a) w (p := ⟨a, 1, none⟩) rfl _).trans (Chg.new _ _), ?_, by simp [World.setCell]⟩
  have := heap_alloc_new (w.setCell ⟨a, 1, none⟩ (.int .i64 (mx + 1))) (.cells (newM mx p (-1) w.heap.size).cells 38)
  rw [show (w.setCell ⟨a, 1, none⟩ (.int .i64 (mx + 1))).heap.size = w.heap.size from by simp [World.setCell]] at this
  exact this
theorem create_step {w w2 w5 : World} {B a m : Nat} {T : List OM} {mx p : Int} (h : TB w B a m T mx) (hp : p = -1 ∨ hasO (obT T) p = true) (hfew : T.length < 512) (hmm : mx + 1 < 1073741824)
    (ha : Chg (fun b => b = a) w w2) (hg : w2.heap[w.heap.size]? = some (.cells (newM mx p (-1) w.heap.size).cells 38 (0, 0))) (ht : Tab w2 B a m T (mx + 1))
    (hown : w5.ownsMap Try.prog 3 ptrR m (T.length + 1) ((DataW.map (datT T)).put (.int .i64 (mx + 1)) (.lit (.int .i64 (w.heap.size : Int))))) (hgrow : w2.drew.grownBy w5 (some m)) : Stp w w5 B a m T (T ++ [newM mx p (-1) w.heap.size]) mx (mx + 1) := by
  have hgr : ∀ b, b < w2.heap.size → b ≠ m → w5.heap[b]? = w2.heap[b]? := fun b hb hn => hgrow.block b hb (fun e => hn (by injection e))
  have hs := h.tab.sep
  rw [List.nodup_cons, List.nodup_cons] at hs
  have hlt := ht.lt
  have hml := h.tab.lt m (List.mem_cons_of_mem _ (List.mem_cons_self ..))
  have hgl : w.heap.size < w2.heap.size := (Array.getElem?_eq_some_iff.1 hg).1
  have hob : obT (T ++ [newM mx p (-1) w.heap.size]) = obT T ++ [newO mx p (-1) []] := by simp [obT, newM]
  refine ⟨⟨h.tab.grow w.heap.size (Nat.le_refl _) ?_ hown ?_ ?_ hfew hmm, ?_, ?_⟩, ?_, ?_⟩
  · rw [hgr a (hlt a (List.mem_cons_self ..)) (fun e => hs.1 (by rw [e]; exact List.mem_cons_self ..))]
    exact ht.tab
  · rw [hgr _ hgl (by omega)]
    exact hg
  · intro b hb
    have hbl := h.tab.lt b (List.mem_cons_of_mem _ (List.mem_cons_of_mem _ hb))
    have hbo : w2.heap[b]? = w.heap[b]? := ha.block b hbl (fun e => hs.1 (by rw [← e]; exact List.mem_cons_of_mem _ hb))
    rw [hgr b (by omega) (fun e => hs.2.1 (by rw [← e]; exact hb))]
    exact hbo
  · rw [hob]
    exact h.ok.create p (-1) hp
  · intro x hx
    rcases List.mem_append.1 hx with hx | hx
    · exact h.bare x hx
    · rw [List.mem_singleton] at hx
      subst hx
      exact ⟨rfl, rfl⟩
  · refine (ha.mono (S' := fun b => b ∈ a :: m :: blkT T) (fun i _ e => by rw [e]; exact List.mem_cons_self ..)).trans' (Chg.of_grown (a := w2) (g := m) ⟨hgrow.os, hgrow.tape, hgrow.output, hgrow.size, hgrow.block⟩) ?_
    rintro i _ rfl
    exact List.mem_cons_of_mem _ (List.mem_cons_self ..)
  · intro b hb
    rw [show blkT (T ++ [newM mx p (-1) w.heap.size]) = blkT T ++ [w.heap.size] from by simp [blkT, OM.blocks, newM, Value.ownBlock]] at hb
    rcases List.mem_append.1 hb with hb | hb
    · exact .inl hb
    · rw [List.mem_singleton] at hb
      exact .inr (by omega)
theorem create_cell {w w2 w5 : World} {B a m : Nat} {T : List OM} {mx p : Int} (h : Tab w B a m T mx) (hg : w2.heap[w.heap.size]? = some (.cells (newM mx p (-1) w.heap.size).cells 38 (0, 0))) (hgrow : w2.drew.grownBy w5 (some m)) : w5.cell? ⟨w.heap.size, 0, none⟩ = some (.int .i64 (mx + 1)) := by
  have hml := h.lt m (List.mem_cons_of_mem _ (List.mem_cons_self ..))
  have hgl : w.heap.size < w2.heap.size := (Array.getElem?_eq_some_iff.1 hg).1
  have : w5.heap[w.heap.size]? = w2.heap[w.heap.size]? := hgrow.block _ hgl (fun e => by injection e with e; omega)
  exact cell_of_row w5 w.heap.size 0 _ _ _ (this.trans hg)
set_option maxRecDepth 100000 in
set_option maxHeartbeats 4000000 in
theorem create_yes {w : World} {B a m : Nat} {T : List OM} {mx p : Int} (h : TB w B a m T mx) (hp : I64 p) (hpp : p = -1 ∨ hasO (obT T) p = true) (hfew : T.length < 512) (hmm : mx + 1 < 1073741824) :
    Calls Try.prog 11 #[.pointer (some ⟨a, 0, none⟩), .int .i64 p, .int .i64 (-1)] w fun e w' => e = .returned (.tuple #[.int .i64 (mx + 1), .int .i64 0]) ∧ Stp w w' B a m T (T ++ [newM mx p (-1) w.heap.size]) mx (mx + 1) := by
  have H := Lib.hid h
  have HPP := Lib.hid hpp
  have hmx := h.tab.mxr
  have CP := Lib.hid (has_c h.tab hp)
  have c0 := h.tab.c0
  have c1 := h.tab.c1
  have f1 := h.tab.fr 1
  have hln := fun ty => h.tab.len ty
  have hal := h.tab.lt a (List.mem_cons_self ..)
  have ht1 := h.tab.raise hmm
  have hl := (ht1.alloc (.cells #[.int .i64 (mx + 1), .int .i64 p, .int .i64 (mx + 1), .int .i64 (-1), .int .i64 0, .int .i64 0, .string ⟨#[]⟩, .slice none 0 0, .slice none 0 0, .slice none 0 0] 38)).look hp
  have HT1 := Lib.hid ht1
  clear h ht1
  cases hhp : hasO (obT T) p with
  | false =>
    have hpe : p = -1 := by
      rcases hpp with e | e
      · exact e
      · rw [hhp] at e; cases e
    subst hpe
    rw [ptrT_none H.out.tab.neg] at hl
    clear hpp hhp CP
    go_enter Try.func11, Try.ntmps11
    go_wp2_with fail
    obtain ⟨w2, hw2⟩ : ∃ w2, w2 = (w.setCell ⟨a, 1, none⟩ (.int .i64 (mx + 1))).alloc (.cells #[.int .i64 (mx + 1), .int .i64 (-1), .int .i64 (mx + 1), .int .i64 (-1), .int .i64 0, .int .i64 0, .string ⟨#[]⟩, .slice none 0 0, .slice none 0 0, .slice none 0 0] 38) := ⟨_, rfl⟩
    rw [← hw2]
    have F := create_facts H.out.tab HT1.out hw2
    obtain ⟨ht2, hc2, hg2, hz2⟩ := F
    have c0' := ht2.c0
    have cg : w2.cell? ⟨w.heap.size, 0, none⟩ = some (.int .i64 (mx + 1)) := cell_of_row w2 w.heap.size 0 _ _ _ hg2
    have hown := ht2.map
    have HT2 := Lib.hid ht2
    have HC2 := Lib.hid hc2
    have HG2 := Lib.hid hg2
    have HOW := Lib.hid hown
    have hk1 : I64 (mx + 1) := ⟨by omega, by omega⟩
    clear hw2 hl ht2 hc2 hg2 hown c0 c1 f1 hln
    go_still_tail 9, (by kernel_rfl)
    change wpList _ _ _ _ _ w2.drew
    refine wpList_mapUpdate_own (a := _) (o := _) _ rfl _ _ _ 51 rfl 3 54 tkeyed tmap ptrR m T.length (.map (datT T)) rfl (HOW.out.drew) (by unfold maxLen; omega) (.int .i64 (mx + 1)) (.pointer (some ⟨w.heap.size, 0, none⟩)) (.int .i64 (mx + 1)) rfl rfl (tkey_of hk1) (.lit (.int .i64 (w.heap.size : Int))) [] rfl ?_
    intro w5 hown5 hgrow5
    have HS := Lib.hid (create_step (p := -1) H.out (.inl rfl) hfew hmm HC2.out HG2.out HT2.out hown5 hgrow5)
    have cg5 := create_cell (p := -1) H.out.tab HG2.out hgrow5
    clear hown5 hgrow5
    go_wp2_with fail
    go_ret2
    exact ⟨rfl, HS.out⟩
  | true =>
    obtain ⟨x, hx⟩ := hasT hhp
    rw [ptrT_some hx] at hl
    rw [hhp] at CP
    have hpn' : ¬ p = -1 := by
      rintro rfl
      rw [H.out.ok.neg] at hhp
      cases hhp
    have hpn : ((p == -1) = false) := by simpa using hpn'
    have HHP := Lib.hid hhp
    have hxm := (findT_some hx).1
    have hx8 : ((w.setCell ⟨a, 1, none⟩ (.int .i64 (mx + 1))).alloc (.cells #[.int .i64 (mx + 1), .int .i64 p, .int .i64 (mx + 1), .int .i64 (-1), .int .i64 0, .int .i64 0, .string ⟨#[]⟩, .slice none 0 0, .slice none 0 0, .slice none 0 0] 38)).cell? ⟨x.g, 8, none⟩ = some (.slice none 0 0) := by
      rw [← (H.out.bare x hxm).2]
      exact ((HT1.out.alloc _).objs x hxm).cell 8
    clear hx hhp hpp
    go_enter Try.func11, Try.ntmps11
    go_wp2_with fail
    refine CP.out.mono ?_
    rintro e w1 ⟨rfl, rfl⟩
    go_wp2_with fail
    refine wp_loop_rounds 1 ?_
    rw [rounds_succ]
    go_wp2_with fail
    clear hx8
    obtain ⟨w2, hw2⟩ : ∃ w2, w2 = (w.setCell ⟨a, 1, none⟩ (.int .i64 (mx + 1))).alloc (.cells #[.int .i64 (mx + 1), .int .i64 p, .int .i64 (mx + 1), .int .i64 (-1), .int .i64 0, .int .i64 0, .string ⟨#[]⟩, .slice none 0 0, .slice none 0 0, .slice none 0 0] 38) := ⟨_, rfl⟩
    rw [← hw2]
    have F := create_facts H.out.tab HT1.out hw2
    obtain ⟨ht2, hc2, hg2, hz2⟩ := F
    have c0' := ht2.c0
    have cg : w2.cell? ⟨w.heap.size, 0, none⟩ = some (.int .i64 (mx + 1)) := cell_of_row w2 w.heap.size 0 _ _ _ hg2
    have hown := ht2.map
    have HT2 := Lib.hid ht2
    have HC2 := Lib.hid hc2
    have HG2 := Lib.hid hg2
    have HOW := Lib.hid hown
    have hk1 : I64 (mx + 1) := ⟨by omega, by omega⟩
    clear hw2 hl ht2 hc2 hg2 hown c0 c1 f1 hln
    go_still_tail 9, (by kernel_rfl)
    change wpList _ _ _ _ _ w2.drew
    refine wpList_mapUpdate_own (a := _) (o := _) _ rfl _ _ _ 51 rfl 3 54 tkeyed tmap ptrR m T.length (.map (datT T)) rfl (HOW.out.drew) (by unfold maxLen; omega) (.int .i64 (mx + 1)) (.pointer (some ⟨w.heap.size, 0, none⟩)) (.int .i64 (mx + 1)) rfl rfl (tkey_of hk1) (.lit (.int .i64 (w.heap.size : Int))) [] rfl ?_
    intro w5 hown5 hgrow5
    have HS := Lib.hid (create_step (p := p) H.out (.inr HHP.out) hfew hmm HC2.out HG2.out HT2.out hown5 hgrow5)
    have cg5 := create_cell (p := p) H.out.tab HG2.out hgrow5
    clear hown5 hgrow5
    go_wp2_with fail
    go_ret2
    exact ⟨rfl, HS.out⟩
end Go.Proofs.Ytagajoagdhickaa
namespace Go.Proofs.Ytagajoagdhickaa
open Go.RowKit Go.Lib
set_option linter.unusedVariables false

def Falls (rk : Int → Nat) (l : List OB) : Prop := ∀ x ∈ l, ∀ y ∈ l, x.parent = y.id → rk y.id < rk x.id
theorem Falls.setP {rk : Int → Nat} {l : List OB} (h : Falls rk l) {c p : Int} (hp : (∀ x ∈ l, x.id ≠ p) ∨ rk p < rk c) : Falls rk (updO l c (setP p)) := by
  intro x hx y hy e
  obtain ⟨u, hu, hux⟩ := mem_updO hx
  obtain ⟨v, hv, hvy⟩ := mem_updO hy
  have hvid : y.id = v.id := by rcases hvy with ⟨_, rfl⟩ | ⟨_, rfl⟩ <;> rfl
  rw [hvid] at e ⊢
  rcases hux with ⟨huc, rfl⟩ | ⟨huc, rfl⟩
  · have e' : p = v.id := e
    show rk v.id < rk u.id
    rcases hp with hp | hp
    · exact absurd e'.symm (hp v hv)
    · rw [← e', huc]; exact hp
  · exact h x hu v hv e
theorem Falls.row {rk : Int → Nat} {l : List OB} (h : Falls rk l) {c p : Int} (hp : (∀ x ∈ l, x.id ≠ p) ∨ rk p < rk c) : c ∉ rowO l OB.parent p := by
  rcases hp with hp | hp
  · rw [row_none (getO_none.2 hp)]
    simp
  · intro hc
    have := ((run_falls h (l.length + 1) p).2 c hc).1
    omega
theorem ids_none {l : List OB} {p : Int} (h : ∀ x ∈ l, x.id ≠ p) (c : Int) (f : OB → OB) (hf : ∀ x, (f x).id = x.id) : ∀ x ∈ updO l c f, x.id ≠ p := by
  intro x hx
  obtain ⟨u, hu, ⟨_, rfl⟩ | ⟨_, rfl⟩⟩ := mem_updO hx
  · rw [hf]; exact h u hu
  · exact h x hu
theorem foldl_snoc_take {α : Type} (g : α → Int → α) (a : α) {r : List Int} {k : Nat} {x : Int} (h : r[k]? = some x) : (r.take (k + 1)).foldl g a = g ((r.take k).foldl g a) x := by
  rw [List.take_add_one, h]
  simp

theorem blkT_filter {T : List OM} (q : OM → Bool) : (blkT (T.filter q)).Sublist (blkT T) := by
  unfold blkT
  induction T with
  | nil => simp
  | cons x r ih =>
    rw [List.filter_cons, List.flatMap_cons]
    cases q x with
    | true => simp only [if_true, List.flatMap_cons]; exact (List.Sublist.refl _).append ih
    | false => exact ih.trans (List.sublist_append_right _ _)
theorem Tab.drop {w w' : World} {B a m n : Nat} {T : List OM} {mx : Int} (h : Tab w B a m T mx) (o : Int) (hmap : w'.ownsMap Try.prog 3 ptrR m n ((DataW.map (datT T)).del (.int .i64 o))) (hold : ∀ b, b < w.heap.size → b ≠ m → w'.heap[b]? = w.heap[b]?) : Tab w' B a m (T.filter fun x => !(x.o.id == o)) mx := by
  have hs := h.sep
  have hlt := h.lt
  have hs' := hs
  rw [List.nodup_cons, List.nodup_cons] at hs'
  have hsub := blkT_filter (T := T) (fun x => !(x.o.id == o))
  have hmem : ∀ b ∈ a :: m :: blkT (T.filter fun x => !(x.o.id == o)), b ∈ a :: m :: blkT T := fun b hb => by
    rcases List.mem_cons.1 hb with rfl | hb
    · exact List.mem_cons_self ..
    rcases List.mem_cons.1 hb with rfl | hb
    · exact List.mem_cons_of_mem _ (List.mem_cons_self ..)
    exact List.mem_cons_of_mem _ (List.mem_cons_of_mem _ (hsub.subset hb))
  refine ⟨?_, ?_, ?_, ?_, fun b hb => h.base b (hmem b hb), ?_, Nat.le_trans (List.length_filter_le _ _) h.few, h.mxr, fun x hx => h.rng x (List.mem_filter.1 hx).1⟩
  · rw [hold a (hlt a (List.mem_cons_self ..)) (fun e => hs'.1 (by rw [e]; exact List.mem_cons_self ..))]
    exact h.tab
  · rw [datT_del] at hmap
    have := ownsMap_size hmap
    rw [datT_size] at this
    exact this
  · intro x hx
    have hxm := (List.mem_filter.1 hx).1
    refine (h.objs x hxm).keep fun b hb => ?_
    have hbm : b ∈ blkT T := List.mem_flatMap.2 ⟨x, hxm, hb⟩
    exact hold b (hlt b (List.mem_cons_of_mem _ (List.mem_cons_of_mem _ hbm))) (fun e => hs'.2.1 (by rw [← e]; exact hbm))
  · exact List.Nodup.sublist ((List.Sublist.refl [a, m]).append hsub) hs
  · unfold SortO obT
    exact List.Pairwise.sublist ((List.filter_sublist).map OM.o) h.sort
theorem obT_drop (T : List OM) (o : Int) : obT (T.filter fun x => !(x.o.id == o)) = delO (obT T) o := by
  unfold obT delO
  rw [List.filter_map]
  rfl
theorem cont_lt {T : List OM} {o c : Int} (h : c ∈ contO (obT T) o) : ∃ x, findT T c = some x := by
  obtain ⟨x, hx, e, _⟩ := mem_cont h
  exact hasT (hasO_iff.2 ⟨x, hx, e⟩)
theorem kids_lt {T : List OM} {o c : Int} (h : c ∈ kidsO (obT T) o) : ∃ x, findT T c = some x := by
  obtain ⟨x, hx, e, _⟩ := mem_kids h
  exact hasT (hasO_iff.2 ⟨x, hx, e⟩)
theorem kidsO_len {T : List OM} (o : Int) : (kidsO (obT T) o).length ≤ T.length := by
  unfold kidsO
  split
  · rw [List.length_map]
    refine Nat.le_trans (List.length_filter_le _ _) ?_
    simp [obT]
  · simp
theorem contO_len {T : List OM} (o : Int) : (contO (obT T) o).length ≤ T.length := by
  unfold contO
  split
  · rw [List.length_map]
    refine Nat.le_trans (List.length_filter_le _ _) ?_
    simp [obT]
  · simp
end Go.Proofs.Ytagajoagdhickaa
namespace Go.Proofs.Ytagajoagdhickaa
open Go.RowKit Go.Lib
set_option linter.unusedVariables false

theorem recycle_no {w : World} {B a m : Nat} {T : List OM} {mx o : Int} (h : TB w B a m T mx) (ho : I64 o) (hn : hasO (obT T) o = false) :
    Calls Try.prog 9 #[.pointer (some ⟨a, 0, none⟩), .int .i64 o] w fun e w' => e = .returned (.int .i64 13) ∧ w = w' := by
  have c0 := h.tab.c0
  have hl := h.tab.look ho
  have hf : findT T o = none := by
    cases hf : findT T o with
    | none => rfl
    | some x => rw [findT_has hf] at hn; cases hn
  rw [ptrT_none hf] at hl
  clear h hn hf
  go_enter Try.func9, Try.ntmps9
  go_wp2_with fail
  go_ret
  exact ⟨rfl, rfl⟩

/-- What holds while the children are given another parent. -/
structure RcP (w wr : World) (B a m : Nat) (T Tk : List OM) (mx : Int) (rk : Int → Nat) (o : Int) (x0 : OM) (k : Nat) : Prop where
  stp : Stp w wr B a m T Tk mx mx
  eq : obT Tk = ((kidsO (obT T) o).take k).foldl (fun l c => updO l c (setP x0.o.parent)) (obT T)
  at_ : findT Tk o = some x0
  fal : Falls rk (obT Tk)
  par : (∀ x ∈ obT Tk, x.id ≠ x0.o.parent) ∨ rk x0.o.parent < rk o
  ids : idsO (obT Tk) = idsO (obT T)
theorem RcP.step {w wr w2 : World} {B a m : Nat} {T Tk : List OM} {mx : Int} {rk : Int → Nat} {o : Int} {x0 : OM} {k : Nat} {c : Int} (h : RcP w wr B a m T Tk mx rk o x0 k) (hc : (kidsO (obT T) o)[k]? = some c) (hrc : rk o < rk c)
    (hpp : x0.o.parent = -1 ∨ hasO (obT Tk) x0.o.parent = true) (hT : Tab w2 B a m (updT Tk c (setP x0.o.parent)) mx) (hch : Chg (fun b => b ∈ blkT Tk) wr w2) : RcP w w2 B a m T (updT Tk c (setP x0.o.parent)) mx rk o x0 (k + 1) := by
  have hlt : (∀ x ∈ obT Tk, x.id ≠ x0.o.parent) ∨ rk x0.o.parent < rk c := h.par.imp id fun h1 => Nat.lt_trans h1 hrc
  have hne : c ≠ o := fun e => by rw [e] at hrc; exact Nat.lt_irrefl _ hrc
  refine ⟨h.stp.trans (Stp.under h.stp.tb (Below.refl _ _) hT hch hpp (h.fal.row hlt)), ?_, ?_, ?_, ?_, ?_⟩
  · rw [obT_upd, h.eq, foldl_snoc_take _ _ hc]
  · rw [findT_upd Tk c (setP x0.o.parent) (fun _ => rfl), h.at_]
    have := (findT_some h.at_).2
    have e : (x0.o.id == c) = false := by rw [this]; simpa using Ne.symm hne
    simp only [Option.map_some, e]
    rfl
  · rw [obT_upd]
    exact h.fal.setP hlt
  · rw [obT_upd]
    exact h.par.imp (fun h1 => ids_none h1 c (setP x0.o.parent) (fun _ => rfl)) id
  · rw [obT_upd, updO_ids _ _ (setP x0.o.parent) (fun _ => rfl), h.ids]
theorem hasO_ids {l l' : List OB} (h : idsO l = idsO l') (o : Int) : hasO l o = hasO l' o := by
  have key : ∀ l : List OB, hasO l o = true ↔ o ∈ idsO l := fun l => by
    rw [hasO_iff]
    unfold idsO
    rw [List.mem_map]
  rw [Bool.eq_iff_iff, key, key, h]
/-- What holds while what was within is put nowhere. -/
structure RcL (w wr : World) (B a m : Nat) (T T1 Tk : List OM) (mx : Int) (o : Int) (k : Nat) : Prop where
  stp : Stp w wr B a m T Tk mx mx
  eq : obT Tk = ((contO (obT T1) o).take k).foldl (fun l c => updO l c (setL (-1))) (obT T1)
  ids : idsO (obT Tk) = idsO (obT T)
theorem RcL.step {w wr : World} {B a m : Nat} {T T1 Tk : List OM} {mx : Int} {o : Int} {k : Nat} {c : Int} (h : RcL w wr B a m T T1 Tk mx o k) (hc : (contO (obT T1) o)[k]? = some c) {x : OM} (hx : findT Tk c = some x) :
    RcL w (wr.setCell ⟨x.g, 3, none⟩ (.int .i64 (-1))) B a m T T1 (updT Tk c (setL (-1))) mx o (k + 1) := by
  have hxm := (findT_some hx).1
  have ht := h.stp.tb
  refine ⟨h.stp.trans ⟨⟨ht.tab.store hx 3 (.int .i64 (-1)) (setL (-1)) (fun _ => rfl) rfl rfl rfl, ?_, ht.bare.upd c _⟩, Chg.set _ (List.mem_cons_of_mem _ (List.mem_cons_of_mem _ (blk_in hxm))) _, ?_⟩, ?_, ?_⟩
  · rw [obT_upd]
    exact ht.ok.move (.inl rfl) (by rw [row_none (by rw [getO_obT, ht.tab.neg]; rfl)]; simp)
  · intro b hb
    rw [blkT_upd] at hb
    exact .inl hb
  · rw [obT_upd, h.eq, foldl_snoc_take _ _ hc]
  · rw [obT_upd, updO_ids _ _ (setL (-1)) (fun _ => rfl), h.ids]
end Go.Proofs.Ytagajoagdhickaa
