/- Contracts of the functions that the statement reaches, and the plain mathematics beneath: several texts joined. -/
import Derived.LaidEqlPtr
import Derived.Test.YtnphgcbknfmapaaGreatDoorWmvAM
import Derived.Test.YtnphgcbknfmapaaGreatDoorWmvAE
namespace Go.Proofs.YtnphgcbknfmapaaGreatDoor
open Go.RowKit Go.Lib
set_option linter.unusedVariables false
set_option linter.unusedSimpArgs false

theorem obj_psize : (Tryz.prog.info? 29).map (fun i => i.size) = some 10 := by kernel_rfl
theorem obj_ptr : Tryz.prog.underlying 81 = some (.pointer 29) := by kernel_rfl
theorem neq_same (w : World) (a : Addr) : (binOp .neq 81 (.pointer (some a)) (.pointer (some a))).run Tryz.prog w = .ok (.bool false) w := by
  cases hj : Tryz.prog.info? 29 with
  | none => have := obj_psize; rw [hj] at this; cases this
  | some j =>
    have h : ∀ d : Nat, (Op.equalIn (d + 1) 81 (.pointer (some a)) (.pointer (some a))).run Tryz.prog w = .ok true w := fun d => by
      simp [Op.equalIn, run_underlying obj_ptr, sizeOf, typeInfo, hj, run_sameAddr_same]
    simp only [binOp]
    simp [Op.equal, Op.maxDepth, h 9999]
theorem okS_del {l : List OB} {mx o : Int} (h : OkS l mx) (ho : hasO l o = true) (hk : kidsO l o = []) (hc : contO l o = []) : OkS (delO l o) mx := by
  have hkp : ∀ x ∈ l, x.parent ≠ o := fun x hx e => by
    have := kids_of hx e ho
    rw [hk] at this
    cases this
  have hkl : ∀ x ∈ l, x.place ≠ o := fun x hx e => by
    have := cont_of hx e ho
    rw [hc] at this
    cases this
  have hsub : ∀ x ∈ delO l o, x ∈ l := fun x hx => (mem_delO.1 hx).1
  refine ⟨?_, ?_, ?_, ?_, ?_, ?_, ?_, OkT.mx h⟩
  · have h1 : SortO (delO l o) := List.Pairwise.filter _ h.sortS
    unfold SortO at h1 ⊢
    rw [List.pairwise_map]
    exact h1
  · intro x hx
    obtain ⟨y, hy, rfl⟩ := List.mem_map.1 hx
    exact h.rngS (x := y) (hsub y hy)
  · intro x hx
    obtain ⟨y, hy, rfl⟩ := List.mem_map.1 hx
    exact ⟨rfl, rfl⟩
  · obtain ⟨rk, hr⟩ := h.acyP
    refine ⟨rk, fun x hx p hp e => ?_⟩
    obtain ⟨y, hy, rfl⟩ := List.mem_map.1 hx
    obtain ⟨q, hq, rfl⟩ := List.mem_map.1 hp
    exact hr y (hsub y hy) q (hsub q hq) e
  · obtain ⟨rk, hr⟩ := h.acyL
    refine ⟨rk, fun x hx p hp e => ?_⟩
    obtain ⟨y, hy, rfl⟩ := List.mem_map.1 hx
    obtain ⟨q, hq, rfl⟩ := List.mem_map.1 hp
    exact hr y (hsub y hy) q (hsub q hq) e
  · intro x hx
    obtain ⟨y, hy, rfl⟩ := List.mem_map.1 hx
    rcases h.par (hsub y hy) with h1 | h1
    · exact .inl h1
    · exact .inr (by rw [hasO_bare]; exact hasO_del.2 ⟨h1, hkp y (hsub y hy)⟩)
  · intro x hx
    obtain ⟨y, hy, rfl⟩ := List.mem_map.1 hx
    rcases h.plc (hsub y hy) with h1 | h1
    · exact .inl h1
    · exact .inr (by rw [hasO_bare]; exact hasO_del.2 ⟨h1, hkl y (hsub y hy)⟩)
theorem stS_drop {w w' : World} {B a m n : Nat} {T : List OM} {mx : Int} (h : TS w B a m T mx) (o : Int) (hmap : w'.ownsMap Tryz.prog 3 ptrR m n ((DataW.map (datT T)).del (.int .i64 o))) (hg : w.mapTurned w' m) (hok : OkS (delO (obT T) o) mx) : StS w w' B a m T (T.filter fun x => !(x.o.id == o)) mx mx := by
  have hgr := hg.grown
  refine ⟨⟨h.tab.drop o hmap fun b hb hn => hgr.block b hb fun e => hn (by injection e), by rw [obT_drop]; exact hok, fun x hx => h.flat x (List.mem_filter.1 hx).1, fun x hx => h.bare x (List.mem_filter.1 hx).1⟩, (Chg.of_grown hgr).mono fun i _ e => ?_, fun b hb => .inl ((blkT_filter _).subset hb)⟩
  rw [e]
  exact List.mem_cons_of_mem _ (List.mem_cons_self ..)

set_option maxRecDepth 100000 in
set_option maxHeartbeats 4000000 in
theorem recycle_S {w : World} {B a m : Nat} {T : List OM} {mx o : Int} (h : TS w B a m T mx) (ho : I64 o) {x0 : OM} (hx0 : findT T o = some x0) (hk : kidsO (obT T) o = []) (hc : contO (obT T) o = []) :
    Calls Tryz.prog 81 #[.pointer (some ⟨a, 0, none⟩), .int .i64 o] w fun e w' => e = .returned (.int .i64 0) ∧ ∃ T', StS w w' B a m T T' mx mx ∧ obT T' = delO (obT T) o := by
  have CK := Lib.hid (kids_c h.tab ho)
  rw [hk] at CK
  have CC := Lib.hid (fun W (hb : Below w.heap.size w W) => cont_c (h.tab.below hb) ho)
  rw [hc] at CC
  have c0 := h.tab.c0
  have hl := h.tab.look ho
  rw [ptrT_some hx0] at hl
  have HOK := Lib.hid (okS_del h.ok (findT_has hx0) hk hc)
  have H := Lib.hid h
  clear h hk hc hx0
  go_enter Tryz.func81, Tryz.ntmps81
  go_wp2_with fail
  refine CK.out.mono ?_
  rintro e w1 ⟨v, rfl, hrow, hb1⟩
  obtain ⟨A1, c1, rfl, _⟩ := own_formO hrow
  have HB1 := Lib.hid hb1
  clear hrow hb1 CK hl c0
  go_wp2_with fail
  refine wp_loop_rounds 1 ?_
  rw [rounds_succ]
  go_wp2_with fail
  refine (CC.out w1 HB1.out).mono ?_
  rintro e w2 ⟨v, rfl, hrow, hb2⟩
  obtain ⟨A2, c2, rfl, _⟩ := own_formO hrow
  have HB2 := Lib.hid (HB1.out.trans (hb2.mono HB1.out.size))
  have c0 := (H.out.tab.below HB2.out).c0
  have HOW := Lib.hid (H.out.tab.below HB2.out).map
  clear hrow hb2 CC
  go_wp2_with fail
  refine wp_loop_rounds 1 ?_
  rw [rounds_succ]
  go_wp2_with (refine wpList_delete_own _ rfl _ _ 82 3 rfl 81 tkeyed tmap ptrR m T.length (.map (datT T)) rfl HOW.out (.int .i64 o) (.int .i64 o) rfl (tkey_of ho) ?_
               intro w9 hown9 hturn9
               have HS := Lib.hid (stS_drop (H.out.keep HB2.out) o hown9 hturn9 HOK.out)
               clear hown9 hturn9)
  go_ret
  exact ⟨rfl, _, (StS.of_below H.out HB2.out).trans HS.out, obT_drop T o⟩
section
variable {B a m gW : Nat} {w0 w w' : World} {l l' : List OB} {mx mx' o : Int} {K : List (Nat × Obj)} {x y : OB} {id : Int} {wz pg : Bool}
theorem recycle_L (h : LS B w0 w a m l mx K) (ho : I64 o) (hx : getO l o = some x) (hk : kidsO l o = []) (hc : contO l o = []) :
    Calls Tryz.prog 81 #[.pointer (some ⟨a, 0, none⟩), .int .i64 o] w fun e w' => e = .returned (.int .i64 0) ∧ LS B w0 w' a m (delO l o) mx K := by
  obtain ⟨T, ht, rfl, h0, hK⟩ := h
  obtain ⟨y, hy, rfl⟩ := findT_of_getO hx
  refine (recycle_S ht ho hy hk hc).mono ?_
  rintro e w' ⟨rfl, T', hs, ho'⟩
  exact ⟨rfl, ls_step ht h0 hK hs ho'⟩
set_option maxRecDepth 100000 in
set_option maxHeartbeats 2000000 in
theorem wrec_n (h : LS B w0 w a m l mx K) (hW : WK gW a ∈ K) (ho : I64 o) (hx : getO l o = some x) (hr : ownB id wz x.owner = false) :
    Calls Tryz.prog 40 #[.pointer (some ⟨gW, 0, none⟩), .agg #[.int .i64 id, .bool wz, .bool pg], .int .i64 o] w fun e w' => e = .returned (.int .i64 3) ∧ Below w.heap.size w w' := by
  obtain ⟨w3, hw3⟩ : ∃ w3, w3 = w.alloc (.cells #[.int .i64 id, .bool wz, .bool pg] 71) := ⟨_, rfl⟩
  have hb3 : Below w.heap.size w w3 := by rw [hw3]; exact (Below.refl _ _).alloc (Nat.le_refl _) _
  have hz3 : w3.heap.size = w.heap.size + 1 := by rw [hw3]; simp
  have g4 : w3.heap[w.heap.size]? = some (.cells #[.int .i64 id, .bool wz, .bool pg] 71 (0, 0)) := by
    rw [hw3]
    exact heap_alloc_new w _
  have h3 := h.below hb3
  obtain ⟨gx, A1, n1, A2, n2, hgx, hR, hcx⟩ := ref_B h3 ho hx
  have HK := Lib.hid (fun W (hb : Below w3.heap.size w3 W) => (h3.below hb).wk hW)
  have k3 := HK.out w3 (Below.refl _ _)
  have CR := Lib.hid (fun W (hb : Below w3.heap.size w3 W) => hR W hb)
  have p0 := cell_of_row w3 _ 0 _ _ _ g4
  have p1 := cell_of_row w3 _ 1 _ _ _ g4
  have p2 := cell_of_row w3 _ 2 _ _ _ g4
  have q0 := hcx w3 (Below.refl _ _) 0
  have q1 := hcx w3 (Below.refl _ _) 1
  have q2 := hcx w3 (Below.refl _ _) 2
  have q3 := hcx w3 (Below.refl _ _) 3
  have q4 := hcx w3 (Below.refl _ _) 4
  have q5 := hcx w3 (Below.refl _ _) 5
  have q6 := hcx w3 (Below.refl _ _) 6
  have q7 := hcx w3 (Below.refl _ _) 7
  have q8 := hcx w3 (Below.refl _ _) 8
  have q9 := hcx w3 (Below.refl _ _) 9
  have CO := Lib.hid (fun W => pobj10_c (id := id) (wz := wz) (pg := pg) (A1 := A1) (A2 := A2) (n1 := x.defs.length) (n2 := x.slots.length) (c1 := n1) (c2 := n2) x W)
  rw [hr] at CO
  have HB3 := Lib.hid hb3
  have HW3 := Lib.hid hw3
  clear h h3 hb3 g4 hz3 hw3 hx hR hcx hr
  go_enter Tryz.func40, Tryz.ntmps40
  go_upto_region 1 with fail
  rw [← HW3.out]
  go_wp2_with fail
  refine (CR.out _ (Below.refl _ _)).mono ?_
  rintro e w4 ⟨rfl, rfl⟩
  go_upto_region 4 with fail
  go_still_tail 4, (by kernel_rfl)
  change wpList _ _ _ _ _ w3.drew
  go_wp2_with fail
  refine (CO.out _).mono ?_
  rintro e w5 ⟨rfl, hb5⟩
  have HB5 := Lib.hid (show Below w3.heap.size w3 w5 from ((Below.refl w3.heap.size w3).drew).trans hb5)
  have k5 := HK.out w5 HB5.out
  clear hb5 p0 p1 p2 q0 q1 q2 q3 q4 q5 q6 q7 q8 q9 k3
  have HF := Lib.hid (HB3.out.trans (HB5.out.mono HB3.out.size))
  go_wp2_with fail
  go_ret
  exact ⟨rfl, HF.out⟩
set_option maxRecDepth 100000 in
set_option maxHeartbeats 2000000 in
theorem wrec_y (h : LS B w0 w a m l mx K) (hW : WK gW a ∈ K) (ho : I64 o) (hx : getO l o = some x) (hown : x.owner = o) (hk : kidsO l o = []) (hc : contO l o = []) (hr : ownB id wz x.owner = true) :
    Calls Tryz.prog 40 #[.pointer (some ⟨gW, 0, none⟩), .agg #[.int .i64 id, .bool wz, .bool pg], .int .i64 o] w fun e w' => e = .returned (.int .i64 0) ∧ LS B w0 w' a m (delO l o) mx K := by
  obtain ⟨w3, hw3⟩ : ∃ w3, w3 = w.alloc (.cells #[.int .i64 id, .bool wz, .bool pg] 71) := ⟨_, rfl⟩
  have hb3 : Below w.heap.size w w3 := by rw [hw3]; exact (Below.refl _ _).alloc (Nat.le_refl _) _
  have hz3 : w3.heap.size = w.heap.size + 1 := by rw [hw3]; simp
  have g4 : w3.heap[w.heap.size]? = some (.cells #[.int .i64 id, .bool wz, .bool pg] 71 (0, 0)) := by
    rw [hw3]
    exact heap_alloc_new w _
  have h3 := h.below hb3
  obtain ⟨gx, A1, n1, A2, n2, hgx, hR, hcx⟩ := ref_B h3 ho hx
  have HK := Lib.hid (fun W (hb : Below w3.heap.size w3 W) => (h3.below hb).wk hW)
  have k3 := HK.out w3 (Below.refl _ _)
  have CR := Lib.hid (fun W (hb : Below w3.heap.size w3 W) => hR W hb)
  have p0 := cell_of_row w3 _ 0 _ _ _ g4
  have p1 := cell_of_row w3 _ 1 _ _ _ g4
  have p2 := cell_of_row w3 _ 2 _ _ _ g4
  have q0 := hcx w3 (Below.refl _ _) 0
  have q1 := hcx w3 (Below.refl _ _) 1
  have q2 := hcx w3 (Below.refl _ _) 2
  have q3 := hcx w3 (Below.refl _ _) 3
  have q4 := hcx w3 (Below.refl _ _) 4
  have q5 := hcx w3 (Below.refl _ _) 5
  have q6 := hcx w3 (Below.refl _ _) 6
  have q7 := hcx w3 (Below.refl _ _) 7
  have q8 := hcx w3 (Below.refl _ _) 8
  have q9 := hcx w3 (Below.refl _ _) 9
  have CO := Lib.hid (fun W => pobj10_c (id := id) (wz := wz) (pg := pg) (A1 := A1) (A2 := A2) (n1 := x.defs.length) (n2 := x.slots.length) (c1 := n1) (c2 := n2) x W)
  rw [hr] at CO
  have CM := Lib.hid (fun W (hb : Below w3.heap.size w3 W) => recycle_L (h3.below hb) ho hx hk hc)
  have HC2 := Lib.hid (show ∀ W, Below w3.heap.size w3 W → W.cell? ⟨gx, 2, none⟩ = some (.int .i64 o) from fun W hb => by rw [← hown]; exact hcx W hb 2)
  have HB3 := Lib.hid hb3
  have HW3 := Lib.hid hw3
  clear h h3 hb3 g4 hz3 hw3 hx hR hcx hr hown hk hc
  go_enter Tryz.func40, Tryz.ntmps40
  go_upto_region 1 with fail
  rw [← HW3.out]
  go_wp2_with fail
  refine (CR.out _ (Below.refl _ _)).mono ?_
  rintro e w4 ⟨rfl, rfl⟩
  go_upto_region 4 with fail
  go_still_tail 4, (by kernel_rfl)
  change wpList _ _ _ _ _ w3.drew
  go_wp2_with fail
  refine (CO.out _).mono ?_
  rintro e w5 ⟨rfl, hb5⟩
  have HB5 := Lib.hid (show Below w3.heap.size w3 w5 from ((Below.refl w3.heap.size w3).drew).trans hb5)
  have k5 := HK.out w5 HB5.out
  clear hb5 p0 p1 p2 q0 q1 q2 q3 q4 q5 q6 q7 q8 q9 k3
  have q2 := HC2.out w5 HB5.out
  have k5d := HK.out w5.drew HB5.out.drew
  have hne := neq_same w5.drew ⟨gx, 0, none⟩
  go_upto_region 6 with fail
  go_still_tail 8, (by kernel_rfl)
  change wpList _ _ _ _ _ w5.drew
  go_wp2_with fail
  refine (CR.out _ HB5.out.drew).mono ?_
  rintro e w6 ⟨rfl, rfl⟩
  go_wp2_with fail
  refine (CM.out _ HB5.out.drew).mono ?_
  rintro e w6 ⟨rfl, hl6⟩
  have HL6 := Lib.hid hl6
  clear hl6
  go_wp2_with fail
  go_ret
  exact ⟨rfl, HL6.out⟩
end
end Go.Proofs.YtnphgcbknfmapaaGreatDoor
namespace Go.Proofs.YtnphgcbknfmapaaGreatDoor
open Go.RowKit Go.Lib
set_option linter.unusedVariables false
set_option linter.unusedSimpArgs false
/-- The room, as it goes on. -/
def roomP (fl pl pr : Int) (sl : List SL) : List OB := [obR0, { obR1 with flags := fl }, obR2, { obR3 with place := pl, parent := pr, slots := sl }]
theorem getP3 (fl pl pr : Int) (sl : List SL) : getO (roomP fl pl pr sl) 3 = some { obR3 with place := pl, parent := pr, slots := sl } := rfl
theorem getP1 (fl pl pr : Int) (sl : List SL) : getO (roomP fl pl pr sl) 1 = some { obR1 with flags := fl } := rfl
def PlcR (pl : Int) : Prop := pl = -1 ∨ pl = 0 ∨ pl = 1 ∨ pl = 2
section
variable {B a m gW : Nat} {w0 w w' : World} {K : List (Nat × Obj)} {id fl pl pr tp : Int} {wz pg : Bool} {sl : List SL}
theorem move_R (h : LS B w0 w a m (roomP fl 1 (-1) []) 3 K) (hW : WK gW a ∈ K) (htp : PlcR tp) {c : Int} (hc : (if ownB id wz 3 = true then 0 else 3) = c) :
    Calls Tryz.prog 38 #[.pointer (some ⟨gW, 0, none⟩), .agg #[.int .i64 id, .bool wz, .bool pg], .int .i64 3, .int .i64 tp] w fun e w' => e = .returned (.int .i64 c) ∧ ∃ pl, PlcR pl ∧ LS B w0 w' a m (roomP fl pl (-1) []) 3 K := by
  have h3 : I64 3 := ⟨by omega, by omega⟩
  cases ho : ownB id wz 3 with
  | true =>
    rw [ho, if_pos rfl] at hc
    subst hc
    rcases htp with rfl | rfl | rfl | rfl
    · refine (wmove_ny h hW h3 (getP3 fl 1 (-1) []) ho).mono ?_
      rintro e w' ⟨rfl, hl⟩
      exact ⟨rfl, -1, .inl rfl, hl⟩
    · refine (wmove_py h hW h3 (getP3 fl 1 (-1) []) ⟨by omega, by omega⟩ (by omega) rfl (by show (3 : Int) ∉ [0]; decide) ho).mono ?_
      rintro e w' ⟨rfl, hl⟩
      exact ⟨rfl, 0, .inr (.inl rfl), hl⟩
    · refine (wmove_py h hW h3 (getP3 fl 1 (-1) []) ⟨by omega, by omega⟩ (by omega) rfl (by show (3 : Int) ∉ [1]; decide) ho).mono ?_
      rintro e w' ⟨rfl, hl⟩
      exact ⟨rfl, 1, .inr (.inr (.inl rfl)), hl⟩
    · refine (wmove_py h hW h3 (getP3 fl 1 (-1) []) ⟨by omega, by omega⟩ (by omega) rfl (by show (3 : Int) ∉ [2, 1]; decide) ho).mono ?_
      rintro e w' ⟨rfl, hl⟩
      exact ⟨rfl, 2, .inr (.inr (.inr rfl)), hl⟩
  | false =>
    rw [ho, if_neg (by decide)] at hc
    subst hc
    rcases htp with rfl | htp
    · refine (wmove_nn h hW h3 (getP3 fl 1 (-1) []) ho).mono ?_
      rintro e w' ⟨rfl, hb⟩
      exact ⟨rfl, 1, .inr (.inr (.inl rfl)), h.below hb⟩
    · have hh : hasO (roomP fl 1 (-1) []) tp = true := by rcases htp with rfl | rfl | rfl <;> rfl
      have hi : I64 tp ∧ ¬ tp = -1 := by rcases htp with rfl | rfl | rfl <;> exact ⟨⟨by omega, by omega⟩, by omega⟩
      refine (wmove_pn h hW h3 (getP3 fl 1 (-1) []) hi.1 hi.2 hh ho).mono ?_
      rintro e w' ⟨rfl, hb⟩
      exact ⟨rfl, 1, .inr (.inr (.inl rfl)), h.below hb⟩
theorem chp_R (h : LS B w0 w a m (roomP fl pl (-1) []) 3 K) (hW : WK gW a ∈ K) {c : Int} (hc : (if (ownB id wz 3 && ((Go.bits .and .i64 fl 32 != 0) || ownB id wz 0)) = true then 0 else 3) = c) :
    Calls Tryz.prog 39 #[.pointer (some ⟨gW, 0, none⟩), .agg #[.int .i64 id, .bool wz, .bool pg], .int .i64 3, .int .i64 1] w fun e w' => e = .returned (.int .i64 c) ∧ ∃ pr sl, (pr = -1 ∨ pr = 1) ∧ LS B w0 w' a m (roomP fl pl pr sl) 3 K := by
  have h3 : I64 3 := ⟨by omega, by omega⟩
  have h1 : I64 1 := ⟨by omega, by omega⟩
  cases ho : (ownB id wz 3 && ((Go.bits .and .i64 fl 32 != 0) || ownB id wz 0)) with
  | true =>
    rw [ho, if_pos rfl] at hc
    subst hc
    refine (wchp_y h hW h3 (getP3 fl pl (-1) []) h1 (by omega) (getP1 fl pl (-1) []) (by omega) rfl rfl rfl (s1 := slR1) rfl rfl (by show [xS].length ≤ 100000; decide) (by show RiseS [xS]; exact rise_x) ho).mono ?_
    rintro e w' ⟨rfl, hl⟩
    exact ⟨rfl, 1, _, .inr rfl, hl⟩
  | false =>
    rw [ho, if_neg (by decide)] at hc
    subst hc
    refine (wchp_n h hW h3 (getP3 fl pl (-1) []) h1 (by omega) (getP1 fl pl (-1) []) ho).mono ?_
    rintro e w' ⟨rfl, hb⟩
    exact ⟨rfl, -1, [], .inl rfl, h.below hb⟩
theorem rec_R (h : LS B w0 w a m (roomP fl pl pr sl) 3 K) (hW : WK gW a ∈ K) (hpl : PlcR pl) (hpr : pr = -1 ∨ pr = 1) {c : Int} (hc : (if ownB id wz 3 = true then 0 else 3) = c) :
    Calls Tryz.prog 40 #[.pointer (some ⟨gW, 0, none⟩), .agg #[.int .i64 id, .bool wz, .bool pg], .int .i64 3] w fun e w' => e = .returned (.int .i64 c) ∧ Below B w0 w' := by
  have h3 : I64 3 := ⟨by omega, by omega⟩
  cases ho : ownB id wz 3 with
  | true =>
    rw [ho, if_pos rfl] at hc
    subst hc
    have hk : kidsO (roomP fl pl pr sl) 3 = [] := by rcases hpr with rfl | rfl <;> rfl
    have hcn : contO (roomP fl pl pr sl) 3 = [] := by rcases hpl with rfl | rfl | rfl | rfl <;> rfl
    refine (wrec_y h hW h3 (getP3 fl pl pr sl) rfl hk hcn ho).mono ?_
    rintro e w' ⟨rfl, hl⟩
    exact ⟨rfl, hl.base⟩
  | false =>
    rw [ho, if_neg (by decide)] at hc
    subst hc
    refine (wrec_n h hW h3 (getP3 fl pl pr sl) ho).mono ?_
    rintro e w' ⟨rfl, hb⟩
    exact ⟨rfl, (h.below hb).base⟩
theorem putf_R (h : LS B w0 w a m roomL 3 K) (hW : WK gW a ∈ K) :
    Calls Tryz.prog 36 #[.pointer (some ⟨gW, 0, none⟩), .agg #[.int .i64 0, .bool true, .bool true], .int .i64 1, .string ⟨#[102]⟩, .agg #[.int .i64 0, .int .i64 0, .string ⟨#[]⟩, .slice none 0 0]] w fun e w' => e = .returned (.int .i64 0) ∧ LS B w0 w' a m (roomP 0 1 (-1) []) 3 K :=
  wputf_y (o := 1) h hW ⟨by omega, by omega⟩ room1 (by decide) 0 (by decide)
end
end Go.Proofs.YtnphgcbknfmapaaGreatDoor
namespace Go.Proofs.YtnphgcbknfmapaaGreatDoor
open Go.RowKit Go.Lib
set_option linter.unusedVariables false
set_option linter.unusedSimpArgs false

set_option maxRecDepth 100000 in
set_option maxHeartbeats 4000000 in
theorem moves_0f (id0 to0 t4 : Int) (w : World) (hid : I64 id0) (hto : I64 to0) (hid4 : id0 % 4 = 0) (ht4 : to0 % 4 = t4) (ht : 0 ≤ t4 ∧ t4 < 4) :
    Calls Tryz.prog 7 #[.int .i64 id0, .int .i64 to0, .bool true] w fun e w' => e = .returned (.bool true) ∧ Below w.heap.size w w' := by
  have CF := Lib.hid (wfirst_c w)
  have CI := Lib.hid (fun W => onumber_c id0 4 W hid (by omega) (by omega))
  rw [hid4] at CI
  have CT := Lib.hid (fun W => onumber_c to0 4 W hto (by omega) (by omega))
  rw [ht4] at CT
  have hne3 : ((t4 - 1 == 3) = false) := by simp; omega
  have HPL := Lib.hid (show PlcR (t4 - 1) by unfold PlcR; omega)
  clear hid hto hid4 ht4
  go_enter Tryz.func7, Tryz.ntmps7
  go_wp2_with fail
  refine CF.out.mono ?_
  rintro e w1 ⟨rfl, hb1⟩
  have HB1 := Lib.hid hb1
  clear hb1 CF
  go_wp2_with fail
  refine (CI.out _).mono ?_
  rintro e w2 ⟨rfl, rfl⟩
  have CRM := Lib.hid (room_c w1)
  go_wp2_with fail
  refine CRM.out.mono ?_
  rintro e w2 ⟨rfl, hin, hb2⟩
  have CN := Lib.hid (wnew_c w2 hin)
  have HB2 := Lib.hid (HB1.out.trans (hb2.mono HB1.out.size))
  clear hin hb2 CRM
  go_wp2_with fail
  refine CN.out.mono ?_
  rintro e w3 ⟨gW, a, m, rfl, hl3⟩
  have HL3 := Lib.hid hl3
  clear hl3 CN
  have HL := Lib.hid (show LS w2.heap.size w2 w3 a m (roomP 32 1 (-1) []) 3 [WK gW a] from HL3.out)
  have CW := Lib.hid (who_W (gW := gW) (o := 0) HL.out (by simp) ⟨by omega, by omega⟩ (x := obR0) rfl (wz := true) (pg := true) (by decide) (by decide))
  go_wp2_with fail
  refine CW.out.mono ?_
  rintro e w7 ⟨rfl, hb7⟩
  obtain ⟨w8, hw8⟩ : ∃ w8, w8 = w7.alloc (.cells #[.int .i64 0, .bool true, .bool true] 71) := ⟨_, rfl⟩
  have hb8 : Below w7.heap.size w7 w8 := by rw [hw8]; exact (Below.refl _ _).alloc (Nat.le_refl _) _
  have g8 : w8.heap[w7.heap.size]? = some (.cells #[.int .i64 0, .bool true, .bool true] 71 (0, 0)) := by rw [hw8]; exact heap_alloc_new w7 _
  have HL8 := Lib.hid ((HL.out.below hb7).push hb8 (Nat.le_refl _) g8)
  have HW8 := Lib.hid hw8
  have CM := Lib.hid (move_R (gW := gW) (id := 0) (wz := true) (pg := true) HL8.out (by simp) HPL.out (c := 0) (by decide))
  have p0 := cell_of_row w8 _ 0 _ _ _ g8
  have p1 := cell_of_row w8 _ 1 _ _ _ g8
  have p2 := cell_of_row w8 _ 2 _ _ _ g8
  clear hb7 hb8 g8 hw8 CW
  go_upto_region 11 with fail
  rw [← HW8.out]
  go_wp2_with fail
  refine (CT.out _).mono ?_
  rintro e w9 ⟨rfl, rfl⟩
  go_wp2_with fail
  refine CM.out.mono ?_
  rintro e w9 ⟨rfl, pl, hpl, hl9⟩
  have HL9 := Lib.hid hl9
  have HP9 := Lib.hid hpl
  have CC := Lib.hid (chp_R (gW := gW) (id := 0) (wz := true) (pg := true) HL9.out (by simp) (c := 0) (by decide))
  have g9 := hl9.row (List.mem_cons_self ..)
  have p0 := cell_of_row w9 _ 0 _ _ _ g9
  have p1 := cell_of_row w9 _ 1 _ _ _ g9
  have p2 := cell_of_row w9 _ 2 _ _ _ g9
  clear hl9 hpl g9 CM
  go_wp2_with fail
  refine CC.out.mono ?_
  rintro e w10 ⟨rfl, pr, sl, hpr, hl10⟩
  have HL10 := Lib.hid hl10
  have CR := Lib.hid (rec_R (gW := gW) (id := 0) (wz := true) (pg := true) HL10.out (by simp) HP9.out hpr (c := 0) (by decide))
  have g10 := hl10.row (List.mem_cons_self ..)
  have p0 := cell_of_row w10 _ 0 _ _ _ g10
  have p1 := cell_of_row w10 _ 1 _ _ _ g10
  have p2 := cell_of_row w10 _ 2 _ _ _ g10
  clear hl10 hpr g10 CC
  go_wp2_with fail
  refine CR.out.mono ?_
  rintro e w11 ⟨rfl, hb11⟩
  have HF := Lib.hid (HB2.out.trans (hb11.mono HB2.out.size))
  clear hb11 CR p0 p1 p2
  go_wp2_with fail
  go_ret
  exact ⟨rfl, HF.out⟩

set_option maxRecDepth 100000 in
set_option maxHeartbeats 4000000 in
theorem moves_0n (id0 to0 t4 : Int) (w : World) (hid : I64 id0) (hto : I64 to0) (hid4 : id0 % 4 = 0) (ht4 : to0 % 4 = t4) (ht : 0 ≤ t4 ∧ t4 < 4) :
    Calls Tryz.prog 7 #[.int .i64 id0, .int .i64 to0, .bool false] w fun e w' => e = .returned (.bool true) ∧ Below w.heap.size w w' := by
  have CF := Lib.hid (wfirst_c w)
  have CI := Lib.hid (fun W => onumber_c id0 4 W hid (by omega) (by omega))
  rw [hid4] at CI
  have CT := Lib.hid (fun W => onumber_c to0 4 W hto (by omega) (by omega))
  rw [ht4] at CT
  have hne3 : ((t4 - 1 == 3) = false) := by simp; omega
  have HPL := Lib.hid (show PlcR (t4 - 1) by unfold PlcR; omega)
  clear hid hto hid4 ht4
  go_enter Tryz.func7, Tryz.ntmps7
  go_wp2_with fail
  refine CF.out.mono ?_
  rintro e w1 ⟨rfl, hb1⟩
  have HB1 := Lib.hid hb1
  clear hb1 CF
  go_wp2_with fail
  refine (CI.out _).mono ?_
  rintro e w2 ⟨rfl, rfl⟩
  have CRM := Lib.hid (room_c w1)
  go_wp2_with fail
  refine CRM.out.mono ?_
  rintro e w2 ⟨rfl, hin, hb2⟩
  have CN := Lib.hid (wnew_c w2 hin)
  have HB2 := Lib.hid (HB1.out.trans (hb2.mono HB1.out.size))
  clear hin hb2 CRM
  go_wp2_with fail
  refine CN.out.mono ?_
  rintro e w3 ⟨gW, a, m, rfl, hl3⟩
  have HL3 := Lib.hid hl3
  clear hl3 CN
  have CWZ := Lib.hid (who_W (gW := gW) (o := 0) HL3.out (by simp) ⟨by omega, by omega⟩ (x := obR0) rfl (wz := true) (pg := true) (by decide) (by decide))
  go_wp2_with fail
  refine CWZ.out.mono ?_
  rintro e w4 ⟨rfl, hb4⟩
  have HL4 := Lib.hid (HL3.out.below hb4)
  clear hb4 CWZ
  have CV := Lib.hid (show ∀ W, Calls Tryz.prog 24 #[.int .i64 0] W (fun e w' => e = .returned (.agg #[.int .i64 0, .int .i64 0, .string ⟨#[]⟩, .slice none 0 0]) ∧ Below W.heap.size W w') from fun W => valI_c 0 W)
  go_wp2_with fail
  refine (CV.out _).mono ?_
  rintro e w5 ⟨rfl, hb5⟩
  have HL5 := Lib.hid (HL4.out.below hb5)
  clear hb5
  have CP := Lib.hid (putf_R (gW := gW) HL5.out (by simp))
  go_wp2_with fail
  refine CP.out.mono ?_
  rintro e w6 ⟨rfl, hl6⟩
  have HL := Lib.hid hl6
  clear hl6 CP
  have CW := Lib.hid (who_W (gW := gW) (o := 0) HL.out (by simp) ⟨by omega, by omega⟩ (x := obR0) rfl (wz := true) (pg := true) (by decide) (by decide))
  go_wp2_with fail
  refine CW.out.mono ?_
  rintro e w7 ⟨rfl, hb7⟩
  obtain ⟨w8, hw8⟩ : ∃ w8, w8 = w7.alloc (.cells #[.int .i64 0, .bool true, .bool true] 71) := ⟨_, rfl⟩
  have hb8 : Below w7.heap.size w7 w8 := by rw [hw8]; exact (Below.refl _ _).alloc (Nat.le_refl _) _
  have g8 : w8.heap[w7.heap.size]? = some (.cells #[.int .i64 0, .bool true, .bool true] 71 (0, 0)) := by rw [hw8]; exact heap_alloc_new w7 _
  have HL8 := Lib.hid ((HL.out.below hb7).push hb8 (Nat.le_refl _) g8)
  have HW8 := Lib.hid hw8
  have CM := Lib.hid (move_R (gW := gW) (id := 0) (wz := true) (pg := true) HL8.out (by simp) HPL.out (c := 0) (by decide))
  have p0 := cell_of_row w8 _ 0 _ _ _ g8
  have p1 := cell_of_row w8 _ 1 _ _ _ g8
  have p2 := cell_of_row w8 _ 2 _ _ _ g8
  clear hb7 hb8 g8 hw8 CW
  go_upto_region 11 with fail
  rw [← HW8.out]
  go_wp2_with fail
  refine (CT.out _).mono ?_
  rintro e w9 ⟨rfl, rfl⟩
  go_wp2_with fail
  refine CM.out.mono ?_
  rintro e w9 ⟨rfl, pl, hpl, hl9⟩
  have HL9 := Lib.hid hl9
  have HP9 := Lib.hid hpl
  have CC := Lib.hid (chp_R (gW := gW) (id := 0) (wz := true) (pg := true) HL9.out (by simp) (c := 0) (by decide))
  have g9 := hl9.row (List.mem_cons_self ..)
  have p0 := cell_of_row w9 _ 0 _ _ _ g9
  have p1 := cell_of_row w9 _ 1 _ _ _ g9
  have p2 := cell_of_row w9 _ 2 _ _ _ g9
  clear hl9 hpl g9 CM
  go_wp2_with fail
  refine CC.out.mono ?_
  rintro e w10 ⟨rfl, pr, sl, hpr, hl10⟩
  have HL10 := Lib.hid hl10
  have CR := Lib.hid (rec_R (gW := gW) (id := 0) (wz := true) (pg := true) HL10.out (by simp) HP9.out hpr (c := 0) (by decide))
  have g10 := hl10.row (List.mem_cons_self ..)
  have p0 := cell_of_row w10 _ 0 _ _ _ g10
  have p1 := cell_of_row w10 _ 1 _ _ _ g10
  have p2 := cell_of_row w10 _ 2 _ _ _ g10
  clear hl10 hpr g10 CC
  go_wp2_with fail
  refine CR.out.mono ?_
  rintro e w11 ⟨rfl, hb11⟩
  have HF := Lib.hid (HB2.out.trans (hb11.mono HB2.out.size))
  clear hb11 CR p0 p1 p2
  go_wp2_with fail
  go_ret
  exact ⟨rfl, HF.out⟩

set_option maxRecDepth 100000 in
set_option maxHeartbeats 4000000 in
theorem moves_1f (id0 to0 t4 : Int) (w : World) (hid : I64 id0) (hto : I64 to0) (hid4 : id0 % 4 = 1) (ht4 : to0 % 4 = t4) (ht : 0 ≤ t4 ∧ t4 < 4) :
    Calls Tryz.prog 7 #[.int .i64 id0, .int .i64 to0, .bool true] w fun e w' => e = .returned (.bool true) ∧ Below w.heap.size w w' := by
  have CF := Lib.hid (wfirst_c w)
  have CI := Lib.hid (fun W => onumber_c id0 4 W hid (by omega) (by omega))
  rw [hid4] at CI
  have CT := Lib.hid (fun W => onumber_c to0 4 W hto (by omega) (by omega))
  rw [ht4] at CT
  have hne3 : ((t4 - 1 == 3) = false) := by simp; omega
  have HPL := Lib.hid (show PlcR (t4 - 1) by unfold PlcR; omega)
  clear hid hto hid4 ht4
  go_enter Tryz.func7, Tryz.ntmps7
  go_wp2_with fail
  refine CF.out.mono ?_
  rintro e w1 ⟨rfl, hb1⟩
  have HB1 := Lib.hid hb1
  clear hb1 CF
  go_wp2_with fail
  refine (CI.out _).mono ?_
  rintro e w2 ⟨rfl, rfl⟩
  have CRM := Lib.hid (room_c w1)
  go_wp2_with fail
  refine CRM.out.mono ?_
  rintro e w2 ⟨rfl, hin, hb2⟩
  have CN := Lib.hid (wnew_c w2 hin)
  have HB2 := Lib.hid (HB1.out.trans (hb2.mono HB1.out.size))
  clear hin hb2 CRM
  go_wp2_with fail
  refine CN.out.mono ?_
  rintro e w3 ⟨gW, a, m, rfl, hl3⟩
  have HL3 := Lib.hid hl3
  clear hl3 CN
  have HL := Lib.hid (show LS w2.heap.size w2 w3 a m (roomP 32 1 (-1) []) 3 [WK gW a] from HL3.out)
  have CW := Lib.hid (who_W (gW := gW) (o := 1) HL.out (by simp) ⟨by omega, by omega⟩ (x := { obR1 with flags := 32 }) rfl (wz := false) (pg := false) (by decide) (by decide))
  go_wp2_with fail
  refine CW.out.mono ?_
  rintro e w7 ⟨rfl, hb7⟩
  obtain ⟨w8, hw8⟩ : ∃ w8, w8 = w7.alloc (.cells #[.int .i64 1, .bool false, .bool false] 71) := ⟨_, rfl⟩
  have hb8 : Below w7.heap.size w7 w8 := by rw [hw8]; exact (Below.refl _ _).alloc (Nat.le_refl _) _
  have g8 : w8.heap[w7.heap.size]? = some (.cells #[.int .i64 1, .bool false, .bool false] 71 (0, 0)) := by rw [hw8]; exact heap_alloc_new w7 _
  have HL8 := Lib.hid ((HL.out.below hb7).push hb8 (Nat.le_refl _) g8)
  have HW8 := Lib.hid hw8
  have CM := Lib.hid (move_R (gW := gW) (id := 1) (wz := false) (pg := false) HL8.out (by simp) HPL.out (c := 3) (by decide))
  have p0 := cell_of_row w8 _ 0 _ _ _ g8
  have p1 := cell_of_row w8 _ 1 _ _ _ g8
  have p2 := cell_of_row w8 _ 2 _ _ _ g8
  clear hb7 hb8 g8 hw8 CW
  go_upto_region 11 with fail
  rw [← HW8.out]
  go_wp2_with fail
  refine (CT.out _).mono ?_
  rintro e w9 ⟨rfl, rfl⟩
  go_wp2_with fail
  refine CM.out.mono ?_
  rintro e w9 ⟨rfl, pl, hpl, hl9⟩
  have HL9 := Lib.hid hl9
  have HP9 := Lib.hid hpl
  have CC := Lib.hid (chp_R (gW := gW) (id := 1) (wz := false) (pg := false) HL9.out (by simp) (c := 3) (by decide))
  have g9 := hl9.row (List.mem_cons_self ..)
  have p0 := cell_of_row w9 _ 0 _ _ _ g9
  have p1 := cell_of_row w9 _ 1 _ _ _ g9
  have p2 := cell_of_row w9 _ 2 _ _ _ g9
  clear hl9 hpl g9 CM
  go_wp2_with fail
  refine CC.out.mono ?_
  rintro e w10 ⟨rfl, pr, sl, hpr, hl10⟩
  have HL10 := Lib.hid hl10
  have CR := Lib.hid (rec_R (gW := gW) (id := 1) (wz := false) (pg := false) HL10.out (by simp) HP9.out hpr (c := 3) (by decide))
  have g10 := hl10.row (List.mem_cons_self ..)
  have p0 := cell_of_row w10 _ 0 _ _ _ g10
  have p1 := cell_of_row w10 _ 1 _ _ _ g10
  have p2 := cell_of_row w10 _ 2 _ _ _ g10
  clear hl10 hpr g10 CC
  go_wp2_with fail
  refine CR.out.mono ?_
  rintro e w11 ⟨rfl, hb11⟩
  have HF := Lib.hid (HB2.out.trans (hb11.mono HB2.out.size))
  clear hb11 CR p0 p1 p2
  go_wp2_with fail
  go_ret
  exact ⟨rfl, HF.out⟩

set_option maxRecDepth 100000 in
set_option maxHeartbeats 4000000 in
theorem moves_1n (id0 to0 t4 : Int) (w : World) (hid : I64 id0) (hto : I64 to0) (hid4 : id0 % 4 = 1) (ht4 : to0 % 4 = t4) (ht : 0 ≤ t4 ∧ t4 < 4) :
    Calls Tryz.prog 7 #[.int .i64 id0, .int .i64 to0, .bool false] w fun e w' => e = .returned (.bool true) ∧ Below w.heap.size w w' := by
  have CF := Lib.hid (wfirst_c w)
  have CI := Lib.hid (fun W => onumber_c id0 4 W hid (by omega) (by omega))
  rw [hid4] at CI
  have CT := Lib.hid (fun W => onumber_c to0 4 W hto (by omega) (by omega))
  rw [ht4] at CT
  have hne3 : ((t4 - 1 == 3) = false) := by simp; omega
  have HPL := Lib.hid (show PlcR (t4 - 1) by unfold PlcR; omega)
  clear hid hto hid4 ht4
  go_enter Tryz.func7, Tryz.ntmps7
  go_wp2_with fail
  refine CF.out.mono ?_
  rintro e w1 ⟨rfl, hb1⟩
  have HB1 := Lib.hid hb1
  clear hb1 CF
  go_wp2_with fail
  refine (CI.out _).mono ?_
  rintro e w2 ⟨rfl, rfl⟩
  have CRM := Lib.hid (room_c w1)
  go_wp2_with fail
  refine CRM.out.mono ?_
  rintro e w2 ⟨rfl, hin, hb2⟩
  have CN := Lib.hid (wnew_c w2 hin)
  have HB2 := Lib.hid (HB1.out.trans (hb2.mono HB1.out.size))
  clear hin hb2 CRM
  go_wp2_with fail
  refine CN.out.mono ?_
  rintro e w3 ⟨gW, a, m, rfl, hl3⟩
  have HL3 := Lib.hid hl3
  clear hl3 CN
  have CWZ := Lib.hid (who_W (gW := gW) (o := 0) HL3.out (by simp) ⟨by omega, by omega⟩ (x := obR0) rfl (wz := true) (pg := true) (by decide) (by decide))
  go_wp2_with fail
  refine CWZ.out.mono ?_
  rintro e w4 ⟨rfl, hb4⟩
  have HL4 := Lib.hid (HL3.out.below hb4)
  clear hb4 CWZ
  have CV := Lib.hid (show ∀ W, Calls Tryz.prog 24 #[.int .i64 0] W (fun e w' => e = .returned (.agg #[.int .i64 0, .int .i64 0, .string ⟨#[]⟩, .slice none 0 0]) ∧ Below W.heap.size W w') from fun W => valI_c 0 W)
  go_wp2_with fail
  refine (CV.out _).mono ?_
  rintro e w5 ⟨rfl, hb5⟩
  have HL5 := Lib.hid (HL4.out.below hb5)
  clear hb5
  have CP := Lib.hid (putf_R (gW := gW) HL5.out (by simp))
  go_wp2_with fail
  refine CP.out.mono ?_
  rintro e w6 ⟨rfl, hl6⟩
  have HL := Lib.hid hl6
  clear hl6 CP
  have CW := Lib.hid (who_W (gW := gW) (o := 1) HL.out (by simp) ⟨by omega, by omega⟩ (x := { obR1 with flags := 0 }) rfl (wz := false) (pg := false) (by decide) (by decide))
  go_wp2_with fail
  refine CW.out.mono ?_
  rintro e w7 ⟨rfl, hb7⟩
  obtain ⟨w8, hw8⟩ : ∃ w8, w8 = w7.alloc (.cells #[.int .i64 1, .bool false, .bool false] 71) := ⟨_, rfl⟩
  have hb8 : Below w7.heap.size w7 w8 := by rw [hw8]; exact (Below.refl _ _).alloc (Nat.le_refl _) _
  have g8 : w8.heap[w7.heap.size]? = some (.cells #[.int .i64 1, .bool false, .bool false] 71 (0, 0)) := by rw [hw8]; exact heap_alloc_new w7 _
  have HL8 := Lib.hid ((HL.out.below hb7).push hb8 (Nat.le_refl _) g8)
  have HW8 := Lib.hid hw8
  have CM := Lib.hid (move_R (gW := gW) (id := 1) (wz := false) (pg := false) HL8.out (by simp) HPL.out (c := 3) (by decide))
  have p0 := cell_of_row w8 _ 0 _ _ _ g8
  have p1 := cell_of_row w8 _ 1 _ _ _ g8
  have p2 := cell_of_row w8 _ 2 _ _ _ g8
  clear hb7 hb8 g8 hw8 CW
  go_upto_region 11 with fail
  rw [← HW8.out]
  go_wp2_with fail
  refine (CT.out _).mono ?_
  rintro e w9 ⟨rfl, rfl⟩
  go_wp2_with fail
  refine CM.out.mono ?_
  rintro e w9 ⟨rfl, pl, hpl, hl9⟩
  have HL9 := Lib.hid hl9
  have HP9 := Lib.hid hpl
  have CC := Lib.hid (chp_R (gW := gW) (id := 1) (wz := false) (pg := false) HL9.out (by simp) (c := 3) (by decide))
  have g9 := hl9.row (List.mem_cons_self ..)
  have p0 := cell_of_row w9 _ 0 _ _ _ g9
  have p1 := cell_of_row w9 _ 1 _ _ _ g9
  have p2 := cell_of_row w9 _ 2 _ _ _ g9
  clear hl9 hpl g9 CM
  go_wp2_with fail
  refine CC.out.mono ?_
  rintro e w10 ⟨rfl, pr, sl, hpr, hl10⟩
  have HL10 := Lib.hid hl10
  have CR := Lib.hid (rec_R (gW := gW) (id := 1) (wz := false) (pg := false) HL10.out (by simp) HP9.out hpr (c := 3) (by decide))
  have g10 := hl10.row (List.mem_cons_self ..)
  have p0 := cell_of_row w10 _ 0 _ _ _ g10
  have p1 := cell_of_row w10 _ 1 _ _ _ g10
  have p2 := cell_of_row w10 _ 2 _ _ _ g10
  clear hl10 hpr g10 CC
  go_wp2_with fail
  refine CR.out.mono ?_
  rintro e w11 ⟨rfl, hb11⟩
  have HF := Lib.hid (HB2.out.trans (hb11.mono HB2.out.size))
  clear hb11 CR p0 p1 p2
  go_wp2_with fail
  go_ret
  exact ⟨rfl, HF.out⟩
end Go.Proofs.YtnphgcbknfmapaaGreatDoor
namespace Go.Proofs.YtnphgcbknfmapaaGreatDoor
open Go.RowKit Go.Lib
set_option linter.unusedVariables false
set_option linter.unusedSimpArgs false

set_option maxRecDepth 100000 in
set_option maxHeartbeats 4000000 in
theorem moves_2f (id0 to0 t4 : Int) (w : World) (hid : I64 id0) (hto : I64 to0) (hid4 : id0 % 4 = 2) (ht4 : to0 % 4 = t4) (ht : 0 ≤ t4 ∧ t4 < 4) :
    Calls Tryz.prog 7 #[.int .i64 id0, .int .i64 to0, .bool true] w fun e w' => e = .returned (.bool true) ∧ Below w.heap.size w w' := by
  have CF := Lib.hid (wfirst_c w)
  have CI := Lib.hid (fun W => onumber_c id0 4 W hid (by omega) (by omega))
  rw [hid4] at CI
  have CT := Lib.hid (fun W => onumber_c to0 4 W hto (by omega) (by omega))
  rw [ht4] at CT
  have hne3 : ((t4 - 1 == 3) = false) := by simp; omega
  have HPL := Lib.hid (show PlcR (t4 - 1) by unfold PlcR; omega)
  clear hid hto hid4 ht4
  go_enter Tryz.func7, Tryz.ntmps7
  go_wp2_with fail
  refine CF.out.mono ?_
  rintro e w1 ⟨rfl, hb1⟩
  have HB1 := Lib.hid hb1
  clear hb1 CF
  go_wp2_with fail
  refine (CI.out _).mono ?_
  rintro e w2 ⟨rfl, rfl⟩
  have CRM := Lib.hid (room_c w1)
  go_wp2_with fail
  refine CRM.out.mono ?_
  rintro e w2 ⟨rfl, hin, hb2⟩
  have CN := Lib.hid (wnew_c w2 hin)
  have HB2 := Lib.hid (HB1.out.trans (hb2.mono HB1.out.size))
  clear hin hb2 CRM
  go_wp2_with fail
  refine CN.out.mono ?_
  rintro e w3 ⟨gW, a, m, rfl, hl3⟩
  have HL3 := Lib.hid hl3
  clear hl3 CN
  have HL := Lib.hid (show LS w2.heap.size w2 w3 a m (roomP 32 1 (-1) []) 3 [WK gW a] from HL3.out)
  have CW := Lib.hid (who_W (gW := gW) (o := 2) HL.out (by simp) ⟨by omega, by omega⟩ (x := obR2) rfl (wz := false) (pg := true) (by decide) (by decide))
  go_wp2_with fail
  refine CW.out.mono ?_
  rintro e w7 ⟨rfl, hb7⟩
  obtain ⟨w8, hw8⟩ : ∃ w8, w8 = w7.alloc (.cells #[.int .i64 2, .bool false, .bool true] 71) := ⟨_, rfl⟩
  have hb8 : Below w7.heap.size w7 w8 := by rw [hw8]; exact (Below.refl _ _).alloc (Nat.le_refl _) _
  have g8 : w8.heap[w7.heap.size]? = some (.cells #[.int .i64 2, .bool false, .bool true] 71 (0, 0)) := by rw [hw8]; exact heap_alloc_new w7 _
  have HL8 := Lib.hid ((HL.out.below hb7).push hb8 (Nat.le_refl _) g8)
  have HW8 := Lib.hid hw8
  have CM := Lib.hid (move_R (gW := gW) (id := 2) (wz := false) (pg := true) HL8.out (by simp) HPL.out (c := 3) (by decide))
  have p0 := cell_of_row w8 _ 0 _ _ _ g8
  have p1 := cell_of_row w8 _ 1 _ _ _ g8
  have p2 := cell_of_row w8 _ 2 _ _ _ g8
  clear hb7 hb8 g8 hw8 CW
  go_upto_region 11 with fail
  rw [← HW8.out]
  go_wp2_with fail
  refine (CT.out _).mono ?_
  rintro e w9 ⟨rfl, rfl⟩
  go_wp2_with fail
  refine CM.out.mono ?_
  rintro e w9 ⟨rfl, pl, hpl, hl9⟩
  have HL9 := Lib.hid hl9
  have HP9 := Lib.hid hpl
  have CC := Lib.hid (chp_R (gW := gW) (id := 2) (wz := false) (pg := true) HL9.out (by simp) (c := 3) (by decide))
  have g9 := hl9.row (List.mem_cons_self ..)
  have p0 := cell_of_row w9 _ 0 _ _ _ g9
  have p1 := cell_of_row w9 _ 1 _ _ _ g9
  have p2 := cell_of_row w9 _ 2 _ _ _ g9
  clear hl9 hpl g9 CM
  go_wp2_with fail
  refine CC.out.mono ?_
  rintro e w10 ⟨rfl, pr, sl, hpr, hl10⟩
  have HL10 := Lib.hid hl10
  have CR := Lib.hid (rec_R (gW := gW) (id := 2) (wz := false) (pg := true) HL10.out (by simp) HP9.out hpr (c := 3) (by decide))
  have g10 := hl10.row (List.mem_cons_self ..)
  have p0 := cell_of_row w10 _ 0 _ _ _ g10
  have p1 := cell_of_row w10 _ 1 _ _ _ g10
  have p2 := cell_of_row w10 _ 2 _ _ _ g10
  clear hl10 hpr g10 CC
  go_wp2_with fail
  refine CR.out.mono ?_
  rintro e w11 ⟨rfl, hb11⟩
  have HF := Lib.hid (HB2.out.trans (hb11.mono HB2.out.size))
  clear hb11 CR p0 p1 p2
  go_wp2_with fail
  go_ret
  exact ⟨rfl, HF.out⟩

set_option maxRecDepth 100000 in
set_option maxHeartbeats 4000000 in
theorem moves_2n (id0 to0 t4 : Int) (w : World) (hid : I64 id0) (hto : I64 to0) (hid4 : id0 % 4 = 2) (ht4 : to0 % 4 = t4) (ht : 0 ≤ t4 ∧ t4 < 4) :
    Calls Tryz.prog 7 #[.int .i64 id0, .int .i64 to0, .bool false] w fun e w' => e = .returned (.bool true) ∧ Below w.heap.size w w' := by
  have CF := Lib.hid (wfirst_c w)
  have CI := Lib.hid (fun W => onumber_c id0 4 W hid (by omega) (by omega))
  rw [hid4] at CI
  have CT := Lib.hid (fun W => onumber_c to0 4 W hto (by omega) (by omega))
  rw [ht4] at CT
  have hne3 : ((t4 - 1 == 3) = false) := by simp; omega
  have HPL := Lib.hid (show PlcR (t4 - 1) by unfold PlcR; omega)
  clear hid hto hid4 ht4
  go_enter Tryz.func7, Tryz.ntmps7
  go_wp2_with fail
  refine CF.out.mono ?_
  rintro e w1 ⟨rfl, hb1⟩
  have HB1 := Lib.hid hb1
  clear hb1 CF
  go_wp2_with fail
  refine (CI.out _).mono ?_
  rintro e w2 ⟨rfl, rfl⟩
  have CRM := Lib.hid (room_c w1)
  go_wp2_with fail
  refine CRM.out.mono ?_
  rintro e w2 ⟨rfl, hin, hb2⟩
  have CN := Lib.hid (wnew_c w2 hin)
  have HB2 := Lib.hid (HB1.out.trans (hb2.mono HB1.out.size))
  clear hin hb2 CRM
  go_wp2_with fail
  refine CN.out.mono ?_
  rintro e w3 ⟨gW, a, m, rfl, hl3⟩
  have HL3 := Lib.hid hl3
  clear hl3 CN
  have CWZ := Lib.hid (who_W (gW := gW) (o := 0) HL3.out (by simp) ⟨by omega, by omega⟩ (x := obR0) rfl (wz := true) (pg := true) (by decide) (by decide))
  go_wp2_with fail
  refine CWZ.out.mono ?_
  rintro e w4 ⟨rfl, hb4⟩
  have HL4 := Lib.hid (HL3.out.below hb4)
  clear hb4 CWZ
  have CV := Lib.hid (show ∀ W, Calls Tryz.prog 24 #[.int .i64 0] W (fun e w' => e = .returned (.agg #[.int .i64 0, .int .i64 0, .string ⟨#[]⟩, .slice none 0 0]) ∧ Below W.heap.size W w') from fun W => valI_c 0 W)
  go_wp2_with fail
  refine (CV.out _).mono ?_
  rintro e w5 ⟨rfl, hb5⟩
  have HL5 := Lib.hid (HL4.out.below hb5)
  clear hb5
  have CP := Lib.hid (putf_R (gW := gW) HL5.out (by simp))
  go_wp2_with fail
  refine CP.out.mono ?_
  rintro e w6 ⟨rfl, hl6⟩
  have HL := Lib.hid hl6
  clear hl6 CP
  have CW := Lib.hid (who_W (gW := gW) (o := 2) HL.out (by simp) ⟨by omega, by omega⟩ (x := obR2) rfl (wz := false) (pg := true) (by decide) (by decide))
  go_wp2_with fail
  refine CW.out.mono ?_
  rintro e w7 ⟨rfl, hb7⟩
  obtain ⟨w8, hw8⟩ : ∃ w8, w8 = w7.alloc (.cells #[.int .i64 2, .bool false, .bool true] 71) := ⟨_, rfl⟩
  have hb8 : Below w7.heap.size w7 w8 := by rw [hw8]; exact (Below.refl _ _).alloc (Nat.le_refl _) _
  have g8 : w8.heap[w7.heap.size]? = some (.cells #[.int .i64 2, .bool false, .bool true] 71 (0, 0)) := by rw [hw8]; exact heap_alloc_new w7 _
  have HL8 := Lib.hid ((HL.out.below hb7).push hb8 (Nat.le_refl _) g8)
  have HW8 := Lib.hid hw8
  have CM := Lib.hid (move_R (gW := gW) (id := 2) (wz := false) (pg := true) HL8.out (by simp) HPL.out (c := 3) (by decide))
  have p0 := cell_of_row w8 _ 0 _ _ _ g8
  have p1 := cell_of_row w8 _ 1 _ _ _ g8
  have p2 := cell_of_row w8 _ 2 _ _ _ g8
  clear hb7 hb8 g8 hw8 CW
  go_upto_region 11 with fail
  rw [← HW8.out]
  go_wp2_with fail
  refine (CT.out _).mono ?_
  rintro e w9 ⟨rfl, rfl⟩
  go_wp2_with fail
  refine CM.out.mono ?_
  rintro e w9 ⟨rfl, pl, hpl, hl9⟩
  have HL9 := Lib.hid hl9
  have HP9 := Lib.hid hpl
  have CC := Lib.hid (chp_R (gW := gW) (id := 2) (wz := false) (pg := true) HL9.out (by simp) (c := 3) (by decide))
  have g9 := hl9.row (List.mem_cons_self ..)
  have p0 := cell_of_row w9 _ 0 _ _ _ g9
  have p1 := cell_of_row w9 _ 1 _ _ _ g9
  have p2 := cell_of_row w9 _ 2 _ _ _ g9
  clear hl9 hpl g9 CM
  go_wp2_with fail
  refine CC.out.mono ?_
  rintro e w10 ⟨rfl, pr, sl, hpr, hl10⟩
  have HL10 := Lib.hid hl10
  have CR := Lib.hid (rec_R (gW := gW) (id := 2) (wz := false) (pg := true) HL10.out (by simp) HP9.out hpr (c := 3) (by decide))
  have g10 := hl10.row (List.mem_cons_self ..)
  have p0 := cell_of_row w10 _ 0 _ _ _ g10
  have p1 := cell_of_row w10 _ 1 _ _ _ g10
  have p2 := cell_of_row w10 _ 2 _ _ _ g10
  clear hl10 hpr g10 CC
  go_wp2_with fail
  refine CR.out.mono ?_
  rintro e w11 ⟨rfl, hb11⟩
  have HF := Lib.hid (HB2.out.trans (hb11.mono HB2.out.size))
  clear hb11 CR p0 p1 p2
  go_wp2_with fail
  go_ret
  exact ⟨rfl, HF.out⟩

set_option maxRecDepth 100000 in
set_option maxHeartbeats 4000000 in
theorem moves_3f (id0 to0 t4 : Int) (w : World) (hid : I64 id0) (hto : I64 to0) (hid4 : id0 % 4 = 3) (ht4 : to0 % 4 = t4) (ht : 0 ≤ t4 ∧ t4 < 4) :
    Calls Tryz.prog 7 #[.int .i64 id0, .int .i64 to0, .bool true] w fun e w' => e = .returned (.bool true) ∧ Below w.heap.size w w' := by
  have CF := Lib.hid (wfirst_c w)
  have CI := Lib.hid (fun W => onumber_c id0 4 W hid (by omega) (by omega))
  rw [hid4] at CI
  have CT := Lib.hid (fun W => onumber_c to0 4 W hto (by omega) (by omega))
  rw [ht4] at CT
  have hne3 : ((t4 - 1 == 3) = false) := by simp; omega
  have HPL := Lib.hid (show PlcR (t4 - 1) by unfold PlcR; omega)
  clear hid hto hid4 ht4
  go_enter Tryz.func7, Tryz.ntmps7
  go_wp2_with fail
  refine CF.out.mono ?_
  rintro e w1 ⟨rfl, hb1⟩
  have HB1 := Lib.hid hb1
  clear hb1 CF
  go_wp2_with fail
  refine (CI.out _).mono ?_
  rintro e w2 ⟨rfl, rfl⟩
  have CRM := Lib.hid (room_c w1)
  go_wp2_with fail
  refine CRM.out.mono ?_
  rintro e w2 ⟨rfl, hin, hb2⟩
  have CN := Lib.hid (wnew_c w2 hin)
  have HB2 := Lib.hid (HB1.out.trans (hb2.mono HB1.out.size))
  clear hin hb2 CRM
  go_wp2_with fail
  refine CN.out.mono ?_
  rintro e w3 ⟨gW, a, m, rfl, hl3⟩
  have HL3 := Lib.hid hl3
  clear hl3 CN
  have HL := Lib.hid (show LS w2.heap.size w2 w3 a m (roomP 32 1 (-1) []) 3 [WK gW a] from HL3.out)
  have CW := Lib.hid (who_W (gW := gW) (o := 3) HL.out (by simp) ⟨by omega, by omega⟩ (x := obR3) rfl (wz := false) (pg := false) (by decide) (by decide))
  go_wp2_with fail
  refine CW.out.mono ?_
  rintro e w7 ⟨rfl, hb7⟩
  obtain ⟨w8, hw8⟩ : ∃ w8, w8 = w7.alloc (.cells #[.int .i64 3, .bool false, .bool false] 71) := ⟨_, rfl⟩
  have hb8 : Below w7.heap.size w7 w8 := by rw [hw8]; exact (Below.refl _ _).alloc (Nat.le_refl _) _
  have g8 : w8.heap[w7.heap.size]? = some (.cells #[.int .i64 3, .bool false, .bool false] 71 (0, 0)) := by rw [hw8]; exact heap_alloc_new w7 _
  have HL8 := Lib.hid ((HL.out.below hb7).push hb8 (Nat.le_refl _) g8)
  have HW8 := Lib.hid hw8
  have CM := Lib.hid (move_R (gW := gW) (id := 3) (wz := false) (pg := false) HL8.out (by simp) HPL.out (c := 0) (by decide))
  have p0 := cell_of_row w8 _ 0 _ _ _ g8
  have p1 := cell_of_row w8 _ 1 _ _ _ g8
  have p2 := cell_of_row w8 _ 2 _ _ _ g8
  clear hb7 hb8 g8 hw8 CW
  go_upto_region 11 with fail
  rw [← HW8.out]
  go_wp2_with fail
  refine (CT.out _).mono ?_
  rintro e w9 ⟨rfl, rfl⟩
  go_wp2_with fail
  refine CM.out.mono ?_
  rintro e w9 ⟨rfl, pl, hpl, hl9⟩
  have HL9 := Lib.hid hl9
  have HP9 := Lib.hid hpl
  have CC := Lib.hid (chp_R (gW := gW) (id := 3) (wz := false) (pg := false) HL9.out (by simp) (c := 0) (by decide))
  have g9 := hl9.row (List.mem_cons_self ..)
  have p0 := cell_of_row w9 _ 0 _ _ _ g9
  have p1 := cell_of_row w9 _ 1 _ _ _ g9
  have p2 := cell_of_row w9 _ 2 _ _ _ g9
  clear hl9 hpl g9 CM
  go_wp2_with fail
  refine CC.out.mono ?_
  rintro e w10 ⟨rfl, pr, sl, hpr, hl10⟩
  have HL10 := Lib.hid hl10
  have CR := Lib.hid (rec_R (gW := gW) (id := 3) (wz := false) (pg := false) HL10.out (by simp) HP9.out hpr (c := 0) (by decide))
  have g10 := hl10.row (List.mem_cons_self ..)
  have p0 := cell_of_row w10 _ 0 _ _ _ g10
  have p1 := cell_of_row w10 _ 1 _ _ _ g10
  have p2 := cell_of_row w10 _ 2 _ _ _ g10
  clear hl10 hpr g10 CC
  go_wp2_with fail
  refine CR.out.mono ?_
  rintro e w11 ⟨rfl, hb11⟩
  have HF := Lib.hid (HB2.out.trans (hb11.mono HB2.out.size))
  clear hb11 CR p0 p1 p2
  go_wp2_with fail
  go_ret
  exact ⟨rfl, HF.out⟩

set_option maxRecDepth 100000 in
set_option maxHeartbeats 4000000 in
theorem moves_3n (id0 to0 t4 : Int) (w : World) (hid : I64 id0) (hto : I64 to0) (hid4 : id0 % 4 = 3) (ht4 : to0 % 4 = t4) (ht : 0 ≤ t4 ∧ t4 < 4) :
    Calls Tryz.prog 7 #[.int .i64 id0, .int .i64 to0, .bool false] w fun e w' => e = .returned (.bool true) ∧ Below w.heap.size w w' := by
  have CF := Lib.hid (wfirst_c w)
  have CI := Lib.hid (fun W => onumber_c id0 4 W hid (by omega) (by omega))
  rw [hid4] at CI
  have CT := Lib.hid (fun W => onumber_c to0 4 W hto (by omega) (by omega))
  rw [ht4] at CT
  have hne3 : ((t4 - 1 == 3) = false) := by simp; omega
  have HPL := Lib.hid (show PlcR (t4 - 1) by unfold PlcR; omega)
  clear hid hto hid4 ht4
  go_enter Tryz.func7, Tryz.ntmps7
  go_wp2_with fail
  refine CF.out.mono ?_
  rintro e w1 ⟨rfl, hb1⟩
  have HB1 := Lib.hid hb1
  clear hb1 CF
  go_wp2_with fail
  refine (CI.out _).mono ?_
  rintro e w2 ⟨rfl, rfl⟩
  have CRM := Lib.hid (room_c w1)
  go_wp2_with fail
  refine CRM.out.mono ?_
  rintro e w2 ⟨rfl, hin, hb2⟩
  have CN := Lib.hid (wnew_c w2 hin)
  have HB2 := Lib.hid (HB1.out.trans (hb2.mono HB1.out.size))
  clear hin hb2 CRM
  go_wp2_with fail
  refine CN.out.mono ?_
  rintro e w3 ⟨gW, a, m, rfl, hl3⟩
  have HL3 := Lib.hid hl3
  clear hl3 CN
  have CWZ := Lib.hid (who_W (gW := gW) (o := 0) HL3.out (by simp) ⟨by omega, by omega⟩ (x := obR0) rfl (wz := true) (pg := true) (by decide) (by decide))
  go_wp2_with fail
  refine CWZ.out.mono ?_
  rintro e w4 ⟨rfl, hb4⟩
  have HL4 := Lib.hid (HL3.out.below hb4)
  clear hb4 CWZ
  have CV := Lib.hid (show ∀ W, Calls Tryz.prog 24 #[.int .i64 0] W (fun e w' => e = .returned (.agg #[.int .i64 0, .int .i64 0, .string ⟨#[]⟩, .slice none 0 0]) ∧ Below W.heap.size W w') from fun W => valI_c 0 W)
  go_wp2_with fail
  refine (CV.out _).mono ?_
  rintro e w5 ⟨rfl, hb5⟩
  have HL5 := Lib.hid (HL4.out.below hb5)
  clear hb5
  have CP := Lib.hid (putf_R (gW := gW) HL5.out (by simp))
  go_wp2_with fail
  refine CP.out.mono ?_
  rintro e w6 ⟨rfl, hl6⟩
  have HL := Lib.hid hl6
  clear hl6 CP
  have CW := Lib.hid (who_W (gW := gW) (o := 3) HL.out (by simp) ⟨by omega, by omega⟩ (x := obR3) rfl (wz := false) (pg := false) (by decide) (by decide))
  go_wp2_with fail
  refine CW.out.mono ?_
  rintro e w7 ⟨rfl, hb7⟩
  obtain ⟨w8, hw8⟩ : ∃ w8, w8 = w7.alloc (.cells #[.int .i64 3, .bool false, .bool false] 71) := ⟨_, rfl⟩
  have hb8 : Below w7.heap.size w7 w8 := by rw [hw8]; exact (Below.refl _ _).alloc (Nat.le_refl _) _
  have g8 : w8.heap[w7.heap.size]? = some (.cells #[.int .i64 3, .bool false, .bool false] 71 (0, 0)) := by rw [hw8]; exact heap_alloc_new w7 _
  have HL8 := Lib.hid ((HL.out.below hb7).push hb8 (Nat.le_refl _) g8)
  have HW8 := Lib.hid hw8
  have CM := Lib.hid (move_R (gW := gW) (id := 3) (wz := false) (pg := false) HL8.out (by simp) HPL.out (c := 0) (by decide))
  have p0 := cell_of_row w8 _ 0 _ _ _ g8
  have p1 := cell_of_row w8 _ 1 _ _ _ g8
  have p2 := cell_of_row w8 _ 2 _ _ _ g8
  clear hb7 hb8 g8 hw8 CW
  go_upto_region 11 with fail
  rw [← HW8.out]
  go_wp2_with fail
  refine (CT.out _).mono ?_
  rintro e w9 ⟨rfl, rfl⟩
  go_wp2_with fail
  refine CM.out.mono ?_
  rintro e w9 ⟨rfl, pl, hpl, hl9⟩
  have HL9 := Lib.hid hl9
  have HP9 := Lib.hid hpl
  have CC := Lib.hid (chp_R (gW := gW) (id := 3) (wz := false) (pg := false) HL9.out (by simp) (c := 3) (by decide))
  have g9 := hl9.row (List.mem_cons_self ..)
  have p0 := cell_of_row w9 _ 0 _ _ _ g9
  have p1 := cell_of_row w9 _ 1 _ _ _ g9
  have p2 := cell_of_row w9 _ 2 _ _ _ g9
  clear hl9 hpl g9 CM
  go_wp2_with fail
  refine CC.out.mono ?_
  rintro e w10 ⟨rfl, pr, sl, hpr, hl10⟩
  have HL10 := Lib.hid hl10
  have CR := Lib.hid (rec_R (gW := gW) (id := 3) (wz := false) (pg := false) HL10.out (by simp) HP9.out hpr (c := 0) (by decide))
  have g10 := hl10.row (List.mem_cons_self ..)
  have p0 := cell_of_row w10 _ 0 _ _ _ g10
  have p1 := cell_of_row w10 _ 1 _ _ _ g10
  have p2 := cell_of_row w10 _ 2 _ _ _ g10
  clear hl10 hpr g10 CC
  go_wp2_with fail
  refine CR.out.mono ?_
  rintro e w11 ⟨rfl, hb11⟩
  have HF := Lib.hid (HB2.out.trans (hb11.mono HB2.out.size))
  clear hb11 CR p0 p1 p2
  go_wp2_with fail
  go_ret
  exact ⟨rfl, HF.out⟩
end Go.Proofs.YtnphgcbknfmapaaGreatDoor
namespace Go.Proofs.YtnphgcbknfmapaaGreatDoor
open Go.RowKit Go.Lib
set_option linter.unusedVariables false

theorem worldMoves_c (id0 to0 : Int) (fert : Bool) (w : World) (hid : I64 id0) (hto : I64 to0) :
    Calls Tryz.prog 7 #[.int .i64 id0, .int .i64 to0, .bool fert] w fun e w' => e = .returned (.bool true) ∧ Below w.heap.size w w' := by
  have h1 := Int.emod_nonneg id0 (show (4 : Int) ≠ 0 by omega)
  have h2 := Int.emod_lt_of_pos id0 (show (0 : Int) < 4 by omega)
  have h3 := Int.emod_nonneg to0 (show (4 : Int) ≠ 0 by omega)
  have h4 := Int.emod_lt_of_pos to0 (show (0 : Int) < 4 by omega)
  have hc : id0 % 4 = 0 ∨ id0 % 4 = 1 ∨ id0 % 4 = 2 ∨ id0 % 4 = 3 := by omega
  cases fert
  · rcases hc with h | h | h | h
    · exact moves_0n id0 to0 _ w hid hto h rfl ⟨h3, h4⟩
    · exact moves_1n id0 to0 _ w hid hto h rfl ⟨h3, h4⟩
    · exact moves_2n id0 to0 _ w hid hto h rfl ⟨h3, h4⟩
    · exact moves_3n id0 to0 _ w hid hto h rfl ⟨h3, h4⟩
  · rcases hc with h | h | h | h
    · exact moves_0f id0 to0 _ w hid hto h rfl ⟨h3, h4⟩
    · exact moves_1f id0 to0 _ w hid hto h rfl ⟨h3, h4⟩
    · exact moves_2f id0 to0 _ w hid hto h rfl ⟨h3, h4⟩
    · exact moves_3f id0 to0 _ w hid hto h rfl ⟨h3, h4⟩
end Go.Proofs.YtnphgcbknfmapaaGreatDoor
