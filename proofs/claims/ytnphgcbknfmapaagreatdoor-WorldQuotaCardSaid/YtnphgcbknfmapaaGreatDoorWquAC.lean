/- Contracts of the functions that the statement reaches, and the plain mathematics beneath: several texts joined. -/
import Derived.Shelf.SlIterI.Nil
import Derived.Laws.AppendOwn
import Derived.Deep.LoopGhost
import Derived.WalkSmall
import Derived.Deep.RegionHeld3
import Derived.Laws.Tables
import Derived.Laws.CopyOwn
import Derived.Laws.ResultCell
import Derived.Test.YtnphgcbknfmapaaGreatDoorWquAA
import Derived.Test.YtnphgcbknfmapaaGreatDoorShelf
namespace Go.Proofs.YtnphgcbknfmapaaGreatDoor
open Go.RowKit Go.Lib Go.Maps Go.Sort Go.Shelf
set_option linter.unusedVariables false

theorem sortsI (k : Nat) : AnyZI.SortsIn Tryz.prog Tryz.sortedI_ren Fence.wide k :=
  ⟨fun blk off cap ss W hH hblk hsz => callsIn_wide.2 (Tryz.slices_Sort_int blk off cap ss W hH hblk hsz), fun p cap W => callsIn_wide.2 (Tryz.slices_Sort_int_none p cap W)⟩

theorem ids_sorted {T : List OM} (hs : SortO (obT T)) {ss : List Int} (h : ss.Perm (T.map fun x => x.o.id)) : ss.mergeSort (fun x y => decide (x ≤ y)) = idsO (obT T) := by
  have e : (T.map fun x => x.o.id) = idsO (obT T) := by simp [idsO, obT]
  rw [e] at h
  rw [mergeSort_of_perm_i h]
  apply List.mergeSort_of_pairwise
  rw [sortO_ids] at hs
  exact hs.imp fun h => by simp; omega

set_option maxHeartbeats 1000000 in
theorem ids_c {w : World} {B a m : Nat} {T : List OM} {mx : Int} (h : Tab w B a m T mx) :
    Calls Tryz.prog 137 #[.pointer (some ⟨a, 0, none⟩)] w fun e w' => ∃ v, e = .returned v ∧ w'.ownsRow w.heap.size 3 1 v T.length ((idsO (obT T)).map (Value.int .i64)) ∧ Below w.heap.size w w' := by
  refine (callsIn_wide (n := 6)).1 ?_
  have hown := h.map
  have hbl := hown.lt
  have hmax : Maps.size (DataW.map (datT T)) ≤ maxLen := by rw [datT_size]; have := h.few; unfold maxLen; omega
  have hbytes : Maps.size (DataW.map (datT T)) * 8 ≤ 140737488355328 := by rw [datT_size]; have := h.few; omega
  have hseq : SeqGives Fence.wide 2 Tryz.prog 172 #[.pointer (some ⟨w.heap.size, 0, none⟩)] encZ (fun ss => ss.Perm (intKeys (DataW.map (datT T)))) (Maps.size (DataW.map (datT T))) (w.alloc (.cells #[.map (some m)] 82)) :=
    AnyZI.keys_gives (ρ := Tryz.keysI_ren) { Tryz.keysI with } Fence.wide _ trivial rfl (by omega) w.heap.size m T.length _ _ (by simp) (by simp) (by
      obtain ⟨es, clock, hb, Ft, hs, hD⟩ := hown
      exact ⟨es, clock, (Below.heap_alloc _ _ m hbl).trans hb, Ft, hs, hD⟩)
  have cK : ∀ mb W, CallsIn Fence.wide 5 Tryz.prog 158 #[.map mb] W fun e w' => e = .returned (.func (.func 172) #[] #[.pointer (some ⟨W.heap.size, 0, none⟩)]) ∧ w' = W.alloc (.cells #[.map mb] 82) := fun mb W => AnyZI.keys_in Tryz.keysI Fence.wide 5 trivial rfl mb W
  have cS := AnyZI.sorted_in Tryz.sortedI Fence.wide 5 trivial trivial trivial trivial rfl (by omega) (sortsI _) (enters_of Tryz.func171 (by kernel_rfl) rfl) 172 #[.pointer (some ⟨w.heap.size, 0, none⟩)] trivial (enters_of Tryz.func172 (by kernel_rfl) rfl) _ _ hmax hbytes _ hseq
  change CallsIn _ _ Tryz.prog 157 _ _ _ at cS
  have hfK : Fence.wide.fn 158 := trivial
  have hfS : Fence.wide.fn 157 := trivial
  have c0 := h.c0
  have H := Lib.hid h
  clear h hown hmax hbytes
  refine callsIn_of_wp Tryz.func137 rfl trivial ?_ rfl
  simp only [Tryz.ntmps137, List.size_toArray, List.length_cons, List.length_nil, Nat.reduceAdd, Nat.reduceSub, Array.replicate_succ, Array.replicate_zero, List.push_toArray, List.append_toArray, List.nil_append, List.cons_append]
  gi_wp2_with (first
    | (gi_at_call 158; refine (cK _ _).mono ?_; rintro e w' ⟨rfl, rfl⟩)
    | (gi_at_call 157; refine cS.mono ?_; rintro e w' ⟨v, ss, rfl, hS, hrow, hnil, hb⟩))
  go_ret
  rw [datT_keys] at hS
  have hlen : ss.length = T.length := by rw [hS.length_eq]; simp
  rw [ids_sorted H.out.sort hS, hlen] at hrow
  exact ⟨v, rfl, ownsRow_base_a hrow (by simp), ((Below.refl _ w).alloc (Nat.le_refl _) _).trans (hb.mono (by simp))⟩
end Go.Proofs.YtnphgcbknfmapaaGreatDoor
namespace Go.Proofs.YtnphgcbknfmapaaGreatDoor
open Go.RowKit Go.Lib
set_option linter.unusedVariables false

theorem oint_info : (Tryz.prog.info? 3).map (fun i => (i.zero, i.size, i.bytes)) = some (some (.int .i64 0), 1, 8) := by kernel_rfl
def intsO (l : List Int) : List Value := l.map (Value.int .i64)
theorem intsO_app (a b : List Int) : intsO (a ++ b) = intsO a ++ intsO b := by simp [intsO]
theorem own_keepO {W W' : World} {base e size n : Nat} {v : Value} {xs : List Value} (h : W.ownsRow base e size v n xs) (hb : Below W.heap.size W W') : W'.ownsRow base e size v n xs :=
  ownsRow_same h fun b hk => hb.block b (h.lt b hk).2
theorem own_formO {W : World} {base e size n : Nat} {v : Value} {xs : List Value} (h : W.ownsRow base e size v n xs) : ∃ (A : Option Addr) (C : Nat), v = .slice A n C ∧ n ≤ C ∧ C ≤ maxLen ∧ (A = none → n = 0) ∧ ∀ (j : Nat) (u : Value), xs[j]? = some u → ∃ g, A = some ⟨g, 0, none⟩ ∧ W.cell? ⟨g, j, none⟩ = some u := by
  rcases h.2 with ⟨rfl, h0⟩ | ⟨g, cap, cur, rfl, hb, hh, hn, hm, r⟩
  · subst h0
    have hx : xs = [] := List.eq_nil_of_length_eq_zero (by rw [h.1]; omega)
    subst hx
    exact ⟨none, 0, rfl, Nat.le_refl _, by unfold maxLen; omega, fun _ => rfl, fun j u hu => by simp at hu⟩
  · refine ⟨some ⟨g, 0, none⟩, cap, rfl, hn, hm, (fun e => by cases e), fun j u hu => ⟨g, rfl, ?_⟩⟩
    have h3 := h.cells (g := g) rfl j u hu
    have e : (⟨g, 0, none⟩ : Addr).add j = ⟨g, j, none⟩ := by unfold Addr.add; split <;> simp_all
    rw [e] at h3
    exact h3

/-- The chosen ones' numbers. -/
def accO (T : List OM) (p : OB → Bool) (k : Nat) : List Int := ((T.take k).filter fun x => p x.o).map fun x => x.o.id
theorem accO_yes {T : List OM} {p : OB → Bool} {k : Nat} {x : OM} (h : T[k]? = some x) (hp : p x.o = true) : accO T p (k + 1) = accO T p k ++ [x.o.id] := by
  unfold accO
  rw [List.take_add_one, h]
  simp [List.filter_append, hp]
theorem accO_no {T : List OM} {p : OB → Bool} {k : Nat} {x : OM} (h : T[k]? = some x) (hp : p x.o = false) : accO T p (k + 1) = accO T p k := by
  unfold accO
  rw [List.take_add_one, h]
  simp [List.filter_append, hp]
theorem accO_len (T : List OM) (p : OB → Bool) (k : Nat) : (accO T p k).length ≤ k := by
  unfold accO
  rw [List.length_map]
  exact Nat.le_trans (List.length_filter_le _ _) (List.length_take_le _ _)
theorem accO_all (T : List OM) (p : OB → Bool) : accO T p T.length = ((obT T).filter p).map OB.id := by
  unfold accO obT
  rw [List.take_length, List.filter_map, List.map_map]
  rfl
theorem findT_at {T : List OM} (hs : SortO (obT T)) {k : Nat} {x : OM} (h : T[k]? = some x) : findT T x.o.id = some x := by
  have hm : x ∈ T := List.mem_of_getElem? h
  unfold findT
  unfold SortO obT at hs
  rw [List.pairwise_map] at hs
  clear h
  induction T with
  | nil => cases hm
  | cons y r ih =>
    rw [List.pairwise_cons] at hs
    rw [List.find?_cons]
    rcases List.mem_cons.1 hm with rfl | h
    · simp
    · have := hs.1 x h
      have e : (y.o.id == x.o.id) = false := by simp; omega
      rw [e]
      exact ih hs.2 h

/-- What a choice answers of each object. -/
def AskO (w : World) (T : List OM) (g : Nat) (C : Nat) (p : OB → Bool) : Prop :=
  ∀ (W : World) (x : OM), Below w.heap.size w W → x ∈ T → Calls Tryz.prog g #[.pointer (some ⟨x.g, 0, none⟩), .pointer (some ⟨C, 0, none⟩)] W fun e w' => e = .returned (.bool (p x.o)) ∧ ∃ n, w' = W.drewN n

set_option maxRecDepth 100000 in
set_option maxHeartbeats 2000000 in
theorem those_c {w : World} {B a m : Nat} {T : List OM} {mx : Int} (h : Tab w B a m T mx) (g C : Nat) (p : OB → Bool) (eg : ∀ args w, (callFunc g args).run Tryz.prog w = .ok (.enter g args) w) (hp : AskO w T g C p) :
    Calls Tryz.prog 117 #[.pointer (some ⟨a, 0, none⟩), .func (.func g) #[] #[.pointer (some ⟨C, 0, none⟩)]] w fun e w' => ∃ v, e = .returned v ∧ w'.ownsRow w.heap.size 3 1 v (((obT T).filter p).map OB.id).length (intsO (((obT T).filter p).map OB.id)) ∧ Below w.heap.size w w' := by
  obtain ⟨i0, hi0, hz0, hz1, hz2⟩ := info_parts oint_info
  rw [← accO_all]
  have CI := Lib.hid (ids_c h)
  have H := Lib.hid h
  have HP := Lib.hid hp
  have hfew := h.few
  clear h hp
  go_enter Tryz.func117, Tryz.ntmps117
  go_wp2_with fail
  refine CI.out.mono ?_
  rintro e w1 ⟨v, rfl, hrow, hb1⟩
  obtain ⟨A, c, rfl, hnc, hcm, hA, hcell⟩ := own_formO hrow
  have HB1 := Lib.hid hb1
  have HR := Lib.hid hrow
  have HCL := Lib.hid hcell
  have hs1 := hb1.size
  have hal := H.out.lt a (List.mem_cons_self ..)
  clear hb1 hrow hcell
  go_wp2_with fail
  go_loopg [5, 11] T.length (fun kk ov iv wr => ∃ (V : Value) (k : Nat), V = ov ∧ iv = .int .i64 (k : Int) ∧ k + kk = T.length ∧ wr.ownsRow w1.heap.size 3 1 V (accO T p k).length (intsO (accO T p k)) ∧ Below w1.heap.size w1 wr)
  case atStart => exact ⟨.slice none 0 0, 0, rfl, rfl, by omega, World.ownsRow_nil _ _ _ _, Below.refl _ _⟩
  case round =>
    obtain ⟨V, k, rfl, rfl, hik, hrow, hbr⟩ := hrel
    have hrz := hbr.size
    have hal := accO_len T p k
    by_cases hk : k < T.length
    · obtain ⟨j, rfl⟩ : ∃ j, gk = j + 1 := ⟨gk - 1, by omega⟩
      obtain ⟨x, hx⟩ : ∃ x, T[k]? = some x := ⟨T[k], List.getElem?_eq_some_iff.2 ⟨hk, rfl⟩⟩
      have hxm : x ∈ T := List.mem_of_getElem? hx
      obtain ⟨g1, rfl, hc1⟩ := HCL.out k (.int .i64 x.o.id) (by simp [idsO, obT, hx])
      have hg1 := HR.out.lt g1 rfl
      have hbw : Below w.heap.size w wr := HB1.out.trans (hbr.mono hs1)
      have ht := H.out.below hbw
      have c0 := ht.c0
      have hrx := H.out.rng x hxm
      have hmx := H.out.mxr
      have hl := ht.look (o := x.o.id) ⟨by omega, by omega⟩
      have hfx := findT_at H.out.sort hx
      unfold ptrT at hl
      rw [hfx] at hl
      have hcr : wr.cell? ⟨g1, k, none⟩ = some (.int .i64 x.o.id) := (hbr.cell (p := ⟨g1, k, none⟩) hg1.2).trans hc1
      have CP := Lib.hid (HP.out wr x hbw hxm)
      have HROW := Lib.hid hrow
      have HBR := Lib.hid hbr
      have HX := Lib.hid hx
      clear hrow hbr hx hfx hbw ht hc1 hrx hmx
      go_wp2_with fail
      refine CP.out.mono ?_
      rintro e w2 ⟨rfl, n2, rfl⟩
      cases hpx : p x.o with
      | true =>
        have hyes := Lib.hid (accO_yes HX.out hpx)
        go_wp2_with (at_builtin; refine wpList_append_own _ rfl (.tmp 23) (.tmp 25) 22 rfl w1.heap.size 3 i0 (.int .i64 0) 1 8 Tryz.underlying22 hi0 hz0 hz1 hz2 rfl (by decide) V (accO T p k).length (intsO (accO T p k)) rfl (own_keepO (own_keepO HROW.out (below_drewN (Below.refl _ _) _)) ((Below.refl _ _).alloc (Nat.le_refl _) _)) ⟨(wr.drewN n2).heap.size, 0, none⟩ 1 1 [.int .i64 x.o.id] rfl rfl ?c1 ?c2 ?c3 ?c4 ?c5 ?c6
                     case c1 => exact cell_one_new _ _ _
                     case c2 => intro u hu; simp at hu; subst hu; rfl
                     case c3 => unfold maxLen; omega
                     case c4 => omega
                     case c5 => simp; omega
                     intro v' w11 hown' hgrow _
                     have HB11 := Lib.hid (Below.grown ((HBR.out.trans (below_drewN (Below.refl _ _) _)).alloc (by simp; omega) _) hgrow (by simp; omega) (fun k hk => (HROW.out.lt k hk).1))
                     have HO11 := Lib.hid hown'
                     clear hown' hgrow)
        go_roundg j
        case measure => omega
        case rel => exact ⟨v', k + 1, rfl, by go_num, by omega, by
          have h := HO11.out
          rw [hyes.out, intsO_app, List.length_append]; exact h, HB11.out⟩
      | false =>
        have hno := Lib.hid (accO_no HX.out hpx)
        go_wp2_with fail
        go_roundg j
        case measure => omega
        case rel => exact ⟨V, k + 1, rfl, by go_num, by omega, by rw [hno.out]; exact own_keepO HROW.out (below_drewN (Below.refl _ _) _), HBR.out.trans (below_drewN (Below.refl _ _) _)⟩
    · obtain rfl : k = T.length := by omega
      have HROW := Lib.hid hrow
      have HBR := Lib.hid hbr
      clear hrow hbr
      go_wp2_with fail
      go_ret
      exact ⟨V, rfl, ownsRow_base_a HROW.out hs1, HB1.out.trans (HBR.out.mono hs1)⟩
end Go.Proofs.YtnphgcbknfmapaaGreatDoor
namespace Go.Proofs.YtnphgcbknfmapaaGreatDoor
open Go.RowKit Go.Lib
set_option linter.unusedVariables false

theorem cellX {w W : World} {B a m : Nat} {T : List OM} {mx : Int} (h : Tab w B a m T mx) (hb : Below w.heap.size w W) {x : OM} (hx : x ∈ T) (j : Nat) : W.cell? ⟨x.g, j, none⟩ = x.cells[j]? :=
  (h.objs x hx).keep (fun b hk => hb.block b ((h.objs x hx).lt b hk)) |>.cell j
theorem askP {w : World} {B a m : Nat} {T : List OM} {mx o : Int} (h : Tab w B a m T mx) : AskO (w.alloc (.cells #[.int .i64 o] 3)) T 118 w.heap.size (fun x => x.parent == o) := by
  intro W x hb hx
  have hw : Below w.heap.size w W := ((Below.refl _ _).alloc (Nat.le_refl _) _).trans (hb.mono (by simp))
  have hc : W.cell? ⟨w.heap.size, 0, none⟩ = some (.int .i64 o) := by
    rw [hb.cell (p := ⟨w.heap.size, 0, none⟩) (by simp)]
    exact cell_of_row _ _ 0 _ _ _ (heap_alloc_new _ _)
  have h1 : W.cell? ⟨x.g, 1, none⟩ = some (.int .i64 x.o.parent) := cellX h hw hx 1
  clear hb hw h
  generalize hq : w.heap.size = C at hc ⊢
  clear hq
  go_enter Tryz.func118, Tryz.ntmps118
  go_wp2_with fail
  go_quiet (fail)
  go_wp2_with fail
  go_ret
  exact ⟨rfl, _, rfl⟩
theorem askL {w : World} {B a m : Nat} {T : List OM} {mx o : Int} (h : Tab w B a m T mx) : AskO (w.alloc (.cells #[.int .i64 o] 3)) T 120 w.heap.size (fun x => x.place == o) := by
  intro W x hb hx
  have hw : Below w.heap.size w W := ((Below.refl _ _).alloc (Nat.le_refl _) _).trans (hb.mono (by simp))
  have hc : W.cell? ⟨w.heap.size, 0, none⟩ = some (.int .i64 o) := by
    rw [hb.cell (p := ⟨w.heap.size, 0, none⟩) (by simp)]
    exact cell_of_row _ _ 0 _ _ _ (heap_alloc_new _ _)
  have h1 : W.cell? ⟨x.g, 3, none⟩ = some (.int .i64 x.o.place) := cellX h hw hx 3
  clear hb hw h
  generalize hq : w.heap.size = C at hc ⊢
  clear hq
  go_enter Tryz.func120, Tryz.ntmps120
  go_wp2_with fail
  go_quiet (fail)
  go_wp2_with fail
  go_ret
  exact ⟨rfl, _, rfl⟩

theorem kids_c {w : World} {B a m : Nat} {T : List OM} {mx o : Int} (h : Tab w B a m T mx) (ho : I64 o) :
    Calls Tryz.prog 94 #[.pointer (some ⟨a, 0, none⟩), .int .i64 o] w fun e w' => ∃ v, e = .returned v ∧ w'.ownsRow w.heap.size 3 1 v (kidsO (obT T) o).length (intsO (kidsO (obT T) o)) ∧ Below w.heap.size w w' := by
  obtain ⟨w1, hw1⟩ : ∃ w1, w1 = w.alloc (.cells #[.int .i64 o] 3) := ⟨_, rfl⟩
  have hb1 : Below w.heap.size w w1 := by rw [hw1]; exact (Below.refl _ _).alloc (Nat.le_refl _) _
  have CH := Lib.hid (has_c (h.below hb1) ho)
  have CT := Lib.hid (those_c (h.below hb1) 118 w.heap.size (fun x => x.parent == o) (enters_of Tryz.func118 (by kernel_rfl) rfl) (by rw [hw1]; exact askP h))
  have hc : w1.cell? ⟨w.heap.size, 0, none⟩ = some (.int .i64 o) := by rw [hw1]; exact cell_of_row _ _ 0 _ _ _ (heap_alloc_new _ _)
  have HB1 := Lib.hid hb1
  have HW1 := Lib.hid hw1
  clear h ho hb1 hw1
  cases hh : hasO (obT T) o with
  | true =>
    rw [hh] at CH
    have hk : kidsO (obT T) o = ((obT T).filter fun x => x.parent == o).map OB.id := by unfold kidsO; rw [if_pos hh]
    rw [hk]
    clear hk hh
    go_enter Tryz.func94, Tryz.ntmps94
    go_wp2_with fail
    rw [← HW1.out]
    go_wp2_with fail
    refine CH.out.mono ?_
    rintro e w2 ⟨rfl, rfl⟩
    go_wp2_with fail
    refine CT.out.mono ?_
    rintro e w2 ⟨v, rfl, hrow, hb2⟩
    have HR := Lib.hid hrow
    have HB2 := Lib.hid hb2
    clear hrow hb2
    go_wp2_with fail
    go_ret
    exact ⟨v, rfl, ownsRow_base_a HR.out HB1.out.size, HB1.out.trans (HB2.out.mono HB1.out.size)⟩
  | false =>
    rw [hh] at CH
    have hk : kidsO (obT T) o = [] := by unfold kidsO; rw [if_neg (by rw [hh]; decide)]
    rw [hk]
    clear hk hh CT
    go_enter Tryz.func94, Tryz.ntmps94
    go_wp2_with fail
    rw [← HW1.out]
    go_wp2_with fail
    refine CH.out.mono ?_
    rintro e w2 ⟨rfl, rfl⟩
    go_wp2_with fail
    go_ret
    exact ⟨_, rfl, World.ownsRow_nil _ _ _ _, HB1.out⟩
theorem cont_c {w : World} {B a m : Nat} {T : List OM} {mx o : Int} (h : Tab w B a m T mx) (ho : I64 o) :
    Calls Tryz.prog 104 #[.pointer (some ⟨a, 0, none⟩), .int .i64 o] w fun e w' => ∃ v, e = .returned v ∧ w'.ownsRow w.heap.size 3 1 v (contO (obT T) o).length (intsO (contO (obT T) o)) ∧ Below w.heap.size w w' := by
  obtain ⟨w1, hw1⟩ : ∃ w1, w1 = w.alloc (.cells #[.int .i64 o] 3) := ⟨_, rfl⟩
  have hb1 : Below w.heap.size w w1 := by rw [hw1]; exact (Below.refl _ _).alloc (Nat.le_refl _) _
  have CH := Lib.hid (has_c (h.below hb1) ho)
  have CT := Lib.hid (those_c (h.below hb1) 120 w.heap.size (fun x => x.place == o) (enters_of Tryz.func120 (by kernel_rfl) rfl) (by rw [hw1]; exact askL h))
  have hc : w1.cell? ⟨w.heap.size, 0, none⟩ = some (.int .i64 o) := by rw [hw1]; exact cell_of_row _ _ 0 _ _ _ (heap_alloc_new _ _)
  have HB1 := Lib.hid hb1
  have HW1 := Lib.hid hw1
  clear h ho hb1 hw1
  cases hh : hasO (obT T) o with
  | true =>
    rw [hh] at CH
    have hk : contO (obT T) o = ((obT T).filter fun x => x.place == o).map OB.id := by unfold contO; rw [if_pos hh]
    rw [hk]
    clear hk hh
    go_enter Tryz.func104, Tryz.ntmps104
    go_wp2_with fail
    rw [← HW1.out]
    go_wp2_with fail
    refine CH.out.mono ?_
    rintro e w2 ⟨rfl, rfl⟩
    go_wp2_with fail
    refine CT.out.mono ?_
    rintro e w2 ⟨v, rfl, hrow, hb2⟩
    have HR := Lib.hid hrow
    have HB2 := Lib.hid hb2
    clear hrow hb2
    go_wp2_with fail
    go_ret
    exact ⟨v, rfl, ownsRow_base_a HR.out HB1.out.size, HB1.out.trans (HB2.out.mono HB1.out.size)⟩
  | false =>
    rw [hh] at CH
    have hk : contO (obT T) o = [] := by unfold contO; rw [if_neg (by rw [hh]; decide)]
    rw [hk]
    clear hk hh CT
    go_enter Tryz.func104, Tryz.ntmps104
    go_wp2_with fail
    rw [← HW1.out]
    go_wp2_with fail
    refine CH.out.mono ?_
    rintro e w2 ⟨rfl, rfl⟩
    go_wp2_with fail
    go_ret
    exact ⟨_, rfl, World.ownsRow_nil _ _ _ _, HB1.out⟩
end Go.Proofs.YtnphgcbknfmapaaGreatDoor
namespace Go.Proofs.YtnphgcbknfmapaaGreatDoor
open Go.RowKit Go.Lib
set_option linter.unusedVariables false

theorem ptrT_none {T : List OM} {o : Int} (h : findT T o = none) : ptrT T o = .pointer none := by unfold ptrT; rw [h]
theorem ptrT_some {T : List OM} {o : Int} {x : OM} (h : findT T o = some x) : ptrT T o = .pointer (some ⟨x.g, 0, none⟩) := by unfold ptrT; rw [h]
theorem ptr_cases (T : List OM) (o : Int) : (findT T o = none ∧ ptrT T o = .pointer none) ∨ ∃ x, findT T o = some x ∧ ptrT T o = .pointer (some ⟨x.g, 0, none⟩) := by
  cases h : findT T o with
  | none => exact .inl ⟨rfl, ptrT_none h⟩
  | some x => exact .inr ⟨x, rfl, ptrT_some h⟩
theorem getO_none' {T : List OM} {o : Int} (h : findT T o = none) : getO (obT T) o = none := by rw [getO_obT, h]; rfl
theorem getO_some' {T : List OM} {o : Int} {x : OM} (h : findT T o = some x) : getO (obT T) o = some x.o := by rw [getO_obT, h]; rfl
theorem abv_none {l : List OB} {o : Int} (h : getO l o = none) (n : Nat) : abvO l n o = [] := by cases n <;> simp [abvO, h]
theorem abv_len (l : List OB) : ∀ (n : Nat) (o : Int), (abvO l n o).length ≤ n
  | 0, _ => by simp [abvO]
  | n + 1, o => by
    rw [abvO]
    cases getO l o with
    | none => simp
    | some x => simp only [List.length_cons]; have := abv_len l n x.parent; omega

/-- All parents are numbers of 64 bits. -/
def ParI (T : List OM) : Prop := ∀ x ∈ T, I64 x.o.parent

set_option maxRecDepth 100000 in
set_option maxHeartbeats 2000000 in
theorem above_c {w : World} {B a m : Nat} {T : List OM} {mx o : Int} (h : Tab w B a m T mx) (ho : I64 o) (hpi : ParI T) :
    Calls Tryz.prog 61 #[.pointer (some ⟨a, 0, none⟩), .int .i64 o] w fun e w' => ∃ v, e = .returned v ∧ w'.ownsRow w.heap.size 3 1 v (aboveO (obT T) o).length (intsO (aboveO (obT T) o)) ∧ Below w.heap.size w w' := by
  obtain ⟨i0, hi0, hz0, hz1, hz2⟩ := info_parts oint_info
  have hTl : (obT T).length = T.length := by simp [obT]
  obtain ⟨R, hR⟩ : ∃ R, R = aboveO (obT T) o := ⟨_, rfl⟩
  rw [← hR]
  unfold aboveO at hR
  rw [hTl] at hR
  have c0 := h.c0
  have hl := h.look ho
  have hfew := h.few
  have H := Lib.hid h
  have HRR := Lib.hid hR
  have HPI := Lib.hid hpi
  clear h hR hpi hTl
  go_enter Tryz.func61, Tryz.ntmps61
  go_wp2_with fail
  go_loopg [5, 6] (T.length + 1) (fun kk ov xv wr => ∃ (V : Value) (acc : List Int) (p : Int), V = ov ∧ xv = ptrT T p ∧ I64 p ∧ acc.length + kk = T.length + 1 ∧ wr.ownsRow w.heap.size 3 1 V acc.length (intsO acc) ∧ Below w.heap.size w wr ∧ Hid (R = acc ++ abvO (obT T) kk p))
  case atStart => exact ⟨.slice none 0 0, [], o, rfl, rfl, ho, by simp, World.ownsRow_nil _ _ _ _, Below.refl _ _, by rw [HRR.out]; exact (List.nil_append _).symm⟩
  case round =>
    obtain ⟨V, acc, p, rfl, rfl, hp, hlen, hrow, hbr, hacc⟩ := hrel
    have hrz := hbr.size
    have ht := H.out.below hbr
    have c0 := ht.c0
    have hln := ht.len 3
    obtain ⟨Av, cv, rfl⟩ : ∃ A C, V = .slice A acc.length C := by obtain ⟨A, C, e, _⟩ := own_formO hrow; exact ⟨A, C, e⟩
    rcases ptr_cases T p with ⟨hf, hpe⟩ | ⟨x, hf, hpe⟩
    · rw [hpe]
      have HROW := Lib.hid hrow
      have HBR := Lib.hid hbr
      have HF := Lib.hid hf
      have HA := Lib.hid hacc
      clear hrow hbr hf hpe ht hln hacc
      go_wp2_with fail
      go_ret
      refine ⟨_, rfl, ?_, HBR.out⟩
      rw [HA.out.out, abv_none (getO_none' HF.out), List.append_nil]
      exact HROW.out
    · rw [hpe]
      by_cases hk : acc.length ≤ T.length
      · obtain ⟨j, rfl⟩ : ∃ j, gk = j + 1 := ⟨gk - 1, by omega⟩
        have hxm := (findT_some hf).1
        have hpx := HPI.out x hxm
        have hl := ht.look hpx
        have h0 : wr.cell? ⟨x.g, 0, none⟩ = some (.int .i64 x.o.id) := cellX H.out hbr hxm 0
        have h1 : wr.cell? ⟨x.g, 1, none⟩ = some (.int .i64 x.o.parent) := cellX H.out hbr hxm 1
        have hgx : x.g < w.heap.size := H.out.lt x.g (List.mem_cons_of_mem _ (List.mem_cons_of_mem _ (List.mem_flatMap.2 ⟨x, hxm, OM.mem_blocks.2 (.inl rfl)⟩)))
        have hgx' : x.g < wr.heap.size := by omega
        have hacc' := hacc.out
        rw [abvO, getO_some' hf] at hacc'
        have HA := Lib.hid hacc'
        have HROW := Lib.hid hrow
        have HBR := Lib.hid hbr
        clear hrow hbr hf hpe hacc hacc' ht
        go_wp2_with (at_builtin; refine wpList_append_own _ rfl (.tmp 34) (.tmp 39) 22 rfl w.heap.size 3 i0 (.int .i64 0) 1 8 Tryz.underlying22 hi0 hz0 hz1 hz2 rfl (by decide) (.slice Av acc.length cv) acc.length (intsO acc) rfl (own_keepO HROW.out ((Below.refl _ _).alloc (Nat.le_refl _) _)) ⟨wr.heap.size, 0, none⟩ 1 1 [.int .i64 x.o.id] rfl rfl ?c1 ?c2 ?c3 ?c4 ?c5 ?c6
                     case c1 => exact cell_one_new _ _ _
                     case c2 => intro u hu; simp at hu; subst hu; rfl
                     case c3 => unfold maxLen; omega
                     case c4 => omega
                     case c5 => simp; omega
                     intro v' w11 hown' hgrow _
                     have hb11 := Below.grown (HBR.out.alloc HBR.out.size _) hgrow (by simp; omega) (fun k hk => (HROW.out.lt k hk).1)
                     have HB11 := Lib.hid hb11
                     have HO11 := Lib.hid hown'
                     have ht := H.out.below hb11
                     have c0 := ht.c0
                     have hl := ht.look hpx
                     have h1 : w11.cell? ⟨x.g, 1, none⟩ = some (.int .i64 x.o.parent) := cellX H.out hb11 hxm 1
                     clear hown' hgrow hb11 ht)
        have hb12 : Below w.heap.size w w11.drew := HB11.out.drew
        have K1 : (w11.drew.cell? ⟨a, 0, none⟩ = some (.map (some m)) ∧ w11.drew.cell? ⟨x.g, 1, none⟩ = some (.int .i64 x.o.parent) ∧ (Instr.lookup 82 (.map (some m)) (.int .i64 x.o.parent) false).run Tryz.prog w11.drew = .ok (ptrT T x.o.parent) w11.drew) := ⟨c0, h1, (H.out.below hb12).look hpx⟩
        go_region_held3 (fun W => W.cell? ⟨a, 0, none⟩ = some (.map (some m)) ∧ W.cell? ⟨x.g, 1, none⟩ = some (.int .i64 x.o.parent) ∧ (Instr.lookup 82 (.map (some m)) (.int .i64 x.o.parent) false).run Tryz.prog W = .ok (ptrT T x.o.parent) W)
          (first | (with_reducible exact K1) | exact ⟨c0, h1, hl⟩)
          (fail)
        go_wp2_with fail
        go_roundg j
        case measure => omega
        case rel => exact ⟨v', acc ++ [x.o.id], x.o.parent, rfl, rfl, hpx, by simp; omega, by rw [intsO_app, List.length_append]; exact HO11.out, hb12, by rw [HA.out]; exact (List.append_assoc acc [x.o.id] _).symm⟩
      · have HROW := Lib.hid hrow
        have HBR := Lib.hid hbr
        have HA := Lib.hid hacc
        obtain rfl : gk = 0 := by omega
        clear hrow hbr hf hpe ht hacc
        go_wp2_with fail
        go_ret
        refine ⟨_, rfl, ?_, HBR.out⟩
        rw [HA.out.out, abvO, List.append_nil]
        exact HROW.out
end Go.Proofs.YtnphgcbknfmapaaGreatDoor
namespace Go.Proofs.YtnphgcbknfmapaaGreatDoor
open Go.RowKit Go.Lib
set_option linter.unusedVariables false

/-- A row appended to a row of the call's own, whatever its form. -/
theorem wpList_append_rowO {P : Program} {w : World} {ops : Array Oper} {rest : List Oper} {o : Oper} {a : Act} {Q : Exit → Act → World → Prop} (hgd : o.guard = none) (s x : Operand) (t : TypeId)
    (ho : o.op = .call { callee := .builtin .append, args := #[s, x], argTypes := #[t, t] })
    (base : Nat) (e : TypeId) (i : TypeInfo) (z : Value) (size bytes : Nat) (ht : P.underlying t = some (.slice e)) (hi : P.info? e = some i) (hz : i.zero = some z)
    (hsize : i.size = size) (hby : i.bytes = bytes) (hzs : z.cells.size = size) (hsz : 0 < size)
    (v : Value) (n : Nat) (xs : List Value) (hs : a.eval s = v) (hown : w.ownsRow base e size v n xs)
    (xv : Value) (b' m : Nat) (news : List Value) (hx : a.eval x = xv) (hsrc : w.ownsRow b' e size xv m news) (h1 : ∀ u ∈ news, u.oneCell' = true)
    (h63 : n + m ≤ maxLen) (hbytes : (n + m) * bytes ≤ 140737488355328) (hbase : base ≤ w.heap.size)
    (h : ∀ v' w', w'.ownsRow base e size v' (n + m) (xs ++ news) → w.grownBy w' v.ownBlock → wpList P ops Q rest (a.put o.dst v') w') :
    wpList P ops Q (o :: rest) a w := by
  have hsrc' := hsrc
  rcases hsrc'.2 with ⟨rfl, h0⟩ | ⟨g, cap, cur, rfl, _⟩
  · subst h0
    have hn : news = [] := List.eq_nil_of_length_eq_zero (by rw [hsrc.1]; omega)
    subst hn
    refine wpList_plain hgd fun K hK => ?_
    have hr := run_append_owned_none (P := P) (w := w) base t o.type e i size ht hi v n xs hown
    unfold Oper.wp execOp
    simp only [ho, resolve, invoke, builtin, Sem.run_bind, Sem.run_pure, Result.andThen_ok, List.map_toArray, List.map_cons, List.map_nil, hs, hx, hr]
    exact hK _ _ (h v w (by rw [List.append_nil]; exact hown) ⟨rfl, rfl, rfl, Nat.le_refl _, fun _ _ _ => rfl⟩)
  · exact wpList_append_own_at _ hgd s x t ho base e i z size bytes ht hi hz hsize hby hzs hsz v n xs hs hown ⟨g, 0, none⟩ m cap news hx hsrc.1 (hsrc.cells rfl) h1 h63 hbytes hbase fun v' w' h2 h3 _ _ => h v' w' h2 h3
end Go.Proofs.YtnphgcbknfmapaaGreatDoor
namespace Go.Proofs.YtnphgcbknfmapaaGreatDoor
open Go.RowKit Go.Lib
set_option linter.unusedVariables false

/-- An object, otherwise; it lies where it lay. -/
def updT (T : List OM) (o : Int) (f : OB → OB) : List OM := T.map fun y => if y.o.id == o then { y with o := f y.o } else y
theorem obT_upd (T : List OM) (o : Int) (f : OB → OB) : obT (updT T o f) = updO (obT T) o f := by
  unfold obT updT updO
  rw [List.map_map, List.map_map]
  apply List.map_congr_left
  intro x _
  simp only [Function.comp]
  split <;> rfl
theorem blkT_upd (T : List OM) (o : Int) (f : OB → OB) : blkT (updT T o f) = blkT T := by
  unfold blkT updT
  rw [List.flatMap_map]
  congr 1
  funext y
  split <;> rfl
theorem datT_upd (T : List OM) (o : Int) (f : OB → OB) (hf : ∀ x, (f x).id = x.id) : datT (updT T o f) = datT T := by
  unfold datT updT
  rw [List.map_map]
  apply List.map_congr_left
  intro y _
  simp only [Function.comp]
  split
  · simp [hf]
  · rfl
theorem updT_len (T : List OM) (o : Int) (f : OB → OB) : (updT T o f).length = T.length := by simp [updT]
theorem mem_updT {T : List OM} {o : Int} {f : OB → OB} {y : OM} (h : y ∈ updT T o f) : ∃ x ∈ T, (x.o.id = o ∧ y = { x with o := f x.o }) ∨ (x.o.id ≠ o ∧ y = x) := by
  unfold updT at h
  rw [List.mem_map] at h
  obtain ⟨x, hx, hy⟩ := h
  by_cases e : x.o.id = o
  · rw [if_pos (by simpa using e)] at hy
    exact ⟨x, hx, .inl ⟨e, hy.symm⟩⟩
  · rw [if_neg (by simpa using e)] at hy
    exact ⟨x, hx, .inr ⟨e, hy.symm⟩⟩
theorem eqT_of_id {T : List OM} (hs : SortO (obT T)) {x y : OM} (hx : x ∈ T) (hy : y ∈ T) (h : x.o.id = y.o.id) : x = y := by
  obtain ⟨i, hi⟩ := List.getElem?_of_mem hx
  obtain ⟨j, hj⟩ := List.getElem?_of_mem hy
  have h1 := findT_at hs hi
  have h2 := findT_at hs hj
  rw [h, h2] at h1
  exact (Option.some.inj h1).symm
theorem findT_upd (T : List OM) (o : Int) (f : OB → OB) (hf : ∀ x, (f x).id = x.id) (k : Int) : findT (updT T o f) k = (findT T k).map fun y => if y.o.id == o then { y with o := f y.o } else y := by
  unfold findT updT
  rw [List.find?_map]
  congr 1
  congr 1
  funext y
  simp only [Function.comp]
  split
  · simp [hf]
  · rfl
/-- Two objects' blocks are apart. -/
theorem sep_apart : ∀ {T : List OM} {x y : OM} {b : Nat}, (blkT T).Nodup → x ∈ T → y ∈ T → b ∈ x.blocks → b ∈ y.blocks → x = y
  | [], _, _, _, _, h, _, _, _ => by cases h
  | z :: T, x, y, b, hn, hx, hy, hbx, hby => by
    unfold blkT at hn
    rw [List.flatMap_cons, List.nodup_append] at hn
    rcases List.mem_cons.1 hx with rfl | hx' <;> rcases List.mem_cons.1 hy with rfl | hy'
    · rfl
    · exact absurd rfl (hn.2.2 b hbx b (List.mem_flatMap.2 ⟨y, hy', hby⟩))
    · exact absurd rfl (hn.2.2 b hby b (List.mem_flatMap.2 ⟨x, hx', hbx⟩))
    · exact sep_apart hn.2.1 hx' hy' hbx hby
theorem Tab.sepB {w : World} {B a m : Nat} {T : List OM} {mx : Int} (h : Tab w B a m T mx) : (blkT T).Nodup := by
  have := h.sep
  rw [List.nodup_cons, List.nodup_cons] at this
  exact this.2.2
theorem Tab.gne {w : World} {B a m : Nat} {T : List OM} {mx : Int} (h : Tab w B a m T mx) {x : OM} (hx : x ∈ T) : x.g ≠ a ∧ x.g ≠ m := by
  have := h.sep
  rw [List.nodup_cons, List.nodup_cons] at this
  have hb : x.g ∈ blkT T := List.mem_flatMap.2 ⟨x, hx, OM.mem_blocks.2 (.inl rfl)⟩
  exact ⟨fun e => this.1 (by rw [← e]; exact List.mem_cons_of_mem _ hb), fun e => this.2.1 (by rw [← e]; exact hb)⟩
/-- A cell of one object stored. -/
theorem Tab.store {w : World} {B a m : Nat} {T : List OM} {mx : Int} (h : Tab w B a m T mx) {o : Int} {x : OM} (hx : findT T o = some x) (j : Nat) (u : Value) (f : OB → OB)
    (hf : ∀ y, (f y).id = y.id) (hd : (f x.o).defs = x.o.defs) (hsl : (f x.o).slots = x.o.slots) (hc : x.cells.setIfInBounds j u = ({ x with o := f x.o } : OM).cells) : Tab (w.setCell ⟨x.g, j, none⟩ u) B a m (updT T o f) mx := by
  obtain ⟨hxm, hxo⟩ := findT_some hx
  obtain ⟨hga, hgm⟩ := h.gne hxm
  have hoth : ∀ b, b ≠ x.g → (w.setCell ⟨x.g, j, none⟩ u).heap[b]? = w.heap[b]? := fun b hb => Below.heap_setCell _ _ _ _ hb
  refine ⟨(hoth a (Ne.symm hga)).trans h.tab, ?_, ?_, by rw [blkT_upd]; exact h.sep, by rw [blkT_upd]; exact h.base, by rw [obT_upd]; exact h.sort.upd o f hf, by rw [updT_len]; exact h.few, h.mxr, ?_⟩
  · rw [datT_upd T o f hf, updT_len]
    exact ownsMap_same h.map (hoth m (Ne.symm hgm))
  · intro y hy
    obtain ⟨z, hz, ⟨hzo, rfl⟩ | ⟨hzo, rfl⟩⟩ := mem_updT hy
    · obtain rfl : x = z := eqT_of_id h.sort hxm hz (by rw [hxo, hzo])
      have hob := h.objs x hz
      have hn := h.sepB
      refine ⟨?_, ?_, ?_⟩
      · rw [heap_setCell_same w x.g j _ _ u hob.blk, hc]
      · show (w.setCell ⟨x.g, j, none⟩ u).ownsRow B _ 1 x.dv (f x.o).defs.length ((f x.o).defs.map Value.string)
        rw [hd]
        refine ownsRow_same hob.defs fun b hb => hoth b ?_
        rintro rfl
        have hnb : (x.blocks).Nodup := by
          unfold blkT at hn
          rw [List.flatMap] at hn
          exact List.Nodup.sublist (List.sublist_flatten_of_mem (List.mem_map_of_mem hz)) hn
        unfold OM.blocks at hnb
        rw [List.nodup_cons] at hnb
        exact hnb.1 (List.mem_append_left _ (by rw [hb]; simp))
      · show (w.setCell ⟨x.g, j, none⟩ u).ownsRow B _ 8 x.sv (f x.o).slots.length ((f x.o).slots.flatMap SL.cells)
        rw [hsl]
        refine ownsRow_same hob.slots fun b hb => hoth b ?_
        rintro rfl
        have hnb : (x.blocks).Nodup := by
          unfold blkT at hn
          rw [List.flatMap] at hn
          exact List.Nodup.sublist (List.sublist_flatten_of_mem (List.mem_map_of_mem hz)) hn
        unfold OM.blocks at hnb
        rw [List.nodup_cons] at hnb
        exact hnb.1 (List.mem_append_right _ (by rw [hb]; simp))
    · refine (h.objs y hz).keep fun b hb => hoth b ?_
      rintro rfl
      have := sep_apart h.sepB hz hxm hb (OM.mem_blocks.2 (.inl rfl))
      rw [this] at hzo
      exact hzo hxo
  · intro y hy
    obtain ⟨z, hz, ⟨hzo, rfl⟩ | ⟨hzo, rfl⟩⟩ := mem_updT hy
    · show 0 ≤ (f z.o).id ∧ (f z.o).id ≤ mx
      rw [hf]
      exact h.rng z hz
    · exact h.rng y hz
end Go.Proofs.YtnphgcbknfmapaaGreatDoor
namespace Go.Proofs.YtnphgcbknfmapaaGreatDoor
open Go.RowKit
set_option linter.unusedVariables false

def repT (T : List OM) (o : Int) (x' : OM) : List OM := T.map fun y => if y.o.id == o then x' else y
def repO (l : List OB) (o : Int) (x' : OB) : List OB := l.map fun y => if y.id == o then x' else y
theorem obT_rep (T : List OM) (o : Int) (x' : OM) : obT (repT T o x') = repO (obT T) o x'.o := by
  unfold obT repT repO
  rw [List.map_map, List.map_map]
  apply List.map_congr_left
  intro x _
  simp only [Function.comp]
  split <;> rfl
theorem repT_split {T : List OM} (hs : SortO (obT T)) {o : Int} {x : OM} (hx : findT T o = some x) (x' : OM) : ∃ p q, T = p ++ x :: q ∧ repT T o x' = p ++ x' :: q := by
  obtain ⟨hm, ho⟩ := findT_some hx
  obtain ⟨p, q, rfl⟩ := List.append_of_mem hm
  refine ⟨p, q, rfl, ?_⟩
  unfold SortO obT at hs
  rw [List.pairwise_map, List.pairwise_append, List.pairwise_cons] at hs
  obtain ⟨h1, ⟨h2, h3⟩, h4⟩ := hs
  unfold repT
  rw [List.map_append, List.map_cons]
  have e1 : p.map (fun y => if y.o.id == o then x' else y) = p := by
    conv => rhs; rw [← List.map_id p]
    apply List.map_congr_left
    intro y hy
    have := h4 y hy x (List.mem_cons_self ..)
    have e : (y.o.id == o) = false := by simp; omega
    rw [e]
    rfl
  have e2 : q.map (fun y => if y.o.id == o then x' else y) = q := by
    conv => rhs; rw [← List.map_id q]
    apply List.map_congr_left
    intro y hy
    have := h2 y hy
    have e : (y.o.id == o) = false := by simp; omega
    rw [e]
    rfl
  have e3 : (x.o.id == o) = true := by simpa using ho
  rw [e1, e2, e3]
  rfl
theorem datT_rep {T : List OM} {o : Int} {x x' : OM} (hs : SortO (obT T)) (hx : findT T o = some x) (hid : x'.o.id = x.o.id) (hg : x'.g = x.g) : datT (repT T o x') = datT T := by
  obtain ⟨p, q, e1, e2⟩ := repT_split hs hx x'
  rw [e2]
  conv => rhs; rw [e1]
  simp [datT, hid, hg]
theorem blkT_split (p q : List OM) (x : OM) : blkT (p ++ x :: q) = blkT p ++ (x.blocks ++ blkT q) := by simp [blkT]
/-- An object replaced by another one with its number, where it lay. -/
theorem Tab.rep {w w' : World} {B a m : Nat} {T : List OM} {mx o : Int} (h : Tab w B a m T mx) {x : OM} (hx : findT T o = some x) (x' : OM) (hid : x'.o.id = x.o.id) (hg : x'.g = x.g)
    (hc : Chg (fun b => b ∈ x.blocks) w w') (hob : ObjAt w' B x') (hbl : ∀ b ∈ x'.blocks, b ∈ x.blocks ∨ w.heap.size ≤ b) (hnd : x'.blocks.Nodup) : Tab w' B a m (repT T o x') mx := by
  obtain ⟨hxm, hxo⟩ := findT_some hx
  obtain ⟨p, q, e1, e2⟩ := repT_split h.sort hx x'
  have hsep := h.sep
  have hlt := h.lt
  have hbase := h.base
  have hobj := h.objs
  rw [e1, blkT_split] at hsep hlt hbase
  have hnot : ∀ b, b ∈ a :: m :: (blkT p ++ (x.blocks ++ blkT q)) → b ∉ x.blocks → w'.heap[b]? = w.heap[b]? := fun b hb hn => hc.block b (hlt b hb) hn
  have hA : a ∉ x.blocks := fun hb => by
    rw [List.nodup_cons] at hsep
    exact hsep.1 (List.mem_cons_of_mem _ (List.mem_append_right _ (List.mem_append_left _ hb)))
  have hM : m ∉ x.blocks := fun hb => by
    rw [List.nodup_cons, List.nodup_cons] at hsep
    exact hsep.2.1 (List.mem_append_right _ (List.mem_append_left _ hb))
  have hs3 := (List.nodup_cons.1 (List.nodup_cons.1 hsep).2).2
  rw [List.nodup_append, List.nodup_append] at hs3
  obtain ⟨hp, ⟨hxn, hqn, hxq⟩, hpx⟩ := hs3
  have hBa : B ≤ w.heap.size := by
    have h1 := hbase a (List.mem_cons_self ..)
    have h2 := hlt a (List.mem_cons_self ..)
    omega
  have hnew : ∀ b ∈ x'.blocks, ∀ c, c ∈ a :: m :: (blkT p ++ blkT q) → b ≠ c := by
    intro b hb c hcm e
    subst e
    have hbm : b ∈ a :: m :: (blkT p ++ (x.blocks ++ blkT q)) := by
      simp only [List.mem_cons, List.mem_append] at hcm ⊢
      rcases hcm with h | h | h | h
      · exact .inl h
      · exact .inr (.inl h)
      · exact .inr (.inr (.inl h))
      · exact .inr (.inr (.inr (.inr h)))
    rcases hbl b hb with h1 | h1
    · simp only [List.mem_cons, List.mem_append] at hcm
      rcases hcm with rfl | rfl | h | h
      · exact hA h1
      · exact hM h1
      · exact hpx b h b (List.mem_append_left _ h1) rfl
      · exact hxq b h1 b h rfl
    · have := hlt b hbm
      omega
  refine ⟨(hnot a (List.mem_cons_self ..) hA).trans h.tab, ?_, ?_, ?_, ?_, ?_, by simp [repT]; exact h.few, h.mxr, ?_⟩
  · rw [datT_rep h.sort hx hid hg, show (repT T o x').length = T.length from by simp [repT]]
    exact ownsMap_same h.map (hnot m (List.mem_cons_of_mem _ (List.mem_cons_self ..)) hM)
  · intro y hy
    rw [e2] at hy
    rcases List.mem_append.1 hy with hy | hy
    · have hyT : y ∈ T := by rw [e1]; exact List.mem_append_left _ hy
      refine (hobj y hyT).keep fun b hb => ?_
      have hbp : b ∈ blkT p := List.mem_flatMap.2 ⟨y, hy, hb⟩
      exact hnot b (List.mem_cons_of_mem _ (List.mem_cons_of_mem _ (List.mem_append_left _ hbp))) fun e => hpx b hbp b (List.mem_append_left _ e) rfl
    · rcases List.mem_cons.1 hy with rfl | hy
      · exact hob
      · have hyT : y ∈ T := by rw [e1]; exact List.mem_append_right _ (List.mem_cons_of_mem _ hy)
        refine (hobj y hyT).keep fun b hb => ?_
        have hbq : b ∈ blkT q := List.mem_flatMap.2 ⟨y, hy, hb⟩
        exact hnot b (List.mem_cons_of_mem _ (List.mem_cons_of_mem _ (List.mem_append_right _ (List.mem_append_right _ hbq)))) fun e => hxq b e b hbq rfl
  · rw [e2, blkT_split]
    have ham : a ≠ m ∧ a ∉ blkT p ++ blkT q ∧ m ∉ blkT p ++ blkT q := by
      have h1 := (List.nodup_cons.1 hsep).1
      have h2 := (List.nodup_cons.1 (List.nodup_cons.1 hsep).2).1
      refine ⟨fun e => h1 (by rw [e]; exact List.mem_cons_self ..), fun e => h1 ?_, fun e => h2 ?_⟩
      · rcases List.mem_append.1 e with e | e
        · exact List.mem_cons_of_mem _ (List.mem_append_left _ e)
        · exact List.mem_cons_of_mem _ (List.mem_append_right _ (List.mem_append_right _ e))
      · rcases List.mem_append.1 e with e | e
        · exact List.mem_append_left _ e
        · exact List.mem_append_right _ (List.mem_append_right _ e)
    rw [List.nodup_cons, List.nodup_cons, List.nodup_append, List.nodup_append]
    refine ⟨?_, ?_, hp, ⟨hnd, hqn, fun b hb c hc => hnew b hb c (List.mem_cons_of_mem _ (List.mem_cons_of_mem _ (List.mem_append_right _ hc)))⟩, ?_⟩
    · intro e
      rcases List.mem_cons.1 e with e | e
      · exact ham.1 e
      rcases List.mem_append.1 e with e | e
      · exact ham.2.1 (List.mem_append_left _ e)
      rcases List.mem_append.1 e with e | e
      · exact hnew a e a (List.mem_cons_self ..) rfl
      · exact ham.2.1 (List.mem_append_right _ e)
    · intro e
      rcases List.mem_append.1 e with e | e
      · exact ham.2.2 (List.mem_append_left _ e)
      rcases List.mem_append.1 e with e | e
      · exact hnew m e m (List.mem_cons_of_mem _ (List.mem_cons_self ..)) rfl
      · exact ham.2.2 (List.mem_append_right _ e)
    · intro b hb c hc
      rcases List.mem_append.1 hc with hc | hc
      · exact fun e => hnew c hc b (List.mem_cons_of_mem _ (List.mem_cons_of_mem _ (List.mem_append_left _ hb))) e.symm
      · exact hpx b hb c (List.mem_append_right _ hc)
  · intro b hb
    rw [e2, blkT_split] at hb
    simp only [List.mem_cons, List.mem_append] at hb
    rcases hb with h | h | h | h | h
    · exact hbase b (by rw [h]; exact List.mem_cons_self ..)
    · exact hbase b (by rw [h]; exact List.mem_cons_of_mem _ (List.mem_cons_self ..))
    · exact hbase b (List.mem_cons_of_mem _ (List.mem_cons_of_mem _ (List.mem_append_left _ h)))
    · rcases hbl b h with h1 | h1
      · exact hbase b (List.mem_cons_of_mem _ (List.mem_cons_of_mem _ (List.mem_append_right _ (List.mem_append_left _ h1))))
      · omega
    · exact hbase b (List.mem_cons_of_mem _ (List.mem_cons_of_mem _ (List.mem_append_right _ (List.mem_append_right _ h))))
  · have hso := h.sort
    rw [sortO_ids] at hso ⊢
    have : idsO (obT (repT T o x')) = idsO (obT T) := by
      rw [e2]
      conv => rhs; rw [e1]
      simp [idsO, obT, hid]
    rw [this]
    exact hso
  · intro y hy
    rw [e2] at hy
    rcases List.mem_append.1 hy with hy | hy
    · exact h.rng y (by rw [e1]; exact List.mem_append_left _ hy)
    · rcases List.mem_cons.1 hy with rfl | hy
      · rw [hid]; exact h.rng x hxm
      · exact h.rng y (by rw [e1]; exact List.mem_append_right _ (List.mem_cons_of_mem _ hy))
end Go.Proofs.YtnphgcbknfmapaaGreatDoor
namespace Go.Proofs.YtnphgcbknfmapaaGreatDoor
open Go.RowKit Go.Lib
set_option linter.unusedVariables false

theorem ref_c {w : World} {B a m : Nat} {T : List OM} {mx o : Int} (h : Tab w B a m T mx) (ho : I64 o) :
    Calls Tryz.prog 54 #[.pointer (some ⟨a, 0, none⟩), .int .i64 o] w fun e w' => e = .returned (ptrT T o) ∧ w = w' := by
  have c0 := h.c0
  have hl := h.look ho
  clear h
  go_enter Tryz.func54, Tryz.ntmps54
  go_wp2_with fail
  go_ret
  exact ⟨rfl, rfl⟩

/-- The place of the first property of a name. -/
def slotI (ss : List SL) (n : ByteArray) : Option Nat := ss.findIdx? fun s => s.name.toList == n.toList
def slotV (x : OM) (n : ByteArray) : Value := match slotI x.o.slots n, x.sv with
  | some i, .slice (some a) _ _ => .pointer (some ⟨a.block, i * 8, none⟩)
  | _, _ => .pointer none
def slotW : Option Nat → Option Addr → Value
  | some i, some a => .pointer (some ⟨a.block, i * 8, none⟩)
  | _, _ => .pointer none
theorem slCells_at : ∀ (ss : List SL) (i : Nat) (s : SL) (j : Nat), ss[i]? = some s → j < 8 → (ss.flatMap SL.cells)[i * 8 + j]? = s.cells[j]?
  | [], i, s, j, h, _ => by simp at h
  | x :: r, 0, s, j, h, hj => by
    simp only [List.getElem?_cons_zero, Option.some.injEq] at h
    subst h
    rw [List.flatMap_cons, Nat.zero_mul, Nat.zero_add, List.getElem?_append_left (by simp [SL.cells]; omega)]
  | x :: r, i + 1, s, j, h, hj => by
    simp only [List.getElem?_cons_succ] at h
    have ih := slCells_at r i s j h hj
    rw [List.flatMap_cons, List.getElem?_append_right (by simp [SL.cells]; omega)]
    rw [show (i + 1) * 8 + j - x.cells.length = i * 8 + j from by simp [SL.cells]; omega]
    exact ih
theorem slotI_none {ss : List SL} {n : ByteArray} (h : slotI ss n = none) : ∀ (i : Nat) (s : SL), ss[i]? = some s → (s.name.toList == n.toList) = false := by
  intro i s hs
  unfold slotI at h
  rw [List.findIdx?_eq_none_iff] at h
  exact h s (List.mem_of_getElem? hs)
theorem slotI_some {ss : List SL} {n : ByteArray} {i : Nat} (h : slotI ss n = some i) : (∃ s, ss[i]? = some s ∧ (s.name.toList == n.toList) = true) ∧ ∀ (j : Nat) (s : SL), j < i → ss[j]? = some s → (s.name.toList == n.toList) = false := by
  unfold slotI at h
  rw [List.findIdx?_eq_some_iff_getElem] at h
  obtain ⟨h1, h2, h3⟩ := h
  refine ⟨⟨ss[i], List.getElem?_eq_getElem h1, h2⟩, fun j s hj hs => ?_⟩
  have h4 := h3 j hj
  obtain ⟨h5, h6⟩ := List.getElem?_eq_some_iff.1 hs
  rw [h6] at h4
  simpa using h4

set_option maxRecDepth 100000 in
set_option maxHeartbeats 2000000 in
theorem slot_c {w : World} {B : Nat} {x : OM} (h : ObjAt w B x) (n : ByteArray) :
    Calls Tryz.prog 62 #[.pointer (some ⟨x.g, 0, none⟩), .string n] w fun e w' => e = .returned (slotV x n) ∧ w = w' := by
  have h8 : w.cell? ⟨x.g, 8, none⟩ = some x.sv := h.cell 8
  obtain ⟨A, c, hsv, hnc, hcm, hA, hcell⟩ := own_formO h.slots
  unfold maxLen at hcm
  have hV : slotV x n = slotW (slotI x.o.slots n) A := by
    simp only [slotV, hsv]
    cases slotI x.o.slots n <;> cases A <;> rfl
  rw [hsv] at h8
  have HCL := Lib.hid hcell
  have HV := Lib.hid hV
  obtain ⟨V, hVV⟩ : ∃ V, V = slotV x n := ⟨_, rfl⟩
  rw [← hVV] at HV ⊢
  clear h hcell hsv hV hVV
  go_enter Tryz.func62, Tryz.ntmps62
  go_wp2_with fail
  go_loopg [11] x.o.slots.length (fun kk iv wr => ∃ i : Nat, iv = .int .i64 (i : Int) ∧ i + kk = x.o.slots.length ∧ w = wr ∧ Hid (∀ j, slotI x.o.slots n = some j → i ≤ j))
  case atStart => exact ⟨0, rfl, by omega, rfl, fun j _ => Nat.zero_le _⟩
  case round =>
    obtain ⟨i, rfl, hik, rfl, hq⟩ := hrel
    by_cases hi : i < x.o.slots.length
    · obtain ⟨j, rfl⟩ : ∃ j, gk = j + 1 := ⟨gk - 1, by omega⟩
      obtain ⟨s, hs⟩ : ∃ s, x.o.slots[i]? = some s := ⟨x.o.slots[i], List.getElem?_eq_some_iff.2 ⟨hi, rfl⟩⟩
      obtain ⟨g, rfl, hc⟩ := HCL.out (i * 8 + 0) (.string s.name) (by rw [slCells_at _ _ _ 0 hs (by omega)]; rfl)
      rw [Nat.add_zero] at hc
      cases hb : (s.name.toList == n.toList) with
      | true =>
        have hsi : slotI x.o.slots n = some i := by
          cases hsi : slotI x.o.slots n with
          | none => have := slotI_none hsi i s hs; rw [hb] at this; cases this
          | some k =>
            have h1 := hq.out k hsi
            have h2 := slotI_some hsi
            rcases Nat.lt_or_ge i k with h3 | h3
            · have := h2.2 i s h3 hs; rw [hb] at this; cases this
            · rw [show k = i from by omega]
        have HVV := HV.out
        rw [hsi] at HVV
        have HVV := Lib.hid HVV
        clear hq hs hsi
        go_wp2_with fail
        go_ret
        exact ⟨by rw [HVV.out]; rfl, rfl⟩
      | false =>
        have hq2 : ∀ k, slotI x.o.slots n = some k → i + 1 ≤ k := by
          intro k hsi
          have h1 := hq.out k hsi
          rcases Nat.lt_or_ge i k with h3 | h3
          · omega
          · obtain ⟨⟨s', hs', hb'⟩, _⟩ := slotI_some hsi
            obtain rfl : i = k := by omega
            rw [hs] at hs'
            injection hs' with hs'
            rw [← hs', hb] at hb'
            cases hb'
        have HQ := Lib.hid hq2
        clear hq hs hq2
        go_wp2_with fail
        go_roundg j
        case measure => omega
        case rel => exact ⟨i + 1, by go_num, by omega, rfl, HQ.out⟩
    · obtain rfl : i = x.o.slots.length := by omega
      have hsn : slotI x.o.slots n = none := by
        cases hsi : slotI x.o.slots n with
        | none => rfl
        | some k =>
          have h1 := hq.out k hsi
          obtain ⟨⟨s', hs', _⟩, _⟩ := slotI_some hsi
          have := (List.getElem?_eq_some_iff.1 hs').1
          omega
      have HVV := HV.out
      rw [hsn] at HVV
      have HVV := Lib.hid HVV
      clear hq hsn
      go_wp2_with fail
      go_ret
      exact ⟨by rw [HVV.out]; rfl, rfl⟩
end Go.Proofs.YtnphgcbknfmapaaGreatDoor
namespace Go.Proofs.YtnphgcbknfmapaaGreatDoor
open Go.RowKit Go.Lib
set_option linter.unusedVariables false

theorem slotV_some {w : World} {B : Nat} {x : OM} (h : ObjAt w B x) {n : ByteArray} {i : Nat} (hi : slotI x.o.slots n = some i) : ∃ g k c, x.sv = .slice (some ⟨g, 0, none⟩) k c ∧ slotV x n = .pointer (some ⟨g, i * 8, none⟩) := by
  obtain ⟨A, c, hsv, _, _, hA, hcell⟩ := own_formO h.slots
  obtain ⟨⟨s, hs, _⟩, _⟩ := slotI_some hi
  obtain ⟨g, rfl, _⟩ := hcell (i * 8 + 0) (.string s.name) (by rw [slCells_at _ _ _ 0 hs (by omega)]; rfl)
  refine ⟨g, _, c, hsv, ?_⟩
  simp only [slotV, hsv, hi]
theorem slotV_none {x : OM} {n : ByteArray} (hi : slotI x.o.slots n = none) : slotV x n = .pointer none := by
  simp only [slotV, hi]
set_option maxHeartbeats 1000000 in
theorem find_some {w : World} {B a m : Nat} {T : List OM} {mx o : Int} (h : Tab w B a m T mx) (ho : I64 o) (n : ByteArray) {x : OM} (hf : findT T o = some x) {i g k c : Nat} (hs : slotI x.o.slots n = some i) (hsv : x.sv = .slice (some ⟨g, 0, none⟩) k c) :
    Calls Tryz.prog 57 #[.pointer (some ⟨a, 0, none⟩), .int .i64 o, .string n] w fun e w' => e = .returned (.tuple #[.pointer (some ⟨g, i * 8, none⟩), .int .i64 0]) ∧ w = w' := by
  have CR := ref_c h ho
  rw [ptrT_some hf] at CR
  have CS := slot_c (h.objs x (findT_some hf).1) n
  have hv : slotV x n = .pointer (some ⟨g, i * 8, none⟩) := by simp only [slotV, hsv, hs]
  rw [hv] at CS
  clear h hf hs hv hsv
  go_enter Tryz.func57, Tryz.ntmps57
  go_wp2_with fail
  refine CR.mono ?_
  rintro e w' ⟨rfl, rfl⟩
  go_wp2_with fail
  refine CS.mono ?_
  rintro e w' ⟨rfl, rfl⟩
  go_wp2_with fail
  go_ret2
  exact ⟨rfl, rfl⟩

/-- A slot's cells, as a value. -/
def SL.val (s : SL) : Value := .agg #[.string s.name, .int .i64 s.owner, .int .i64 s.bits, .bool s.clear, .int .i64 s.kind, .int .i64 s.num, .string s.text, .slice none 0 0]
set_option maxRecDepth 100000 in
set_option maxHeartbeats 4000000 in
theorem fresh_c (s : SL) (ow : Int) (w : World) (h0 : 0 ≤ s.bits) (h1 : s.bits ≤ 7) :
    Calls Tryz.prog 46 #[s.val, .int .i64 ow] w fun e w' => e = .returned (freshO s ow).val ∧ Below w.heap.size w w' := by
  obtain ⟨nm, owner, bits, clr, kind, num, text⟩ := s
  unfold SL.val freshO
  simp only at h0 h1 ⊢
  have hc : bits = 0 ∨ bits = 1 ∨ bits = 2 ∨ bits = 3 ∨ bits = 4 ∨ bits = 5 ∨ bits = 6 ∨ bits = 7 := by omega
  rcases hc with rfl | rfl | rfl | rfl | rfl | rfl | rfl | rfl
  all_goals
    clear h0 h1
    go_enter Tryz.func46, Tryz.ntmps46
    go_wp2_with fail
    exact bodyPost_ret (results_cell_row (P := Tryz.prog) rfl _ _ (w.heap.size + 1) _ _ _ _ rfl ((Below.heap_alloc _ _ _ (by simp)).trans (heap_alloc2_new _ _ _)) Tryz.underlying35 rfl (by kernel_rfl)) rfl ⟨rfl, (((Below.refl _ _).alloc (Nat.le_refl _) _).alloc (by simp) _).alloc (by simp; omega) _⟩
end Go.Proofs.YtnphgcbknfmapaaGreatDoor
namespace Go.Proofs.YtnphgcbknfmapaaGreatDoor
open Go.RowKit Go.Lib
set_option linter.unusedVariables false

end Go.Proofs.YtnphgcbknfmapaaGreatDoor
namespace Go.Proofs.YtnphgcbknfmapaaGreatDoor
open Go.RowKit Go.Lib
set_option linter.unusedVariables false

/-- No object has a name of its own, or a property. -/
def BareM (T : List OM) : Prop := ∀ x ∈ T, x.dv = .slice none 0 0 ∧ x.sv = .slice none 0 0
theorem mem_above {T : List OM} {o : Int} {x : Int} (h : x ∈ aboveO (obT T) o) : ∃ y ∈ T, findT T x = some y := by
  unfold aboveO at h
  revert h
  generalize (obT T).length + 1 = n
  intro h
  induction n generalizing o with
  | zero => simp [abvO] at h
  | succ n ih =>
    rw [abvO, getO_obT] at h
    cases hf : findT T o with
    | none => rw [hf] at h; simp at h
    | some y =>
      rw [hf] at h
      simp only [Option.map_some, List.mem_cons] at h
      rcases h with rfl | h
      · exact ⟨y, (findT_some hf).1, by rw [(findT_some hf).2]; exact hf⟩
      · exact ih h
theorem ostr_info : (Tryz.prog.info? 9).map (fun i => (i.zero, i.size, i.bytes)) = some (some (.string ⟨#[]⟩), 1, 16) := by kernel_rfl
end Go.Proofs.YtnphgcbknfmapaaGreatDoor
namespace Go.Proofs.YtnphgcbknfmapaaGreatDoor
open Go.RowKit Go.Lib
set_option linter.unusedVariables false

theorem Tab.drew {w : World} {B a m : Nat} {T : List OM} {mx : Int} (h : Tab w B a m T mx) : Tab w.drew B a m T mx := h.keep fun _ _ => rfl
theorem BareM.upd {T : List OM} (h : BareM T) (o : Int) (f : OB → OB) : BareM (updT T o f) := by
  intro y hy
  obtain ⟨z, hz, ⟨_, rfl⟩ | ⟨_, rfl⟩⟩ := mem_updT hy
  · exact h z hz
  · exact h y hz
theorem ParI.setP {T : List OM} (h : ParI T) (o p : Int) (hp : I64 p) : ParI (updT T o (setP p)) := by
  intro y hy
  obtain ⟨z, hz, ⟨_, rfl⟩ | ⟨_, rfl⟩⟩ := mem_updT hy
  · exact hp
  · exact h y hz
theorem blk_in {T : List OM} {x : OM} (hx : x ∈ T) : x.g ∈ blkT T := List.mem_flatMap.2 ⟨x, hx, OM.mem_blocks.2 (.inl rfl)⟩

end Go.Proofs.YtnphgcbknfmapaaGreatDoor
namespace Go.Proofs.YtnphgcbknfmapaaGreatDoor
open Go.RowKit Go.Lib
set_option linter.unusedVariables false

/-- A table without properties in memory. -/
structure TB (w : World) (B a m : Nat) (T : List OM) (mx : Int) : Prop where
  tab : Tab w B a m T mx
  ok : OkT (obT T) mx
  bare : BareM T
/-- What a change leaves: a table again; all but its own blocks is as it was. -/
structure Stp (w w' : World) (B a m : Nat) (T T' : List OM) (mx mx' : Int) : Prop where
  tb : TB w' B a m T' mx'
  chg : Chg (fun b => b ∈ a :: m :: blkT T) w w'
  new : ∀ b ∈ blkT T', b ∈ blkT T ∨ w.heap.size ≤ b
theorem TB.keep {w w' : World} {B a m : Nat} {T : List OM} {mx : Int} (h : TB w B a m T mx) (hb : Below w.heap.size w w') : TB w' B a m T mx := ⟨h.tab.below hb, h.ok, h.bare⟩
theorem Stp.refl {w : World} {B a m : Nat} {T : List OM} {mx : Int} (h : TB w B a m T mx) : Stp w w B a m T T mx mx := ⟨h, .refl _ _, fun b hb => .inl hb⟩
theorem Stp.of_below {w w' : World} {B a m : Nat} {T : List OM} {mx : Int} (h : TB w B a m T mx) (hb : Below w.heap.size w w') : Stp w w' B a m T T mx mx := ⟨h.keep hb, .of_below hb, fun b hb => .inl hb⟩
theorem Stp.trans {w w1 w2 : World} {B a m : Nat} {T T1 T2 : List OM} {mx mx1 mx2 : Int} (h : Stp w w1 B a m T T1 mx mx1) (k : Stp w1 w2 B a m T1 T2 mx1 mx2) : Stp w w2 B a m T T2 mx mx2 := by
  refine ⟨k.tb, h.chg.trans' k.chg ?_, ?_⟩
  · intro i hi hm
    rcases List.mem_cons.1 hm with rfl | hm
    · exact List.mem_cons_self ..
    rcases List.mem_cons.1 hm with rfl | hm
    · exact List.mem_cons_of_mem _ (List.mem_cons_self ..)
    rcases h.new i hm with h1 | h1
    · exact List.mem_cons_of_mem _ (List.mem_cons_of_mem _ h1)
    · omega
  · intro b hb
    rcases k.new b hb with h1 | h1
    · exact h.new b h1
    · exact .inr (Nat.le_trans h.chg.size h1)
end Go.Proofs.YtnphgcbknfmapaaGreatDoor
namespace Go.Proofs.YtnphgcbknfmapaaGreatDoor
open Go.RowKit Go.Lib
set_option linter.unusedVariables false

theorem Stp.under {w w1 w' : World} {B a m : Nat} {T : List OM} {mx o p : Int} (h : TB w B a m T mx) (hb : Below w.heap.size w w1) (hT : Tab w' B a m (updT T o (setP p)) mx) (hc : Chg (fun b => b ∈ blkT T) w1 w') (hp : p = -1 ∨ hasO (obT T) p = true) (hi : o ∉ rowO (obT T) OB.parent p) : Stp w w' B a m T (updT T o (setP p)) mx mx := by
  refine ⟨⟨hT, ?_, h.bare.upd o _⟩, (Chg.of_below hb).trans' hc ?_, ?_⟩
  · rw [obT_upd]
    exact h.ok.chparent hp hi
  · intro i _ hm
    exact List.mem_cons_of_mem _ (List.mem_cons_of_mem _ hm)
  · intro b hb
    rw [blkT_upd] at hb
    exact .inl hb
end Go.Proofs.YtnphgcbknfmapaaGreatDoor
