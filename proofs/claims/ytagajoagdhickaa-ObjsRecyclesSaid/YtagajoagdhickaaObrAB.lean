/- Contracts of the functions that the statement reaches, and the plain mathematics beneath: several texts joined. -/
import Derived.Shelf.SlIterI.Nil
import Derived.Laws.AppendOwn
import Derived.Deep.LoopGhost
import Derived.WalkSmall
import Derived.Deep.RegionHeld3
import Derived.Test.YtagajoagdhickaaObrAA
import Derived.Test.YtagajoagdhickaaShelf
namespace Go.Proofs.Ytagajoagdhickaa
open Go.RowKit Go.Lib Go.Maps Go.Sort Go.Shelf
set_option linter.unusedVariables false

theorem sortsI (k : Nat) : AnyZI.SortsIn Try.prog Try.sortedI_ren Fence.wide k :=
  ⟨fun blk off cap ss W hH hblk hsz => callsIn_wide.2 (Try.slices_Sort_int blk off cap ss W hH hblk hsz), fun p cap W => callsIn_wide.2 (Try.slices_Sort_int_none p cap W)⟩

theorem ids_sorted {T : List OM} (hs : SortO (obT T)) {ss : List Int} (h : ss.Perm (T.map fun x => x.o.id)) : ss.mergeSort (fun x y => decide (x ≤ y)) = idsO (obT T) := by
  have e : (T.map fun x => x.o.id) = idsO (obT T) := by simp [idsO, obT]
  rw [e] at h
  rw [mergeSort_of_perm_i h]
  apply List.mergeSort_of_pairwise
  rw [sortO_ids] at hs
  exact hs.imp fun h => by simp; omega

set_option maxHeartbeats 1000000 in
theorem ids_c {w : World} {B a m : Nat} {T : List OM} {mx : Int} (h : Tab w B a m T mx) :
    Calls Try.prog 36 #[.pointer (some ⟨a, 0, none⟩)] w fun e w' => ∃ v, e = .returned v ∧ w'.ownsRow w.heap.size 3 1 v T.length ((idsO (obT T)).map (Value.int .i64)) ∧ Below w.heap.size w w' := by
  refine (callsIn_wide (n := 6)).1 ?_
  have hown := h.map
  have hbl := hown.lt
  have hmax : Maps.size (DataW.map (datT T)) ≤ maxLen := by rw [datT_size]; have := h.few; unfold maxLen; omega
  have hbytes : Maps.size (DataW.map (datT T)) * 8 ≤ 140737488355328 := by rw [datT_size]; have := h.few; omega
  have hseq : SeqGives Fence.wide 2 Try.prog 63 #[.pointer (some ⟨w.heap.size, 0, none⟩)] encZ (fun ss => ss.Perm (intKeys (DataW.map (datT T)))) (Maps.size (DataW.map (datT T))) (w.alloc (.cells #[.map (some m)] 51)) :=
    AnyZI.keys_gives (ρ := Try.keysI_ren) { Try.keysI with } Fence.wide _ trivial rfl (by omega) w.heap.size m T.length _ _ (by simp) (by simp) (by
      obtain ⟨es, clock, hb, Ft, hs, hD⟩ := hown
      exact ⟨es, clock, (Below.heap_alloc _ _ m hbl).trans hb, Ft, hs, hD⟩)
  have cK : ∀ mb W, CallsIn Fence.wide 5 Try.prog 52 #[.map mb] W fun e w' => e = .returned (.func (.func 63) #[] #[.pointer (some ⟨W.heap.size, 0, none⟩)]) ∧ w' = W.alloc (.cells #[.map mb] 51) := fun mb W => AnyZI.keys_in Try.keysI Fence.wide 5 trivial rfl mb W
  have cS := AnyZI.sorted_in Try.sortedI Fence.wide 5 trivial trivial trivial trivial rfl (by omega) (sortsI _) (enters_of Try.func62 (by kernel_rfl) rfl) 63 #[.pointer (some ⟨w.heap.size, 0, none⟩)] trivial (enters_of Try.func63 (by kernel_rfl) rfl) _ _ hmax hbytes _ hseq
  change CallsIn _ _ Try.prog 51 _ _ _ at cS
  have hfK : Fence.wide.fn 52 := trivial
  have hfS : Fence.wide.fn 51 := trivial
  have c0 := h.c0
  have H := Lib.hid h
  clear h hown hmax hbytes
  refine callsIn_of_wp Try.func36 rfl trivial ?_ rfl
  simp only [Try.ntmps36, List.size_toArray, List.length_cons, List.length_nil, Nat.reduceAdd, Nat.reduceSub, Array.replicate_succ, Array.replicate_zero, List.push_toArray, List.append_toArray, List.nil_append, List.cons_append]
  gi_wp2_with (first
    | (gi_at_call 52; refine (cK _ _).mono ?_; rintro e w' ⟨rfl, rfl⟩)
    | (gi_at_call 51; refine cS.mono ?_; rintro e w' ⟨v, ss, rfl, hS, hrow, hnil, hb⟩))
  go_ret
  rw [datT_keys] at hS
  have hlen : ss.length = T.length := by rw [hS.length_eq]; simp
  rw [ids_sorted H.out.sort hS, hlen] at hrow
  exact ⟨v, rfl, ownsRow_base_a hrow (by simp), ((Below.refl _ w).alloc (Nat.le_refl _) _).trans (hb.mono (by simp))⟩
end Go.Proofs.Ytagajoagdhickaa
namespace Go.Proofs.Ytagajoagdhickaa
open Go.RowKit Go.Lib
set_option linter.unusedVariables false

theorem oint_info : (Try.prog.info? 3).map (fun i => (i.zero, i.size, i.bytes)) = some (some (.int .i64 0), 1, 8) := by kernel_rfl
def intsO (l : List Int) : List Value := l.map (Value.int .i64)
theorem intsO_app (a b : List Int) : intsO (a ++ b) = intsO a ++ intsO b := by simp [intsO]
theorem own_keepO {W W' : World} {base e size n : Nat} {v : Value} {xs : List Value} (h : W.ownsRow base e size v n xs) (hb : Below W.heap.size W W') : W'.ownsRow base e size v n xs :=
  ownsRow_same h fun b hk => hb.block b (h.lt b hk).2
theorem own_formO {W : World} {base e size n : Nat} {v : Value} {xs : List Value} (h : W.ownsRow base e size v n xs) : ∃ (A : Option Addr) (C : Nat), v = .slice A n C ∧ n ≤ C ∧ C ≤ maxLen ∧ (A = none → n = 0) ∧ ∀ (j : Nat) (u : Value), xs[j]? = some u → ∃ g, A = some ⟨g, 0, none⟩ ∧ W.cell? ⟨g, j, none⟩ = some u := by
  rcases h.2 with ⟨rfl, h0⟩ | ⟨g, cap, cur, rfl, hb, hh, hn, hm, r⟩
  · subst h0
    have hx : xs = [] := List.eq_nil_of_length_eq_zero (by rw [h.1]; omega)
    subst hx
    exact ⟨none, 0, rfl, Nat.le_refl _, by unfold maxLen; omega, fun _ => rfl, fun j u hu => by simp at hu⟩
  · refine ⟨some ⟨g, 0, none⟩, cap, rfl, hn, hm, (fun e => by cases e), fun j u hu => ⟨g, rfl, ?_⟩⟩
    have h3 := h.cells (g := g) rfl j u hu
    have e : (⟨g, 0, none⟩ : Addr).add j = ⟨g, j, none⟩ := by unfold Addr.add; split <;> simp_all
    rw [e] at h3
    exact h3

/-- The chosen ones' numbers. -/
def accO (T : List OM) (p : OB → Bool) (k : Nat) : List Int := ((T.take k).filter fun x => p x.o).map fun x => x.o.id
theorem accO_yes {T : List OM} {p : OB → Bool} {k : Nat} {x : OM} (h : T[k]? = some x) (hp : p x.o = true) : accO T p (k + 1) = accO T p k ++ [x.o.id] := by
  unfold accO
  rw [List.take_add_one, h]
  simp [List.filter_append, hp]
theorem accO_no {T : List OM} {p : OB → Bool} {k : Nat} {x : OM} (h : T[k]? = some x) (hp : p x.o = false) : accO T p (k + 1) = accO T p k := by
  unfold accO
  rw [List.take_add_one, h]
  simp [List.filter_append, hp]
theorem accO_len (T : List OM) (p : OB → Bool) (k : Nat) : (accO T p k).length ≤ k := by
  unfold accO
  rw [List.length_map]
  exact Nat.le_trans (List.length_filter_le _ _) (List.length_take_le _ _)
theorem accO_all (T : List OM) (p : OB → Bool) : accO T p T.length = ((obT T).filter p).map OB.id := by
  unfold accO obT
  rw [List.take_length, List.filter_map, List.map_map]
  rfl
theorem findT_at {T : List OM} (hs : SortO (obT T)) {k : Nat} {x : OM} (h : T[k]? = some x) : findT T x.o.id = some x := by
  have hm : x ∈ T := List.mem_of_getElem? h
  unfold findT
  unfold SortO obT at hs
  rw [List.pairwise_map] at hs
  clear h
  induction T with
  | nil => cases hm
  | cons y r ih =>
    rw [List.pairwise_cons] at hs
    rw [List.find?_cons]
    rcases List.mem_cons.1 hm with rfl | h
    · simp
    · have := hs.1 x h
      have e : (y.o.id == x.o.id) = false := by simp; omega
      rw [e]
      exact ih hs.2 h

/-- What a choice answers of each object. -/
def AskO (w : World) (T : List OM) (g : Nat) (C : Nat) (p : OB → Bool) : Prop :=
  ∀ (W : World) (x : OM), Below w.heap.size w W → x ∈ T → Calls Try.prog g #[.pointer (some ⟨x.g, 0, none⟩), .pointer (some ⟨C, 0, none⟩)] W fun e w' => e = .returned (.bool (p x.o)) ∧ ∃ n, w' = W.drewN n

set_option maxRecDepth 100000 in
set_option maxHeartbeats 2000000 in
theorem those_c {w : World} {B a m : Nat} {T : List OM} {mx : Int} (h : Tab w B a m T mx) (g C : Nat) (p : OB → Bool) (eg : ∀ args w, (callFunc g args).run Try.prog w = .ok (.enter g args) w) (hp : AskO w T g C p) :
    Calls Try.prog 32 #[.pointer (some ⟨a, 0, none⟩), .func (.func g) #[] #[.pointer (some ⟨C, 0, none⟩)]] w fun e w' => ∃ v, e = .returned v ∧ w'.ownsRow w.heap.size 3 1 v (((obT T).filter p).map OB.id).length (intsO (((obT T).filter p).map OB.id)) ∧ Below w.heap.size w w' := by
  obtain ⟨i0, hi0, hz0, hz1, hz2⟩ := info_parts oint_info
  rw [← accO_all]
  have CI := Lib.hid (ids_c h)
  have H := Lib.hid h
  have HP := Lib.hid hp
  have hfew := h.few
  clear h hp
  go_enter Try.func32, Try.ntmps32
  go_wp2_with fail
  refine CI.out.mono ?_
  rintro e w1 ⟨v, rfl, hrow, hb1⟩
  obtain ⟨A, c, rfl, hnc, hcm, hA, hcell⟩ := own_formO hrow
  have HB1 := Lib.hid hb1
  have HR := Lib.hid hrow
  have HCL := Lib.hid hcell
  have hs1 := hb1.size
  have hal := H.out.lt a (List.mem_cons_self ..)
  clear hb1 hrow hcell
  go_wp2_with fail
  go_loopg [5, 11] T.length (fun kk ov iv wr => ∃ (V : Value) (k : Nat), V = ov ∧ iv = .int .i64 (k : Int) ∧ k + kk = T.length ∧ wr.ownsRow w1.heap.size 3 1 V (accO T p k).length (intsO (accO T p k)) ∧ Below w1.heap.size w1 wr)
  case atStart => exact ⟨.slice none 0 0, 0, rfl, rfl, by omega, World.ownsRow_nil _ _ _ _, Below.refl _ _⟩
  case round =>
    obtain ⟨V, k, rfl, rfl, hik, hrow, hbr⟩ := hrel
    have hrz := hbr.size
    have hal := accO_len T p k
    by_cases hk : k < T.length
    · obtain ⟨j, rfl⟩ : ∃ j, gk = j + 1 := ⟨gk - 1, by omega⟩
      obtain ⟨x, hx⟩ : ∃ x, T[k]? = some x := ⟨T[k], List.getElem?_eq_some_iff.2 ⟨hk, rfl⟩⟩
      have hxm : x ∈ T := List.mem_of_getElem? hx
      obtain ⟨g1, rfl, hc1⟩ := HCL.out k (.int .i64 x.o.id) (by simp [idsO, obT, hx])
      have hg1 := HR.out.lt g1 rfl
      have hbw : Below w.heap.size w wr := HB1.out.trans (hbr.mono hs1)
      have ht := H.out.below hbw
      have c0 := ht.c0
      have hrx := H.out.rng x hxm
      have hmx := H.out.mxr
      have hl := ht.look (o := x.o.id) ⟨by omega, by omega⟩
      have hfx := findT_at H.out.sort hx
      unfold ptrT at hl
      rw [hfx] at hl
      have hcr : wr.cell? ⟨g1, k, none⟩ = some (.int .i64 x.o.id) := (hbr.cell (p := ⟨g1, k, none⟩) hg1.2).trans hc1
      have CP := Lib.hid (HP.out wr x hbw hxm)
      have HROW := Lib.hid hrow
      have HBR := Lib.hid hbr
      have HX := Lib.hid hx
      clear hrow hbr hx hfx hbw ht hc1 hrx hmx
      go_wp2_with fail
      refine CP.out.mono ?_
      rintro e w2 ⟨rfl, n2, rfl⟩
      cases hpx : p x.o with
      | true =>
        have hyes := Lib.hid (accO_yes HX.out hpx)
        go_wp2_with (at_builtin; refine wpList_append_own _ rfl (.tmp 23) (.tmp 25) 22 rfl w1.heap.size 3 i0 (.int .i64 0) 1 8 Try.underlying22 hi0 hz0 hz1 hz2 rfl (by decide) V (accO T p k).length (intsO (accO T p k)) rfl (own_keepO (own_keepO HROW.out (below_drewN (Below.refl _ _) _)) ((Below.refl _ _).alloc (Nat.le_refl _) _)) ⟨(wr.drewN n2).heap.size, 0, none⟩ 1 1 [.int .i64 x.o.id] rfl rfl ?c1 ?c2 ?c3 ?c4 ?c5 ?c6
                     case c1 => exact cell_one_new _ _ _
                     case c2 => intro u hu; simp at hu; subst hu; rfl
                     case c3 => unfold maxLen; omega
                     case c4 => omega
                     case c5 => simp; omega
                     intro v' w11 hown' hgrow _
                     have HB11 := Lib.hid (Below.grown ((HBR.out.trans (below_drewN (Below.refl _ _) _)).alloc (by simp; omega) _) hgrow (by simp; omega) (fun k hk => (HROW.out.lt k hk).1))
                     have HO11 := Lib.hid hown'
                     clear hown' hgrow)
        go_roundg j
        case measure => omega
        case rel => exact ⟨v', k + 1, rfl, by go_num, by omega, by
          have h := HO11.out
          rw [hyes.out, intsO_app, List.length_append]; exact h, HB11.out⟩
      | false =>
        have hno := Lib.hid (accO_no HX.out hpx)
        go_wp2_with fail
        go_roundg j
        case measure => omega
        case rel => exact ⟨V, k + 1, rfl, by go_num, by omega, by rw [hno.out]; exact own_keepO HROW.out (below_drewN (Below.refl _ _) _), HBR.out.trans (below_drewN (Below.refl _ _) _)⟩
    · obtain rfl : k = T.length := by omega
      have HROW := Lib.hid hrow
      have HBR := Lib.hid hbr
      clear hrow hbr
      go_wp2_with fail
      go_ret
      exact ⟨V, rfl, ownsRow_base_a HROW.out hs1, HB1.out.trans (HBR.out.mono hs1)⟩
end Go.Proofs.Ytagajoagdhickaa
namespace Go.Proofs.Ytagajoagdhickaa
open Go.RowKit Go.Lib
set_option linter.unusedVariables false

theorem cellX {w W : World} {B a m : Nat} {T : List OM} {mx : Int} (h : Tab w B a m T mx) (hb : Below w.heap.size w W) {x : OM} (hx : x ∈ T) (j : Nat) : W.cell? ⟨x.g, j, none⟩ = x.cells[j]? :=
  (h.objs x hx).keep (fun b hk => hb.block b ((h.objs x hx).lt b hk)) |>.cell j
theorem askP {w : World} {B a m : Nat} {T : List OM} {mx o : Int} (h : Tab w B a m T mx) : AskO (w.alloc (.cells #[.int .i64 o] 3)) T 33 w.heap.size (fun x => x.parent == o) := by
  intro W x hb hx
  have hw : Below w.heap.size w W := ((Below.refl _ _).alloc (Nat.le_refl _) _).trans (hb.mono (by simp))
  have hc : W.cell? ⟨w.heap.size, 0, none⟩ = some (.int .i64 o) := by
    rw [hb.cell (p := ⟨w.heap.size, 0, none⟩) (by simp)]
    exact cell_of_row _ _ 0 _ _ _ (heap_alloc_new _ _)
  have h1 : W.cell? ⟨x.g, 1, none⟩ = some (.int .i64 x.o.parent) := cellX h hw hx 1
  clear hb hw h
  generalize hq : w.heap.size = C at hc ⊢
  clear hq
  go_enter Try.func33, Try.ntmps33
  go_wp2_with fail
  go_quiet (fail)
  go_wp2_with fail
  go_ret
  exact ⟨rfl, _, rfl⟩
theorem askL {w : World} {B a m : Nat} {T : List OM} {mx o : Int} (h : Tab w B a m T mx) : AskO (w.alloc (.cells #[.int .i64 o] 3)) T 35 w.heap.size (fun x => x.place == o) := by
  intro W x hb hx
  have hw : Below w.heap.size w W := ((Below.refl _ _).alloc (Nat.le_refl _) _).trans (hb.mono (by simp))
  have hc : W.cell? ⟨w.heap.size, 0, none⟩ = some (.int .i64 o) := by
    rw [hb.cell (p := ⟨w.heap.size, 0, none⟩) (by simp)]
    exact cell_of_row _ _ 0 _ _ _ (heap_alloc_new _ _)
  have h1 : W.cell? ⟨x.g, 3, none⟩ = some (.int .i64 x.o.place) := cellX h hw hx 3
  clear hb hw h
  generalize hq : w.heap.size = C at hc ⊢
  clear hq
  go_enter Try.func35, Try.ntmps35
  go_wp2_with fail
  go_quiet (fail)
  go_wp2_with fail
  go_ret
  exact ⟨rfl, _, rfl⟩

theorem kids_c {w : World} {B a m : Nat} {T : List OM} {mx o : Int} (h : Tab w B a m T mx) (ho : I64 o) :
    Calls Try.prog 18 #[.pointer (some ⟨a, 0, none⟩), .int .i64 o] w fun e w' => ∃ v, e = .returned v ∧ w'.ownsRow w.heap.size 3 1 v (kidsO (obT T) o).length (intsO (kidsO (obT T) o)) ∧ Below w.heap.size w w' := by
  obtain ⟨w1, hw1⟩ : ∃ w1, w1 = w.alloc (.cells #[.int .i64 o] 3) := ⟨_, rfl⟩
  have hb1 : Below w.heap.size w w1 := by rw [hw1]; exact (Below.refl _ _).alloc (Nat.le_refl _) _
  have CH := Lib.hid (has_c (h.below hb1) ho)
  have CT := Lib.hid (those_c (h.below hb1) 33 w.heap.size (fun x => x.parent == o) (enters_of Try.func33 (by kernel_rfl) rfl) (by rw [hw1]; exact askP h))
  have hc : w1.cell? ⟨w.heap.size, 0, none⟩ = some (.int .i64 o) := by rw [hw1]; exact cell_of_row _ _ 0 _ _ _ (heap_alloc_new _ _)
  have HB1 := Lib.hid hb1
  have HW1 := Lib.hid hw1
  clear h ho hb1 hw1
  cases hh : hasO (obT T) o with
  | true =>
    rw [hh] at CH
    have hk : kidsO (obT T) o = ((obT T).filter fun x => x.parent == o).map OB.id := by unfold kidsO; rw [if_pos hh]
    rw [hk]
    clear hk hh
    go_enter Try.func18, Try.ntmps18
    go_wp2_with fail
    rw [← HW1.out]
    go_wp2_with fail
    refine CH.out.mono ?_
    rintro e w2 ⟨rfl, rfl⟩
    go_wp2_with fail
    refine CT.out.mono ?_
    rintro e w2 ⟨v, rfl, hrow, hb2⟩
    have HR := Lib.hid hrow
    have HB2 := Lib.hid hb2
    clear hrow hb2
    go_wp2_with fail
    go_ret
    exact ⟨v, rfl, ownsRow_base_a HR.out HB1.out.size, HB1.out.trans (HB2.out.mono HB1.out.size)⟩
  | false =>
    rw [hh] at CH
    have hk : kidsO (obT T) o = [] := by unfold kidsO; rw [if_neg (by rw [hh]; decide)]
    rw [hk]
    clear hk hh CT
    go_enter Try.func18, Try.ntmps18
    go_wp2_with fail
    rw [← HW1.out]
    go_wp2_with fail
    refine CH.out.mono ?_
    rintro e w2 ⟨rfl, rfl⟩
    go_wp2_with fail
    go_ret
    exact ⟨_, rfl, World.ownsRow_nil _ _ _ _, HB1.out⟩
theorem cont_c {w : World} {B a m : Nat} {T : List OM} {mx o : Int} (h : Tab w B a m T mx) (ho : I64 o) :
    Calls Try.prog 20 #[.pointer (some ⟨a, 0, none⟩), .int .i64 o] w fun e w' => ∃ v, e = .returned v ∧ w'.ownsRow w.heap.size 3 1 v (contO (obT T) o).length (intsO (contO (obT T) o)) ∧ Below w.heap.size w w' := by
  obtain ⟨w1, hw1⟩ : ∃ w1, w1 = w.alloc (.cells #[.int .i64 o] 3) := ⟨_, rfl⟩
  have hb1 : Below w.heap.size w w1 := by rw [hw1]; exact (Below.refl _ _).alloc (Nat.le_refl _) _
  have CH := Lib.hid (has_c (h.below hb1) ho)
  have CT := Lib.hid (those_c (h.below hb1) 35 w.heap.size (fun x => x.place == o) (enters_of Try.func35 (by kernel_rfl) rfl) (by rw [hw1]; exact askL h))
  have hc : w1.cell? ⟨w.heap.size, 0, none⟩ = some (.int .i64 o) := by rw [hw1]; exact cell_of_row _ _ 0 _ _ _ (heap_alloc_new _ _)
  have HB1 := Lib.hid hb1
  have HW1 := Lib.hid hw1
  clear h ho hb1 hw1
  cases hh : hasO (obT T) o with
  | true =>
    rw [hh] at CH
    have hk : contO (obT T) o = ((obT T).filter fun x => x.place == o).map OB.id := by unfold contO; rw [if_pos hh]
    rw [hk]
    clear hk hh
    go_enter Try.func20, Try.ntmps20
    go_wp2_with fail
    rw [← HW1.out]
    go_wp2_with fail
    refine CH.out.mono ?_
    rintro e w2 ⟨rfl, rfl⟩
    go_wp2_with fail
    refine CT.out.mono ?_
    rintro e w2 ⟨v, rfl, hrow, hb2⟩
    have HR := Lib.hid hrow
    have HB2 := Lib.hid hb2
    clear hrow hb2
    go_wp2_with fail
    go_ret
    exact ⟨v, rfl, ownsRow_base_a HR.out HB1.out.size, HB1.out.trans (HB2.out.mono HB1.out.size)⟩
  | false =>
    rw [hh] at CH
    have hk : contO (obT T) o = [] := by unfold contO; rw [if_neg (by rw [hh]; decide)]
    rw [hk]
    clear hk hh CT
    go_enter Try.func20, Try.ntmps20
    go_wp2_with fail
    rw [← HW1.out]
    go_wp2_with fail
    refine CH.out.mono ?_
    rintro e w2 ⟨rfl, rfl⟩
    go_wp2_with fail
    go_ret
    exact ⟨_, rfl, World.ownsRow_nil _ _ _ _, HB1.out⟩
end Go.Proofs.Ytagajoagdhickaa
namespace Go.Proofs.Ytagajoagdhickaa
open Go.RowKit Go.Lib
set_option linter.unusedVariables false

theorem ptrT_none {T : List OM} {o : Int} (h : findT T o = none) : ptrT T o = .pointer none := by unfold ptrT; rw [h]
theorem ptrT_some {T : List OM} {o : Int} {x : OM} (h : findT T o = some x) : ptrT T o = .pointer (some ⟨x.g, 0, none⟩) := by unfold ptrT; rw [h]
theorem ptr_cases (T : List OM) (o : Int) : (findT T o = none ∧ ptrT T o = .pointer none) ∨ ∃ x, findT T o = some x ∧ ptrT T o = .pointer (some ⟨x.g, 0, none⟩) := by
  cases h : findT T o with
  | none => exact .inl ⟨rfl, ptrT_none h⟩
  | some x => exact .inr ⟨x, rfl, ptrT_some h⟩
theorem getO_some' {T : List OM} {o : Int} {x : OM} (h : findT T o = some x) : getO (obT T) o = some x.o := by rw [getO_obT, h]; rfl
/-- All parents are numbers of 64 bits. -/
def ParI (T : List OM) : Prop := ∀ x ∈ T, I64 x.o.parent

end Go.Proofs.Ytagajoagdhickaa
namespace Go.Proofs.Ytagajoagdhickaa
open Go.RowKit Go.Lib
set_option linter.unusedVariables false

/-- A row appended to a row of the call's own, whatever its form. -/
theorem wpList_append_rowO {P : Program} {w : World} {ops : Array Oper} {rest : List Oper} {o : Oper} {a : Act} {Q : Exit → Act → World → Prop} (hgd : o.guard = none) (s x : Operand) (t : TypeId)
    (ho : o.op = .call { callee := .builtin .append, args := #[s, x], argTypes := #[t, t] })
    (base : Nat) (e : TypeId) (i : TypeInfo) (z : Value) (size bytes : Nat) (ht : P.underlying t = some (.slice e)) (hi : P.info? e = some i) (hz : i.zero = some z)
    (hsize : i.size = size) (hby : i.bytes = bytes) (hzs : z.cells.size = size) (hsz : 0 < size)
    (v : Value) (n : Nat) (xs : List Value) (hs : a.eval s = v) (hown : w.ownsRow base e size v n xs)
    (xv : Value) (b' m : Nat) (news : List Value) (hx : a.eval x = xv) (hsrc : w.ownsRow b' e size xv m news) (h1 : ∀ u ∈ news, u.oneCell' = true)
    (h63 : n + m ≤ maxLen) (hbytes : (n + m) * bytes ≤ 140737488355328) (hbase : base ≤ w.heap.size)
    (h : ∀ v' w', w'.ownsRow base e size v' (n + m) (xs ++ news) → w.grownBy w' v.ownBlock → wpList P ops Q rest (a.put o.dst v') w') :
    wpList P ops Q (o :: rest) a w := by
  have hsrc' := hsrc
  rcases hsrc'.2 with ⟨rfl, h0⟩ | ⟨g, cap, cur, rfl, _⟩
  · subst h0
    have hn : news = [] := List.eq_nil_of_length_eq_zero (by rw [hsrc.1]; omega)
    subst hn
    refine wpList_plain hgd fun K hK => ?_
    have hr := run_append_owned_none (P := P) (w := w) base t o.type e i size ht hi v n xs hown
    unfold Oper.wp execOp
    simp only [ho, resolve, invoke, builtin, Sem.run_bind, Sem.run_pure, Result.andThen_ok, List.map_toArray, List.map_cons, List.map_nil, hs, hx, hr]
    exact hK _ _ (h v w (by rw [List.append_nil]; exact hown) ⟨rfl, rfl, rfl, Nat.le_refl _, fun _ _ _ => rfl⟩)
  · exact wpList_append_own_at _ hgd s x t ho base e i z size bytes ht hi hz hsize hby hzs hsz v n xs hs hown ⟨g, 0, none⟩ m cap news hx hsrc.1 (hsrc.cells rfl) h1 h63 hbytes hbase fun v' w' h2 h3 _ _ => h v' w' h2 h3
theorem intsO_one (l : List Int) : ∀ u ∈ intsO l, u.oneCell' = true := by
  intro u hu
  unfold intsO at hu
  obtain ⟨x, _, rfl⟩ := List.mem_map.1 hu
  rfl

theorem blw_prefix {l : List OB} : ∀ (f i : Nat) (out r : List Int), blwO l f i out = some r → ∃ s, r = out ++ s
  | 0, _, _, _, h => by simp [blwO] at h
  | f + 1, i, out, r, h => by
    rw [blwO] at h
    cases hx : out[i]? with
    | none => rw [hx] at h; exact ⟨[], by simpa using h.symm⟩
    | some x =>
      rw [hx] at h
      obtain ⟨s, hs⟩ := blw_prefix f (i + 1) _ r h
      exact ⟨kidsO l x ++ s, by rw [hs, List.append_assoc]⟩
set_option maxRecDepth 100000 in
set_option maxHeartbeats 2000000 in
theorem below_c {w : World} {B a m : Nat} {T : List OM} {mx o : Int} (h : Tab w B a m T mx) (ho : I64 o) {r : List Int} (hr : belowO (obT T) o = some r) (hri : ∀ x ∈ r, I64 x) (hrl : r.length ≤ 1000000) :
    Calls Try.prog 26 #[.pointer (some ⟨a, 0, none⟩), .int .i64 o] w fun e w' => ∃ v, e = .returned v ∧ w'.ownsRow w.heap.size 3 1 v r.length (intsO r) ∧ Below w.heap.size w w' := by
  obtain ⟨i0, hi0, hz0, hz1, hz2⟩ := info_parts oint_info
  have hTl : (obT T).length = T.length := by simp [obT]
  unfold belowO at hr
  rw [hTl] at hr
  have H := Lib.hid h
  have HR := Lib.hid hr
  have HRI := Lib.hid hri
  have hal := h.lt a (List.mem_cons_self ..)
  clear h hr hri hTl
  obtain ⟨w0, hw0⟩ : ∃ w0, w0 = w.alloc (.cells #[.int .i64 o] 3) := ⟨_, rfl⟩
  have hb0 : Below w.heap.size w w0 := by rw [hw0]; exact (Below.refl _ _).alloc (Nat.le_refl _) _
  have ho0 : w0.ownsRow w.heap.size 3 1 (.slice (some ⟨w.heap.size, 0, none⟩) 1 1) 1 (intsO [o]) := by rw [hw0]; exact World.ownsRow_lit w #[.int .i64 o] 1 (Nat.le_refl _) (by unfold maxLen; omega) (by simp)
  have HB0 := Lib.hid hb0
  have HO0 := Lib.hid ho0
  have HW0 := Lib.hid hw0
  clear hb0 ho0 hw0
  go_enter Try.func26, Try.ntmps26
  go_wp2_with fail
  rw [← HW0.out]
  go_loopg [5, 6] (T.length + 1) (fun kk ov iv wr => ∃ (V : Value) (out : List Int) (i : Nat), V = ov ∧ iv = .int .i64 (i : Int) ∧ wr.ownsRow w.heap.size 3 1 V out.length (intsO out) ∧ Below w.heap.size w wr ∧ Hid (blwO (obT T) kk i out = some r))
  case atStart => exact ⟨_, [o], 0, rfl, rfl, HO0.out, HB0.out, HR.out⟩
  case round =>
    obtain ⟨V, out, i, rfl, rfl, hrow, hbr, hq⟩ := hrel
    have hrz := hbr.size
    obtain ⟨A, c, rfl, hnc, hcm, hA, hcell⟩ := own_formO hrow
    cases hx : out[i]? with
    | none =>
      have hge := List.getElem?_eq_none_iff.1 hx
      have hq' := hq.out
      cases gk with
      | zero => simp [blwO] at hq'
      | succ j =>
        rw [blwO, hx] at hq'
        injection hq' with hq'
        subst hq'
        have HROW := Lib.hid hrow
        have HBR := Lib.hid hbr
        clear hrow hbr hx hq hcell
        go_wp2_with fail
        go_ret
        exact ⟨_, rfl, HROW.out, HBR.out⟩
    | some x =>
      have hi : i < out.length := (List.getElem?_eq_some_iff.1 hx).1
      have hq' := hq.out
      cases gk with
      | zero => simp [blwO] at hq'
      | succ j =>
        rw [blwO, hx] at hq'
        obtain ⟨s, hs⟩ := blw_prefix _ _ _ _ hq'
        have hxr : x ∈ r := by rw [hs]; exact List.mem_append_left _ (List.mem_append_left _ (List.mem_of_getElem? hx))
        have hlen : out.length + (kidsO (obT T) x).length ≤ r.length := by rw [hs]; simp
        obtain ⟨g, rfl, hc1⟩ := hcell i (.int .i64 x) (by simp [intsO, hx])
        have CK := Lib.hid (kids_c (H.out.below hbr) (HRI.out x hxr))
        have HQ := Lib.hid hq'
        have HROW := Lib.hid hrow
        have HBR := Lib.hid hbr
        clear hrow hbr hx hq hq' hs hcell
        go_wp2_with fail
        refine CK.out.mono ?_
        rintro e w2 ⟨v2, rfl, hrow2, hb2⟩
        have HR2 := Lib.hid hrow2
        have HB2 := Lib.hid hb2
        have hs2 := hb2.size
        clear hrow2 hb2
        go_wp2_with (at_builtin; refine wpList_append_rowO rfl (.tmp 15) (.tmp 21) 22 rfl w.heap.size 3 i0 (.int .i64 0) 1 8 Try.underlying22 hi0 hz0 hz1 hz2 rfl (by decide) (.slice (some ⟨g, 0, none⟩) out.length c) out.length (intsO out) rfl (own_keepO HROW.out HB2.out) v2 wr.heap.size (kidsO (obT T) x).length (intsO (kidsO (obT T) x)) rfl HR2.out (intsO_one _) ?c1 ?c2 ?c3 ?_
                     case c1 => unfold maxLen; omega
                     case c2 => omega
                     case c3 => omega
                     intro v' w11 hown' hgrow
                     have HB11 := Lib.hid (Below.grown (HBR.out.trans (HB2.out.mono hrz)) hgrow (by omega) (fun k hk => (HROW.out.lt k hk).1))
                     have HO11 := Lib.hid hown'
                     clear hown' hgrow)
        go_roundg j
        case measure => omega
        case rel => exact ⟨v', out ++ kidsO (obT T) x, i + 1, rfl, by go_num, by rw [intsO_app, List.length_append]; exact HO11.out, HB11.out, HQ.out⟩
end Go.Proofs.Ytagajoagdhickaa
namespace Go.Proofs.Ytagajoagdhickaa
open Go.RowKit Go.Lib
set_option linter.unusedVariables false

/-- An object, otherwise; it lies where it lay. -/
def updT (T : List OM) (o : Int) (f : OB → OB) : List OM := T.map fun y => if y.o.id == o then { y with o := f y.o } else y
theorem obT_upd (T : List OM) (o : Int) (f : OB → OB) : obT (updT T o f) = updO (obT T) o f := by
  unfold obT updT updO
  rw [List.map_map, List.map_map]
  apply List.map_congr_left
  intro x _
  simp only [Function.comp]
  split <;> rfl
theorem blkT_upd (T : List OM) (o : Int) (f : OB → OB) : blkT (updT T o f) = blkT T := by
  unfold blkT updT
  rw [List.flatMap_map]
  congr 1
  funext y
  split <;> rfl
theorem datT_upd (T : List OM) (o : Int) (f : OB → OB) (hf : ∀ x, (f x).id = x.id) : datT (updT T o f) = datT T := by
  unfold datT updT
  rw [List.map_map]
  apply List.map_congr_left
  intro y _
  simp only [Function.comp]
  split
  · simp [hf]
  · rfl
theorem updT_len (T : List OM) (o : Int) (f : OB → OB) : (updT T o f).length = T.length := by simp [updT]
theorem mem_updT {T : List OM} {o : Int} {f : OB → OB} {y : OM} (h : y ∈ updT T o f) : ∃ x ∈ T, (x.o.id = o ∧ y = { x with o := f x.o }) ∨ (x.o.id ≠ o ∧ y = x) := by
  unfold updT at h
  rw [List.mem_map] at h
  obtain ⟨x, hx, hy⟩ := h
  by_cases e : x.o.id = o
  · rw [if_pos (by simpa using e)] at hy
    exact ⟨x, hx, .inl ⟨e, hy.symm⟩⟩
  · rw [if_neg (by simpa using e)] at hy
    exact ⟨x, hx, .inr ⟨e, hy.symm⟩⟩
theorem eqT_of_id {T : List OM} (hs : SortO (obT T)) {x y : OM} (hx : x ∈ T) (hy : y ∈ T) (h : x.o.id = y.o.id) : x = y := by
  obtain ⟨i, hi⟩ := List.getElem?_of_mem hx
  obtain ⟨j, hj⟩ := List.getElem?_of_mem hy
  have h1 := findT_at hs hi
  have h2 := findT_at hs hj
  rw [h, h2] at h1
  exact (Option.some.inj h1).symm
theorem findT_upd (T : List OM) (o : Int) (f : OB → OB) (hf : ∀ x, (f x).id = x.id) (k : Int) : findT (updT T o f) k = (findT T k).map fun y => if y.o.id == o then { y with o := f y.o } else y := by
  unfold findT updT
  rw [List.find?_map]
  congr 1
  congr 1
  funext y
  simp only [Function.comp]
  split
  · simp [hf]
  · rfl
/-- Two objects' blocks are apart. -/
theorem sep_apart : ∀ {T : List OM} {x y : OM} {b : Nat}, (blkT T).Nodup → x ∈ T → y ∈ T → b ∈ x.blocks → b ∈ y.blocks → x = y
  | [], _, _, _, _, h, _, _, _ => by cases h
  | z :: T, x, y, b, hn, hx, hy, hbx, hby => by
    unfold blkT at hn
    rw [List.flatMap_cons, List.nodup_append] at hn
    rcases List.mem_cons.1 hx with rfl | hx' <;> rcases List.mem_cons.1 hy with rfl | hy'
    · rfl
    · exact absurd rfl (hn.2.2 b hbx b (List.mem_flatMap.2 ⟨y, hy', hby⟩))
    · exact absurd rfl (hn.2.2 b hby b (List.mem_flatMap.2 ⟨x, hx', hbx⟩))
    · exact sep_apart hn.2.1 hx' hy' hbx hby
theorem Tab.sepB {w : World} {B a m : Nat} {T : List OM} {mx : Int} (h : Tab w B a m T mx) : (blkT T).Nodup := by
  have := h.sep
  rw [List.nodup_cons, List.nodup_cons] at this
  exact this.2.2
theorem Tab.gne {w : World} {B a m : Nat} {T : List OM} {mx : Int} (h : Tab w B a m T mx) {x : OM} (hx : x ∈ T) : x.g ≠ a ∧ x.g ≠ m := by
  have := h.sep
  rw [List.nodup_cons, List.nodup_cons] at this
  have hb : x.g ∈ blkT T := List.mem_flatMap.2 ⟨x, hx, OM.mem_blocks.2 (.inl rfl)⟩
  exact ⟨fun e => this.1 (by rw [← e]; exact List.mem_cons_of_mem _ hb), fun e => this.2.1 (by rw [← e]; exact hb)⟩
/-- A cell of one object stored. -/
theorem Tab.store {w : World} {B a m : Nat} {T : List OM} {mx : Int} (h : Tab w B a m T mx) {o : Int} {x : OM} (hx : findT T o = some x) (j : Nat) (u : Value) (f : OB → OB)
    (hf : ∀ y, (f y).id = y.id) (hd : (f x.o).defs = x.o.defs) (hsl : (f x.o).slots = x.o.slots) (hc : x.cells.setIfInBounds j u = ({ x with o := f x.o } : OM).cells) : Tab (w.setCell ⟨x.g, j, none⟩ u) B a m (updT T o f) mx := by
  obtain ⟨hxm, hxo⟩ := findT_some hx
  obtain ⟨hga, hgm⟩ := h.gne hxm
  have hoth : ∀ b, b ≠ x.g → (w.setCell ⟨x.g, j, none⟩ u).heap[b]? = w.heap[b]? := fun b hb => Below.heap_setCell _ _ _ _ hb
  refine ⟨(hoth a (Ne.symm hga)).trans h.tab, ?_, ?_, by rw [blkT_upd]; exact h.sep, by rw [blkT_upd]; exact h.base, by rw [obT_upd]; exact h.sort.upd o f hf, by rw [updT_len]; exact h.few, h.mxr, ?_⟩
  · rw [datT_upd T o f hf, updT_len]
    exact ownsMap_same h.map (hoth m (Ne.symm hgm))
  · intro y hy
    obtain ⟨z, hz, ⟨hzo, rfl⟩ | ⟨hzo, rfl⟩⟩ := mem_updT hy
    · obtain rfl : x = z := eqT_of_id h.sort hxm hz (by rw [hxo, hzo])
      have hob := h.objs x hz
      have hn := h.sepB
      refine ⟨?_, ?_, ?_⟩
      · rw [heap_setCell_same w x.g j _ _ u hob.blk, hc]
      · show (w.setCell ⟨x.g, j, none⟩ u).ownsRow B _ 1 x.dv (f x.o).defs.length ((f x.o).defs.map Value.string)
        rw [hd]
        refine ownsRow_same hob.defs fun b hb => hoth b ?_
        rintro rfl
        have hnb : (x.blocks).Nodup := by
          unfold blkT at hn
          rw [List.flatMap] at hn
          exact List.Nodup.sublist (List.sublist_flatten_of_mem (List.mem_map_of_mem hz)) hn
        unfold OM.blocks at hnb
        rw [List.nodup_cons] at hnb
        exact hnb.1 (List.mem_append_left _ (by rw [hb]; simp))
      · show (w.setCell ⟨x.g, j, none⟩ u).ownsRow B _ 8 x.sv (f x.o).slots.length ((f x.o).slots.flatMap SL.cells)
        rw [hsl]
        refine ownsRow_same hob.slots fun b hb => hoth b ?_
        rintro rfl
        have hnb : (x.blocks).Nodup := by
          unfold blkT at hn
          rw [List.flatMap] at hn
          exact List.Nodup.sublist (List.sublist_flatten_of_mem (List.mem_map_of_mem hz)) hn
        unfold OM.blocks at hnb
        rw [List.nodup_cons] at hnb
        exact hnb.1 (List.mem_append_right _ (by rw [hb]; simp))
    · refine (h.objs y hz).keep fun b hb => hoth b ?_
      rintro rfl
      have := sep_apart h.sepB hz hxm hb (OM.mem_blocks.2 (.inl rfl))
      rw [this] at hzo
      exact hzo hxo
  · intro y hy
    obtain ⟨z, hz, ⟨hzo, rfl⟩ | ⟨hzo, rfl⟩⟩ := mem_updT hy
    · show 0 ≤ (f z.o).id ∧ (f z.o).id ≤ mx
      rw [hf]
      exact h.rng z hz
    · exact h.rng y hz
end Go.Proofs.Ytagajoagdhickaa
namespace Go.Proofs.Ytagajoagdhickaa
open Go.RowKit Go.Lib
set_option linter.unusedVariables false

set_option maxRecDepth 100000 in
theorem insS_none (c : Nat) (fv : Value) (w : World) : Calls Try.prog 82 #[.slice none 0 c, .int .i64 0, .int .i64 0, fv] w fun e w' => e = .returned (.tuple #[]) ∧ w = w' := by
  go_enter Try.func82, Try.ntmps82
  go_wp2_with fail
  refine wp_loop_rounds 1 ?_
  rw [rounds_succ]
  go_wp2_with fail
  go_end0
  exact ⟨rfl, rfl⟩
set_option maxRecDepth 100000 in
theorem pdqS_none (c : Nat) (k : Int) (fv : Value) (w : World) : Calls Try.prog 66 #[.slice none 0 c, .int .i64 0, .int .i64 0, .int .i64 k, fv] w fun e w' => e = .returned (.tuple #[]) ∧ w = w' := by
  have C := insS_none c fv w
  go_enter Try.func66, Try.ntmps66
  go_wp2_with fail
  refine wp_loop_rounds 1 ?_
  rw [rounds_succ]
  go_wp2_with fail
  refine C.mono ?_
  rintro e w' ⟨rfl, rfl⟩
  go_wp2_with fail
  refine bodyPost_ret (results_none rfl _ _ _) rfl ?_
  exact ⟨rfl, rfl⟩
set_option maxRecDepth 100000 in
theorem sortSlots_none (c : Nat) (w : World) : Calls Try.prog 43 #[.slice none 0 c] w fun e w' => e = .returned (.tuple #[]) ∧ w = w' := by
  have C1 : Calls Try.prog 56 #[.slice none 0 c, .func (.func 57) #[] #[]] w fun e w' => e = .returned (.tuple #[]) ∧ w = w' := by
    have CL := Try.bits_Len 0 w (by omega) (by omega)
    have CP := fun k => pdqS_none c k (.func (.func 57) #[] #[]) w
    go_enter Try.func56, Try.ntmps56
    go_wp2_with fail
    refine CL.mono ?_
    rintro e w' ⟨rfl, rfl⟩
    go_wp2_with fail
    refine (CP _).mono ?_
    rintro e w' ⟨rfl, rfl⟩
    go_wp2_with fail
    go_end0
    exact ⟨rfl, rfl⟩
  go_enter Try.func43, Try.ntmps43
  go_wp2_with fail
  refine C1.mono ?_
  rintro e w' ⟨rfl, rfl⟩
  go_wp2_with fail
  go_end0
  exact ⟨rfl, rfl⟩
end Go.Proofs.Ytagajoagdhickaa
namespace Go.Proofs.Ytagajoagdhickaa
open Go.RowKit Go.Lib
set_option linter.unusedVariables false

/-- No object has a name of its own, or a property. -/
def BareM (T : List OM) : Prop := ∀ x ∈ T, x.dv = .slice none 0 0 ∧ x.sv = .slice none 0 0
end Go.Proofs.Ytagajoagdhickaa
namespace Go.Proofs.Ytagajoagdhickaa
open Go.RowKit Go.Lib
set_option linter.unusedVariables false

theorem updT_id (T : List OM) (o : Int) : updT T o (fun x => x) = T := by
  unfold updT
  conv => rhs; rw [← List.map_id T]
  apply List.map_congr_left
  intro y _
  split <;> rfl
theorem Tab.same8 {w : World} {B a m : Nat} {T : List OM} {mx o : Int} (h : Tab w B a m T mx) {x : OM} (hx : findT T o = some x) (hs : x.sv = .slice none 0 0) : Tab (w.setCell ⟨x.g, 8, none⟩ (.slice none 0 0)) B a m T mx := by
  have := h.store hx 8 (.slice none 0 0) (fun y => y) (fun _ => rfl) rfl rfl (by unfold OM.cells; simp [hs])
  rw [updT_id] at this
  exact this
theorem Tab.drew {w : World} {B a m : Nat} {T : List OM} {mx : Int} (h : Tab w B a m T mx) : Tab w.drew B a m T mx := h.keep fun _ _ => rfl
theorem BareM.upd {T : List OM} (h : BareM T) (o : Int) (f : OB → OB) : BareM (updT T o f) := by
  intro y hy
  obtain ⟨z, hz, ⟨_, rfl⟩ | ⟨_, rfl⟩⟩ := mem_updT hy
  · exact h z hz
  · exact h y hz
theorem ParI.setP {T : List OM} (h : ParI T) (o p : Int) (hp : I64 p) : ParI (updT T o (setP p)) := by
  intro y hy
  obtain ⟨z, hz, ⟨_, rfl⟩ | ⟨_, rfl⟩⟩ := mem_updT hy
  · exact hp
  · exact h y hz
def anyR : Value → Option (DataW Unit × List MemPlace) := fun _ => some (.lit (.bool true), [])
theorem blk_in {T : List OM} {x : OM} (hx : x ∈ T) : x.g ∈ blkT T := List.mem_flatMap.2 ⟨x, hx, OM.mem_blocks.2 (.inl rfl)⟩

set_option maxRecDepth 100000 in
set_option maxHeartbeats 4000000 in
theorem under_c0 {w : World} {B a m : Nat} {T : List OM} {mx o p : Int} (h : Tab w B a m T mx) (ho : I64 o) (hp : I64 p) (hpi : ParI T) (hbm : BareM T) {x0 : OM} (hx0 : findT T o = some x0) {r : List Int} (hr : belowO (obT T) o = some r) (hri : ∀ x ∈ r, hasO (obT T) x = true) (hrl : r.length ≤ 512) :
    Calls Try.prog 23 #[.pointer (some ⟨a, 0, none⟩), .int .i64 o, .int .i64 p] w fun e w' => e = .returned (.tuple #[]) ∧ Tab w' B a m (updT T o (setP p)) mx ∧ Chg (fun b => b ∈ blkT T) w w' := by
  have HRI : Hid (∀ x ∈ r, ∃ y, findT T x = some y ∧ I64 x) := Lib.hid (fun x hx => by
    obtain ⟨z, hz⟩ := hasO_get (hri x hx)
    rw [getO_obT] at hz
    cases hf : findT T x with
    | none => rw [hf] at hz; cases hz
    | some y =>
      have h1 := h.rng y (findT_some hf).1
      have h2 := (findT_some hf).2
      have h3 := h.mxr
      exact ⟨y, rfl, by omega, by omega⟩)
  have CB := Lib.hid (below_c h ho hr (fun x hx => by obtain ⟨y, _, h2⟩ := HRI.out x hx; exact h2) (by omega))
  have H := Lib.hid h
  have HBM := Lib.hid hbm
  have HPI := Lib.hid hpi
  have HX0 := Lib.hid hx0
  have hmm := @run_makeMap Try.prog
  obtain ⟨T1, hTT⟩ : ∃ T1, T1 = updT T o (setP p) := ⟨_, rfl⟩
  rw [← hTT]
  have HTT := Lib.hid hTT
  clear h hpi hbm hx0 hr hri hTT
  go_enter Try.func23, Try.ntmps23
  go_wp2_with fail
  refine CB.out.mono ?_
  rintro e w1 ⟨v, rfl, hrow, hb1⟩
  obtain ⟨A, c, rfl, hnc, hcm, hA, hcell⟩ := own_formO hrow
  unfold maxLen at hcm
  have HB1 := Lib.hid hb1
  have HCL := Lib.hid hcell
  have HR := Lib.hid hrow
  have hs1 := hb1.size
  clear hb1 hrow hcell CB
  obtain ⟨w2, hw2⟩ : ∃ w2, w2 = w1.alloc (.map #[] 0) := ⟨_, rfl⟩
  have hm0 : w2.ownsMap Try.prog 3 anyR w1.heap.size 0 (.map []) := by rw [hw2]; exact World.ownsMap_made w1 _ _ _
  have hb2 : Below w1.heap.size w1 w2 := by rw [hw2]; exact (Below.refl _ _).alloc (Nat.le_refl _) _
  have HM0 := Lib.hid hm0
  have HB2 := Lib.hid hb2
  have HW2 := Lib.hid hw2
  clear hm0 hb2 hw2
  go_wp2_with fail
  rw [← HW2.out]
  go_loopg [27] r.length (fun kk iv wr => ∃ (k : Nat) (D : DataW Unit), iv = .int .i64 (k : Int) ∧ k + kk = r.length ∧ wr.ownsMap Try.prog 3 anyR w1.heap.size k D ∧ Below w1.heap.size w1 wr)
  case atStart => exact ⟨0, _, rfl, by omega, HM0.out, HB2.out⟩
  case round =>
    obtain ⟨k, D, rfl, hik, hmp, hbr⟩ := hrel
    have hrz := hbr.size
    by_cases hk : k < r.length
    · obtain ⟨j, rfl⟩ : ∃ j, gk = j + 1 := ⟨gk - 1, by omega⟩
      obtain ⟨x, hx⟩ : ∃ x, r[k]? = some x := ⟨r[k], List.getElem?_eq_some_iff.2 ⟨hk, rfl⟩⟩
      obtain ⟨g1, rfl, hc1⟩ := HCL.out k (.int .i64 x) (by simp [intsO, hx])
      have hg1 := HR.out.lt g1 rfl
      obtain ⟨y, hfy, hxi⟩ := HRI.out x (List.mem_of_getElem? hx)
      have hcr : wr.cell? ⟨g1, k, none⟩ = some (.int .i64 x) := (hbr.cell (p := ⟨g1, k, none⟩) hg1.2).trans hc1
      have HMP := Lib.hid hmp
      have HBR := Lib.hid hbr
      have HFY := Lib.hid hfy
      clear hmp hbr hx hc1 hfy
      go_wp2_with (at_mapUpdate; refine wpList_mapUpdate_own _ rfl _ _ _ 73 rfl 3 74 tkeyed Try.underlying73 anyR w1.heap.size k D rfl (HMP.out.alloc _) (by unfold maxLen; omega) _ _ (.int .i64 x) rfl rfl (tkey_of hxi) (.lit (.bool true)) [] rfl ?_
                   intro w5 hown5 hgrow5
                   have hb5 := Below.grown (HBR.out.alloc (by omega) (.map #[] 0)) hgrow5 (by simp; omega) (fun k hk => by injection hk with hk; omega)
                   have HB5 := Lib.hid hb5
                   have HO5 := Lib.hid hown5
                   have ht := H.out.below (HB1.out.trans (hb5.mono hs1))
                   have c0 := ht.c0
                   have hl := ht.look hxi
                   rw [ptrT_some HFY.out] at hl
                   have h8 : w5.cell? ⟨y.g, 8, none⟩ = some (.slice none 0 0) := by rw [← (HBM.out y (findT_some HFY.out).1).2]; exact cellX H.out (HB1.out.trans (hb5.mono hs1)) (findT_some HFY.out).1 8
                   clear hb5 hown5 ht hgrow5)
      refine wp_loop_rounds 1 ?_
      rw [rounds_succ]
      go_wp2_with fail
      go_roundg j
      case measure => omega
      case rel => exact ⟨k + 1, _, by go_num, by omega, HO5.out, HB5.out⟩
    · obtain rfl : k = r.length := by omega
      have HBR := Lib.hid hbr
      have hbw : Below w.heap.size w wr := HB1.out.trans (hbr.mono hs1)
      have ht := H.out.below hbw
      have c0 := ht.c0
      have hl := ht.look ho
      rw [ptrT_some HX0.out] at hl
      have hgx : x0.g ∈ blkT T := blk_in (findT_some HX0.out).1
      have hf1 : wr.frozen? ⟨x0.g, 1, none⟩ = false := (ht.objs x0 (findT_some HX0.out).1).free 1
      have h1 : wr.cell? ⟨x0.g, 1, none⟩ = some (.int .i64 x0.o.parent) := cellX H.out hbw (findT_some HX0.out).1 1
      have hT1 := ht.store HX0.out 1 (.int .i64 p) (setP p) (fun _ => rfl) rfl rfl rfl
      obtain ⟨w3, hw3⟩ : ∃ w3, w3 = wr.setCell ⟨x0.g, 1, none⟩ (.int .i64 p) := ⟨_, rfl⟩
      have hC1 : Chg (fun b => b ∈ blkT T) w1 w3 := by rw [hw3]; exact (Chg.of_below hbr).trans (Chg.set wr hgx _)
      rw [← hw3] at hT1
      have hb1 : blkT (updT T o (setP p)) = blkT T := blkT_upd T o _
      have hF1 : ∀ x ∈ r, ∃ y, findT (updT T o (setP p)) x = some y ∧ I64 x := fun x hx => by
        obtain ⟨y, hy, hi⟩ := HRI.out x hx
        exact ⟨_, by rw [findT_upd T o (setP p) (fun _ => rfl), hy]; rfl, hi⟩
      have HT1 := Lib.hid hT1
      have HC1 := Lib.hid hC1
      have HF1 := Lib.hid hF1
      have HBK := Lib.hid hb1
      have HBM1 := Lib.hid (HBM.out.upd o (setP p))
      have HPI1 := Lib.hid (HPI.out.setP o p hp)
      have HW3 := Lib.hid hw3
      rw [← HTT.out] at HT1 HF1 HBK HBM1 HPI1
      have hs3 := hC1.size
      have HNB := Lib.hid (show ∀ g, g ∈ blkT T → g < w.heap.size from fun g hg => H.out.lt g (List.mem_cons_of_mem _ (List.mem_cons_of_mem _ hg)))
      have HB1' := Lib.hid HB1.out
      clear hbr hmp ht hbw hT1 hC1 hgx hF1 hb1 hw3 HX0 HPI HBM HRI
      go_wp2_with fail
      rw [← HW3.out]
      go_loopg [71] r.length (fun kk iv wr => ∃ (k : Nat), iv = .int .i64 (k : Int) ∧ k + kk = r.length ∧ Tab wr B a m T1 mx ∧ Chg (fun b => b ∈ blkT T) w1 wr)
      case atStart => exact ⟨0, rfl, by omega, HT1.out, HC1.out⟩
      case round =>
        clear c0 hl hf1 h1 hk hik hrz
        obtain ⟨k, rfl, hik, htb, hch⟩ := hrel
        have hrz := hch.size
        by_cases hk : k < r.length
        · obtain ⟨j, rfl⟩ : ∃ j, gk = j + 1 := ⟨gk - 1, by omega⟩
          obtain ⟨x, hx⟩ : ∃ x, r[k]? = some x := ⟨r[k], List.getElem?_eq_some_iff.2 ⟨hk, rfl⟩⟩
          obtain ⟨g1, rfl, hc1⟩ := HCL.out k (.int .i64 x) (by simp [intsO, hx])
          have hg1 := HR.out.lt g1 rfl
          obtain ⟨y, hfy, hxi⟩ := HF1.out x (List.mem_of_getElem? hx)
          have hym := (findT_some hfy).1
          have hcr : wr.cell? ⟨g1, k, none⟩ = some (.int .i64 x) := (World.cell?_of_block (a := ⟨g1, k, none⟩) (hch.block g1 hg1.2 (fun e => by have := HNB.out g1 e; omega))).trans hc1
          have c0 := htb.c0
          have hl := htb.look hxi
          rw [ptrT_some hfy] at hl
          have h8 : wr.cell? ⟨y.g, 8, none⟩ = some (.slice none 0 0) := by rw [← (HBM1.out y hym).2]; exact (htb.objs y hym).cell 8
          have h1 : wr.cell? ⟨y.g, 1, none⟩ = some (.int .i64 y.o.parent) := (htb.objs y hym).cell 1
          have hyi := HPI1.out y hym
          have hl2 := htb.look hyi
          have HTB := Lib.hid htb
          have HCH := Lib.hid hch
          have HFY := Lib.hid hfy
          clear htb hch hx hc1 hfy
          go_wp2_with fail
          refine wp_loop_rounds 1 ?_
          rw [rounds_succ]
          go_wp2_with fail
          have K1 : (wr.drew.cell? ⟨a, 0, none⟩ = some (.map (some m)) ∧ wr.drew.cell? ⟨y.g, 1, none⟩ = some (.int .i64 y.o.parent) ∧ (Instr.lookup 51 (.map (some m)) (.int .i64 y.o.parent) false).run Try.prog wr.drew = .ok (ptrT T1 y.o.parent) wr.drew) := ⟨c0, h1, HTB.out.drew.look hyi⟩
          go_region_held3 (fun W => W.cell? ⟨a, 0, none⟩ = some (.map (some m)) ∧ W.cell? ⟨y.g, 1, none⟩ = some (.int .i64 y.o.parent) ∧ (Instr.lookup 51 (.map (some m)) (.int .i64 y.o.parent) false).run Try.prog W = .ok (ptrT T1 y.o.parent) W)
            (first | (with_reducible exact K1) | exact ⟨c0, h1, hl2⟩)
            (fail)
          have HTD := Lib.hid HTB.out.drew
          have f8 : wr.drew.frozen? ⟨y.g, 8, none⟩ = false := (HTD.out.objs y hym).free 8
          have h8d : wr.drew.cell? ⟨y.g, 8, none⟩ = some (.slice none 0 0) := h8
          have HFIN := Lib.hid (show Tab (wr.drew.setCell ⟨y.g, 8, none⟩ (.slice none 0 0)) B a m T1 mx from HTD.out.same8 HFY.out (HBM1.out y hym).2)
          have HCF := Lib.hid (show Chg (fun b => b ∈ blkT T) w1 (wr.drew.setCell ⟨y.g, 8, none⟩ (.slice none 0 0)) from HCH.out.drew.trans (Chg.set _ (by show y.g ∈ blkT T; rw [← HBK.out]; exact blk_in hym) _))
          clear K1 hl hl2
          rcases ptr_cases T1 y.o.parent with ⟨hf, hpe⟩ | ⟨z, hf, hpe⟩
          · rw [hpe]
            clear hf hpe
            go_wp2_with fail
            refine (sortSlots_none 0 _).mono ?_
            rintro e w9 ⟨rfl, rfl⟩
            go_wp2_with fail
            go_roundg j
            case measure => omega
            case rel => exact ⟨k + 1, by go_num, by omega, HFIN.out, HCF.out⟩
          · rw [hpe]
            have hzm := (findT_some hf).1
            have hz8 : wr.drew.cell? ⟨z.g, 8, none⟩ = some (.slice none 0 0) := by rw [← (HBM1.out z hzm).2]; exact (HTD.out.objs z hzm).cell 8
            clear hf hpe
            go_wp2_with fail
            refine wp_loop_rounds 1 ?_
            rw [rounds_succ]
            go_wp2_with fail
            refine (sortSlots_none 0 _).mono ?_
            rintro e w9 ⟨rfl, rfl⟩
            go_wp2_with fail
            go_roundg j
            case measure => omega
            case rel => exact ⟨k + 1, by go_num, by omega, HFIN.out, HCF.out⟩
        · obtain rfl : k = r.length := by omega
          have HTB := Lib.hid htb
          have HCH := Lib.hid hch
          clear htb hch
          go_wp2_with fail
          go_end0
          exact ⟨rfl, HTB.out, (Chg.of_below HB1.out).trans HCH.out⟩
end Go.Proofs.Ytagajoagdhickaa
namespace Go.Proofs.Ytagajoagdhickaa
open Go.RowKit Go.Lib
set_option linter.unusedVariables false

/-- A table without properties in memory. -/
structure TB (w : World) (B a m : Nat) (T : List OM) (mx : Int) : Prop where
  tab : Tab w B a m T mx
  ok : OkT (obT T) mx
  bare : BareM T
/-- What a change leaves: a table again; all but its own blocks is as it was. -/
structure Stp (w w' : World) (B a m : Nat) (T T' : List OM) (mx mx' : Int) : Prop where
  tb : TB w' B a m T' mx'
  chg : Chg (fun b => b ∈ a :: m :: blkT T) w w'
  new : ∀ b ∈ blkT T', b ∈ blkT T ∨ w.heap.size ≤ b
theorem TB.keep {w w' : World} {B a m : Nat} {T : List OM} {mx : Int} (h : TB w B a m T mx) (hb : Below w.heap.size w w') : TB w' B a m T mx := ⟨h.tab.below hb, h.ok, h.bare⟩
theorem Stp.refl {w : World} {B a m : Nat} {T : List OM} {mx : Int} (h : TB w B a m T mx) : Stp w w B a m T T mx mx := ⟨h, .refl _ _, fun b hb => .inl hb⟩
theorem Stp.of_below {w w' : World} {B a m : Nat} {T : List OM} {mx : Int} (h : TB w B a m T mx) (hb : Below w.heap.size w w') : Stp w w' B a m T T mx mx := ⟨h.keep hb, .of_below hb, fun b hb => .inl hb⟩
theorem Stp.trans {w w1 w2 : World} {B a m : Nat} {T T1 T2 : List OM} {mx mx1 mx2 : Int} (h : Stp w w1 B a m T T1 mx mx1) (k : Stp w1 w2 B a m T1 T2 mx1 mx2) : Stp w w2 B a m T T2 mx mx2 := by
  refine ⟨k.tb, h.chg.trans' k.chg ?_, ?_⟩
  · intro i hi hm
    rcases List.mem_cons.1 hm with rfl | hm
    · exact List.mem_cons_self ..
    rcases List.mem_cons.1 hm with rfl | hm
    · exact List.mem_cons_of_mem _ (List.mem_cons_self ..)
    rcases h.new i hm with h1 | h1
    · exact List.mem_cons_of_mem _ (List.mem_cons_of_mem _ h1)
    · omega
  · intro b hb
    rcases k.new b hb with h1 | h1
    · exact h.new b h1
    · exact .inr (Nat.le_trans h.chg.size h1)
theorem Stp.behind {w w1 w2 : World} {B a m : Nat} {T T1 : List OM} {mx mx1 : Int} (h : Stp w w1 B a m T T1 mx mx1) (hb : Below w1.heap.size w1 w2) : Stp w w2 B a m T T1 mx mx1 := h.trans (.of_below h.tb hb)

theorem TB.parI {w : World} {B a m : Nat} {T : List OM} {mx : Int} (h : TB w B a m T mx) : ParI T := by
  intro x hx
  have hm := h.tab.mxr
  rcases h.ok.par x.o (List.mem_map_of_mem hx) with e | e
  · rw [e]; exact ⟨by omega, by omega⟩
  · obtain ⟨y, hy, e⟩ := hasO_iff.1 e
    have := h.ok.rng y hy
    exact ⟨by omega, by omega⟩
theorem TB.plcI {w : World} {B a m : Nat} {T : List OM} {mx : Int} (h : TB w B a m T mx) : ∀ x ∈ T, I64 x.o.place := by
  intro x hx
  have hm := h.tab.mxr
  rcases h.ok.plc x.o (List.mem_map_of_mem hx) with e | e
  · rw [e]; exact ⟨by omega, by omega⟩
  · obtain ⟨y, hy, e⟩ := hasO_iff.1 e
    have := h.ok.rng y hy
    exact ⟨by omega, by omega⟩
theorem hasT {T : List OM} {o : Int} (h : hasO (obT T) o = true) : ∃ x, findT T o = some x := by
  obtain ⟨y, hy⟩ := hasO_get h
  rw [getO_obT] at hy
  cases hf : findT T o with
  | none => rw [hf] at hy; cases hy
  | some x => exact ⟨x, rfl⟩

/-- What a change with an answer leaves, whatever it answers: the same numbers. -/
def Mov (w : World) (B a m : Nat) (T : List OM) (mx : Int) (e : Ending) (w' : World) : Prop := ∃ (c : Int) (T' : List OM), e = .returned (.int .i64 c) ∧ Stp w w' B a m T T' mx mx ∧ idsO (obT T') = idsO (obT T)

set_option maxRecDepth 100000 in
set_option maxHeartbeats 4000000 in
theorem move_c {w : World} {B a m : Nat} {T : List OM} {mx o p : Int} (h : TB w B a m T mx) (ho : I64 o) (hp : I64 p) :
    Calls Try.prog 14 #[.pointer (some ⟨a, 0, none⟩), .int .i64 o, .int .i64 p] w (Mov w B a m T mx) := by
  have CO := Lib.hid (has_c h.tab ho)
  have CP := Lib.hid (has_c h.tab hp)
  have H := Lib.hid h
  clear h
  cases hho : hasO (obT T) o with
  | false =>
    have HO := Lib.hid hho
    rw [hho] at CO
    clear hho
    go_enter Try.func14, Try.ntmps14
    go_wp2_with fail
    refine CO.out.mono ?_
    rintro e w1 ⟨rfl, rfl⟩
    go_wp2_with fail
    go_ret
    exact ⟨_, T, rfl, .refl H.out, rfl⟩
  | true =>
    rw [hho] at CO
    obtain ⟨x0, hx0⟩ := hasT hho
    have HX0 := Lib.hid hx0
    have HO := Lib.hid hho
    clear hho hx0
    by_cases hpn : p = -1
    · subst hpn
      have c0 := H.out.tab.c0
      have hl := H.out.tab.look ho
      rw [ptrT_some HX0.out] at hl
      have hx0m := (findT_some HX0.out).1
      have h3 : w.cell? ⟨x0.g, 3, none⟩ = some (.int .i64 x0.o.place) := (H.out.tab.objs x0 hx0m).cell 3
      have f3 : w.frozen? ⟨x0.g, 3, none⟩ = false := (H.out.tab.objs x0 hx0m).free 3
      go_enter Try.func14, Try.ntmps14
      go_wp2_with fail
      refine CO.out.mono ?_
      rintro e w1 ⟨rfl, rfl⟩
      go_wp2_with fail
      refine wp_loop_rounds 1 ?_
      rw [rounds_succ]
      go_wp2_with fail
      go_ret
      refine ⟨_, updT T o (setL (-1)), rfl, ⟨⟨H.out.tab.store HX0.out 3 (.int .i64 (-1)) (setL (-1)) (fun _ => rfl) rfl rfl rfl, ?_, H.out.bare.upd o _⟩, Chg.set _ (List.mem_cons_of_mem _ (List.mem_cons_of_mem _ (blk_in hx0m))) _, ?_⟩, ?_⟩
      · rw [obT_upd]
        exact H.out.ok.move (.inl rfl) (by rw [row_none (by rw [getO_obT, H.out.tab.neg]; rfl)]; simp)
      · intro b hb
        rw [blkT_upd] at hb
        exact .inl hb
      · rw [obT_upd, updO_ids _ _ (setL (-1)) (fun _ => rfl)]
    · have hpn' : ((p == -1) = false) := by simpa using hpn
      cases hhp : hasO (obT T) p with
      | false =>
        rw [hhp] at CP
        clear hhp
        go_enter Try.func14, Try.ntmps14
        go_wp2_with fail
        refine CO.out.mono ?_
        rintro e w1 ⟨rfl, rfl⟩
        go_wp2_with fail
        refine CP.out.mono ?_
        rintro e w1 ⟨rfl, rfl⟩
        go_wp2_with fail
        go_ret
        exact ⟨_, T, rfl, .refl H.out, rfl⟩
      | true =>
        rw [hhp] at CP
        have HP := Lib.hid hhp
        clear hhp
        go_enter Try.func14, Try.ntmps14
        go_wp2_with fail
        refine CO.out.mono ?_
        rintro e w1 ⟨rfl, rfl⟩
        go_wp2_with fail
        refine CP.out.mono ?_
        rintro e w1 ⟨rfl, rfl⟩
        go_wp2_with fail
        go_loopg [7] ((rowO (obT T) OB.place p).length + 1) (fun kk iv wr => ∃ q : Int, iv = .int .i64 q ∧ I64 q ∧ (q = -1 ∨ hasO (obT T) q = true) ∧ (rowO (obT T) OB.place q).length + 1 = kk ∧ w = wr ∧ Hid (o ∈ rowO (obT T) OB.place p → o ∈ rowO (obT T) OB.place q))
        case atStart => exact ⟨p, rfl, hp, .inr HP.out, rfl, rfl, fun h => h⟩
        case round =>
          obtain ⟨q, rfl, hq, hqh, hlen, rfl, hin⟩ := hrel
          by_cases hqn : q = -1
          · subst hqn
            have HIN := Lib.hid hin
            have c0 := H.out.tab.c0
            have hl := H.out.tab.look ho
            rw [ptrT_some HX0.out] at hl
            have hx0m := (findT_some HX0.out).1
            have h3 : w.cell? ⟨x0.g, 3, none⟩ = some (.int .i64 x0.o.place) := (H.out.tab.objs x0 hx0m).cell 3
            have f3 : w.frozen? ⟨x0.g, 3, none⟩ = false := (H.out.tab.objs x0 hx0m).free 3
            clear hin hqh hlen
            go_wp2_with fail
            go_ret
            refine ⟨_, updT T o (setL p), rfl, ⟨⟨H.out.tab.store HX0.out 3 (.int .i64 p) (setL p) (fun _ => rfl) rfl rfl rfl, ?_, H.out.bare.upd o _⟩, Chg.set _ (List.mem_cons_of_mem _ (List.mem_cons_of_mem _ (blk_in hx0m))) _, ?_⟩, ?_⟩
            · rw [obT_upd]
              refine H.out.ok.move (.inr HP.out) fun hc => ?_
              have := HIN.out.out hc
              rw [row_none (by rw [getO_obT, H.out.tab.neg]; rfl)] at this
              cases this
            · intro b hb
              rw [blkT_upd] at hb
              exact .inl hb
            · rw [obT_upd, updO_ids _ _ (setL p) (fun _ => rfl)]
          · have hqn' : ((q == -1) = false) := by simpa using hqn
            by_cases hqo : q = o
            · subst hqo
              clear hin hlen
              go_wp2_with fail
              go_ret
              exact ⟨_, T, rfl, .refl H.out, rfl⟩
            · have hqo' : ((q == o) = false) := by simpa using hqo
              have hqh' := hqh.resolve_left hqn
              obtain ⟨z, hz⟩ := hasT hqh'
              have hzm := (findT_some hz).1
              have c0 := H.out.tab.c0
              have hl := H.out.tab.look hq
              rw [ptrT_some hz] at hl
              have h3 : w.cell? ⟨z.g, 3, none⟩ = some (.int .i64 z.o.place) := (H.out.tab.objs z hzm).cell 3
              have hre := row_eq H.out.ok.acyL (getO_some' hz)
              have HZQ := Lib.hid (findT_some hz).2
              have hlen2 : (rowO (obT T) OB.place q).length = (rowO (obT T) OB.place z.o.place).length + 1 := by rw [hre]; rfl
              obtain ⟨j, rfl⟩ : ∃ j, gk = j + 1 := ⟨gk - 1, by omega⟩
              have hzp := H.out.plcI z hzm
              have hzh := H.out.ok.plc z.o (List.mem_map_of_mem hzm)
              have hj : (rowO (obT T) OB.place z.o.place).length + 1 = j := by omega
              have HIN := Lib.hid hin
              have HRE := Lib.hid hre
              have HJ := Lib.hid hj
              clear hin hqh hlen hre hz hlen2 hj hqh'
              go_wp2_with fail
              go_roundg j
              case measure => omega
              case rel => exact ⟨z.o.place, rfl, hzp, hzh, HJ.out, rfl, fun hc => by
                have := HIN.out.out hc
                rw [HRE.out, List.mem_cons] at this
                rcases this with e | e
                · exact absurd (by rw [e, HZQ.out]) hqo
                · exact e⟩
end Go.Proofs.Ytagajoagdhickaa
namespace Go.Proofs.Ytagajoagdhickaa
open Go.RowKit Go.Lib
set_option linter.unusedVariables false

theorem Stp.under {w w1 w' : World} {B a m : Nat} {T : List OM} {mx o p : Int} (h : TB w B a m T mx) (hb : Below w.heap.size w w1) (hT : Tab w' B a m (updT T o (setP p)) mx) (hc : Chg (fun b => b ∈ blkT T) w1 w') (hp : p = -1 ∨ hasO (obT T) p = true) (hi : o ∉ rowO (obT T) OB.parent p) : Stp w w' B a m T (updT T o (setP p)) mx mx := by
  refine ⟨⟨hT, ?_, h.bare.upd o _⟩, (Chg.of_below hb).trans' hc ?_, ?_⟩
  · rw [obT_upd]
    exact h.ok.chparent hp hi
  · intro i _ hm
    exact List.mem_cons_of_mem _ (List.mem_cons_of_mem _ hm)
  · intro b hb
    rw [blkT_upd] at hb
    exact .inl hb
theorem below_all {w : World} {B a m : Nat} {T : List OM} {mx o : Int} (h : TB w B a m T mx) (ho : hasO (obT T) o = true) : ∃ r, belowO (obT T) o = some r ∧ r.length ≤ 512 ∧ ∀ x ∈ r, ∃ y, findT T x = some y ∧ I64 x := by
  obtain ⟨r, hr, rk, hrk, hinv⟩ := below_some h.ok.sort h.ok.acyP ho
  refine ⟨r, hr, ?_, fun x hx => ?_⟩
  · have h1 := hinv.len
    have h2 : (obT T).length = T.length := by simp [obT]
    have h3 := h.tab.few
    omega
  · obtain ⟨y, hy⟩ := hasT (hinv.all x hx).1
    have h1 := h.tab.rng y (findT_some hy).1
    have h2 := (findT_some hy).2
    have h3 := h.tab.mxr
    exact ⟨y, hy, by omega, by omega⟩

end Go.Proofs.Ytagajoagdhickaa
