/- Contracts of the functions that the statement reaches, and the plain mathematics beneath: several texts joined. -/
import Derived.StillTailTactics
import Derived.Laws.Tables
import Derived.Laws.CopyOwn
import Derived.Laws.ResultCell
import Derived.Deep.AppendLies
import Derived.Test.YtagajoagdhickaaRows
import Derived.SizedLaws
import Derived.OpenShut
import Derived.ShutString
import Derived.ChangeSlices
import Derived.Carry
import Derived.JoinedOf
import Derived.Test.YtagajoagdhickaaObrAB
namespace Go.Proofs.Ytagajoagdhickaa
open Go.RowKit Go.Lib
set_option linter.unusedVariables false

/-- An object that is new, without properties, where it lies. -/
def newM (mx p ow : Int) (g : Nat) : OM := ⟨newO mx p ow [], g, .slice none 0 0, .slice none 0 0⟩
theorem Tab.grow {w w' : World} {B a m : Nat} {T : List OM} {mx p ow : Int} (h : Tab w B a m T mx) (g : Nat) (hg : w.heap.size ≤ g)
    (htab : w'.heap[a]? = some (.cells #[.map (some m), .int .i64 (mx + 1)] 53 (0, 0)))
    (hmap : w'.ownsMap Try.prog 3 ptrR m (T.length + 1) ((DataW.map (datT T)).put (.int .i64 (mx + 1)) (.lit (.int .i64 (g : Int)))))
    (hnew : w'.heap[g]? = some (.cells (newM mx p ow g).cells 38 (0, 0)))
    (hold : ∀ b ∈ blkT T, w'.heap[b]? = w.heap[b]?) (hf : T.length < 512) (hm : mx + 1 < 1073741824) : Tab w' B a m (T ++ [newM mx p ow g]) (mx + 1) := by
  have hlt := h.lt
  have hB := h.base a (List.mem_cons_self ..)
  have hla := hlt a (List.mem_cons_self ..)
  have hmx := h.mxr
  have hid : (newM mx p ow g).o.id = mx + 1 := rfl
  have hbk : blkT (T ++ [newM mx p ow g]) = blkT T ++ [g] := by simp [blkT, OM.blocks, newM, Value.ownBlock]
  have hlast : ∀ y ∈ T, y.o.id < (newM mx p ow g).o.id := fun y hy => by have := h.rng y hy; rw [hid]; omega
  refine ⟨htab, ?_, ?_, ?_, ?_, ?_, by simp; omega, by omega, ?_⟩
  · have e := datT_put T (newM mx p ow g) hlast
    rw [hid] at e
    rw [show (T ++ [newM mx p ow g]).length = T.length + 1 from by simp, ← e]
    exact hmap
  · intro x hx
    rcases List.mem_append.1 hx with hx | hx
    · exact (h.objs x hx).keep fun b hb => hold b (List.mem_flatMap.2 ⟨x, hx, hb⟩)
    · rw [List.mem_singleton] at hx
      subst hx
      exact ⟨hnew, World.ownsRow_nil _ _ _ _, World.ownsRow_nil _ _ _ _⟩
  · rw [hbk]
    have hs := h.sep
    rw [show a :: m :: (blkT T ++ [g]) = (a :: m :: blkT T) ++ [g] from rfl, List.nodup_append]
    refine ⟨hs, by simp, ?_⟩
    intro x hx y hy e
    rw [List.mem_singleton] at hy
    have := hlt x hx
    omega
  · rw [hbk]
    intro b hb
    rw [show a :: m :: (blkT T ++ [g]) = (a :: m :: blkT T) ++ [g] from rfl] at hb
    rcases List.mem_append.1 hb with hb | hb
    · exact h.base b hb
    · rw [List.mem_singleton] at hb
      omega
  · unfold SortO obT
    rw [List.map_append, List.pairwise_append]
    refine ⟨h.sort, by simp, ?_⟩
    intro x hx y hy
    obtain ⟨z, hz, rfl⟩ := List.mem_map.1 hx
    simp only [List.map_cons, List.map_nil, List.mem_singleton] at hy
    subst hy
    exact hlast z hz
  · intro x hx
    rcases List.mem_append.1 hx with hx | hx
    · have := h.rng x hx; omega
    · rw [List.mem_singleton] at hx
      subst hx
      rw [hid]
      omega
theorem Tab.raise {w : World} {B a m : Nat} {T : List OM} {mx : Int} (h : Tab w B a m T mx) (hm : mx + 1 < 1073741824) : Tab (w.setCell ⟨a, 1, none⟩ (.int .i64 (mx + 1))) B a m T (mx + 1) := by
  have hs := h.sep
  rw [List.nodup_cons] at hs
  have hoth : ∀ b, b ≠ a → (w.setCell ⟨a, 1, none⟩ (.int .i64 (mx + 1))).heap[b]? = w.heap[b]? := fun b hb => Below.heap_setCell _ _ _ _ hb
  have hmx := h.mxr
  refine ⟨?_, ownsMap_same h.map (hoth m fun e => hs.1 (by rw [← e]; exact List.mem_cons_self ..)), ?_, h.sep, h.base, h.sort, h.few, by omega, fun x hx => by have := h.rng x hx; omega⟩
  · rw [heap_setCell_same w a 1 _ _ _ h.tab]
    rfl
  · intro x hx
    exact (h.objs x hx).keep fun b hb => hoth b fun e => hs.1 (by rw [← e]; exact List.mem_cons_of_mem _ (List.mem_flatMap.2 ⟨x, hx, hb⟩))

theorem create_facts {w w2 : World} {B a m : Nat} {T : List OM} {mx p : Int} (h : Tab w B a m T mx) (h1 : Tab (w.setCell ⟨a, 1, none⟩ (.int .i64 (mx + 1))) B a m T (mx + 1)) (hw : w2 = (w.setCell ⟨a, 1, none⟩ (.int .i64 (mx + 1))).alloc (.cells (newM mx p (-1) w.heap.size).cells 38)) :
    Tab w2 B a m T (mx + 1) ∧ Chg (fun b => b = a) w w2 ∧ w2.heap[w.heap.size]? = some (.cells (newM mx p (-1) w.heap.size).cells 38 (0, 0)) ∧ w2.heap.size = w.heap.size + 1 := by
  subst hw
  refine ⟨h1.alloc _, (Chg.set (S := fun b => b = a) w (p := ⟨a, 1, none⟩) rfl _).trans (Chg.new _ _), ?_, by simp [World.setCell]⟩
  have := heap_alloc_new (w.setCell ⟨a, 1, none⟩ (.int .i64 (mx + 1))) (.cells (newM mx p (-1) w.heap.size).cells 38)
  rw [show (w.setCell ⟨a, 1, none⟩ (.int .i64 (mx + 1))).heap.size = w.heap.size from by simp [World.setCell]] at this
  exact this
theorem create_step {w w2 w5 : World} {B a m : Nat} {T : List OM} {mx p : Int} (h : TB w B a m T mx) (hp : p = -1 ∨ hasO (obT T) p = true) (hfew : T.length < 512) (hmm : mx + 1 < 1073741824)
    (ha : Chg (fun b => b = a) w w2) (hg : w2.heap[w.heap.size]? = some (.cells (newM mx p (-1) w.heap.size).cells 38 (0, 0))) (ht : Tab w2 B a m T (mx + 1))
    (hown : w5.ownsMap Try.prog 3 ptrR m (T.length + 1) ((DataW.map (datT T)).put (.int .i64 (mx + 1)) (.lit (.int .i64 (w.heap.size : Int))))) (hgrow : w2.drew.grownBy w5 (some m)) : Stp w w5 B a m T (T ++ [newM mx p (-1) w.heap.size]) mx (mx + 1) := by
  have hgr : ∀ b, b < w2.heap.size → b ≠ m → w5.heap[b]? = w2.heap[b]? := fun b hb hn => hgrow.block b hb (fun e => hn (by injection e))
  have hs := h.tab.sep
  rw [List.nodup_cons, List.nodup_cons] at hs
  have hlt := ht.lt
  have hml := h.tab.lt m (List.mem_cons_of_mem _ (List.mem_cons_self ..))
  have hgl : w.heap.size < w2.heap.size := (Array.getElem?_eq_some_iff.1 hg).1
  have hob : obT (T ++ [newM mx p (-1) w.heap.size]) = obT T ++ [newO mx p (-1) []] := by simp [obT, newM]
  refine ⟨⟨h.tab.grow w.heap.size (Nat.le_refl _) ?_ hown ?_ ?_ hfew hmm, ?_, ?_⟩, ?_, ?_⟩
  · rw [hgr a (hlt a (List.mem_cons_self ..)) (fun e => hs.1 (by rw [e]; exact List.mem_cons_self ..))]
    exact ht.tab
  · rw [hgr _ hgl (by omega)]
    exact hg
  · intro b hb
    have hbl := h.tab.lt b (List.mem_cons_of_mem _ (List.mem_cons_of_mem _ hb))
    have hbo : w2.heap[b]? = w.heap[b]? := ha.block b hbl (fun e => hs.1 (by rw [← e]; exact List.mem_cons_of_mem _ hb))
    rw [hgr b (by omega) (fun e => hs.2.1 (by rw [← e]; exact hb))]
    exact hbo
  · rw [hob]
    exact h.ok.create p (-1) hp
  · intro x hx
    rcases List.mem_append.1 hx with hx | hx
    · exact h.bare x hx
    · rw [List.mem_singleton] at hx
      subst hx
      exact ⟨rfl, rfl⟩
  · refine (ha.mono (S' := fun b => b ∈ a :: m :: blkT T) (fun i _ e => by rw [e]; exact List.mem_cons_self ..)).trans' (Chg.of_grown (a := w2) (g := m) ⟨hgrow.os, hgrow.tape, hgrow.output, hgrow.size, hgrow.block⟩) ?_
    rintro i _ rfl
    exact List.mem_cons_of_mem _ (List.mem_cons_self ..)
  · intro b hb
    rw [show blkT (T ++ [newM mx p (-1) w.heap.size]) = blkT T ++ [w.heap.size] from by simp [blkT, OM.blocks, newM, Value.ownBlock]] at hb
    rcases List.mem_append.1 hb with hb | hb
    · exact .inl hb
    · rw [List.mem_singleton] at hb
      exact .inr (by omega)
theorem create_cell {w w2 w5 : World} {B a m : Nat} {T : List OM} {mx p : Int} (h : Tab w B a m T mx) (hg : w2.heap[w.heap.size]? = some (.cells (newM mx p (-1) w.heap.size).cells 38 (0, 0))) (hgrow : w2.drew.grownBy w5 (some m)) : w5.cell? ⟨w.heap.size, 0, none⟩ = some (.int .i64 (mx + 1)) := by
  have hml := h.lt m (List.mem_cons_of_mem _ (List.mem_cons_self ..))
  have hgl : w.heap.size < w2.heap.size := (Array.getElem?_eq_some_iff.1 hg).1
  have : w5.heap[w.heap.size]? = w2.heap[w.heap.size]? := hgrow.block _ hgl (fun e => by injection e with e; omega)
  exact cell_of_row w5 w.heap.size 0 _ _ _ (this.trans hg)
set_option maxRecDepth 100000 in
set_option maxHeartbeats 4000000 in
theorem create_yes {w : World} {B a m : Nat} {T : List OM} {mx p : Int} (h : TB w B a m T mx) (hp : I64 p) (hpp : p = -1 ∨ hasO (obT T) p = true) (hfew : T.length < 512) (hmm : mx + 1 < 1073741824) :
    Calls Try.prog 11 #[.pointer (some ⟨a, 0, none⟩), .int .i64 p, .int .i64 (-1)] w fun e w' => e = .returned (.tuple #[.int .i64 (mx + 1), .int .i64 0]) ∧ Stp w w' B a m T (T ++ [newM mx p (-1) w.heap.size]) mx (mx + 1) := by
  have H := Lib.hid h
  have HPP := Lib.hid hpp
  have hmx := h.tab.mxr
  have CP := Lib.hid (has_c h.tab hp)
  have c0 := h.tab.c0
  have c1 := h.tab.c1
  have f1 := h.tab.fr 1
  have hln := fun ty => h.tab.len ty
  have hal := h.tab.lt a (List.mem_cons_self ..)
  have ht1 := h.tab.raise hmm
  have hl := (ht1.alloc (.cells #[.int .i64 (mx + 1), .int .i64 p, .int .i64 (mx + 1), .int .i64 (-1), .int .i64 0, .int .i64 0, .string ⟨#[]⟩, .slice none 0 0, .slice none 0 0, .slice none 0 0] 38)).look hp
  have HT1 := Lib.hid ht1
  clear h ht1
  cases hhp : hasO (obT T) p with
  | false =>
    have hpe : p = -1 := by
      rcases hpp with e | e
      · exact e
      · rw [hhp] at e; cases e
    subst hpe
    rw [ptrT_none H.out.tab.neg] at hl
    clear hpp hhp CP
    go_enter Try.func11, Try.ntmps11
    go_wp2_with fail
    obtain ⟨w2, hw2⟩ : ∃ w2, w2 = (w.setCell ⟨a, 1, none⟩ (.int .i64 (mx + 1))).alloc (.cells #[.int .i64 (mx + 1), .int .i64 (-1), .int .i64 (mx + 1), .int .i64 (-1), .int .i64 0, .int .i64 0, .string ⟨#[]⟩, .slice none 0 0, .slice none 0 0, .slice none 0 0] 38) := ⟨_, rfl⟩
    rw [← hw2]
    have F := create_facts H.out.tab HT1.out hw2
    obtain ⟨ht2, hc2, hg2, hz2⟩ := F
    have c0' := ht2.c0
    have cg : w2.cell? ⟨w.heap.size, 0, none⟩ = some (.int .i64 (mx + 1)) := cell_of_row w2 w.heap.size 0 _ _ _ hg2
    have hown := ht2.map
    have HT2 := Lib.hid ht2
    have HC2 := Lib.hid hc2
    have HG2 := Lib.hid hg2
    have HOW := Lib.hid hown
    have hk1 : I64 (mx + 1) := ⟨by omega, by omega⟩
    clear hw2 hl ht2 hc2 hg2 hown c0 c1 f1 hln
    go_still_tail 9, (by kernel_rfl)
    change wpList _ _ _ _ _ w2.drew
    refine wpList_mapUpdate_own (a := _) (o := _) _ rfl _ _ _ 51 rfl 3 54 tkeyed tmap ptrR m T.length (.map (datT T)) rfl (HOW.out.drew) (by unfold maxLen; omega) (.int .i64 (mx + 1)) (.pointer (some ⟨w.heap.size, 0, none⟩)) (.int .i64 (mx + 1)) rfl rfl (tkey_of hk1) (.lit (.int .i64 (w.heap.size : Int))) [] rfl ?_
    intro w5 hown5 hgrow5
    have HS := Lib.hid (create_step (p := -1) H.out (.inl rfl) hfew hmm HC2.out HG2.out HT2.out hown5 hgrow5)
    have cg5 := create_cell (p := -1) H.out.tab HG2.out hgrow5
    clear hown5 hgrow5
    go_wp2_with fail
    go_ret2
    exact ⟨rfl, HS.out⟩
  | true =>
    obtain ⟨x, hx⟩ := hasT hhp
    rw [ptrT_some hx] at hl
    rw [hhp] at CP
    have hpn' : ¬ p = -1 := by
      rintro rfl
      rw [H.out.ok.neg] at hhp
      cases hhp
    have hpn : ((p == -1) = false) := by simpa using hpn'
    have HHP := Lib.hid hhp
    have hxm := (findT_some hx).1
    have hx8 : ((w.setCell ⟨a, 1, none⟩ (.int .i64 (mx + 1))).alloc (.cells #[.int .i64 (mx + 1), .int .i64 p, .int .i64 (mx + 1), .int .i64 (-1), .int .i64 0, .int .i64 0, .string ⟨#[]⟩, .slice none 0 0, .slice none 0 0, .slice none 0 0] 38)).cell? ⟨x.g, 8, none⟩ = some (.slice none 0 0) := by
      rw [← (H.out.bare x hxm).2]
      exact ((HT1.out.alloc _).objs x hxm).cell 8
    clear hx hhp hpp
    go_enter Try.func11, Try.ntmps11
    go_wp2_with fail
    refine CP.out.mono ?_
    rintro e w1 ⟨rfl, rfl⟩
    go_wp2_with fail
    refine wp_loop_rounds 1 ?_
    rw [rounds_succ]
    go_wp2_with fail
    clear hx8
    obtain ⟨w2, hw2⟩ : ∃ w2, w2 = (w.setCell ⟨a, 1, none⟩ (.int .i64 (mx + 1))).alloc (.cells #[.int .i64 (mx + 1), .int .i64 p, .int .i64 (mx + 1), .int .i64 (-1), .int .i64 0, .int .i64 0, .string ⟨#[]⟩, .slice none 0 0, .slice none 0 0, .slice none 0 0] 38) := ⟨_, rfl⟩
    rw [← hw2]
    have F := create_facts H.out.tab HT1.out hw2
    obtain ⟨ht2, hc2, hg2, hz2⟩ := F
    have c0' := ht2.c0
    have cg : w2.cell? ⟨w.heap.size, 0, none⟩ = some (.int .i64 (mx + 1)) := cell_of_row w2 w.heap.size 0 _ _ _ hg2
    have hown := ht2.map
    have HT2 := Lib.hid ht2
    have HC2 := Lib.hid hc2
    have HG2 := Lib.hid hg2
    have HOW := Lib.hid hown
    have hk1 : I64 (mx + 1) := ⟨by omega, by omega⟩
    clear hw2 hl ht2 hc2 hg2 hown c0 c1 f1 hln
    go_still_tail 9, (by kernel_rfl)
    change wpList _ _ _ _ _ w2.drew
    refine wpList_mapUpdate_own (a := _) (o := _) _ rfl _ _ _ 51 rfl 3 54 tkeyed tmap ptrR m T.length (.map (datT T)) rfl (HOW.out.drew) (by unfold maxLen; omega) (.int .i64 (mx + 1)) (.pointer (some ⟨w.heap.size, 0, none⟩)) (.int .i64 (mx + 1)) rfl rfl (tkey_of hk1) (.lit (.int .i64 (w.heap.size : Int))) [] rfl ?_
    intro w5 hown5 hgrow5
    have HS := Lib.hid (create_step (p := p) H.out (.inr HHP.out) hfew hmm HC2.out HG2.out HT2.out hown5 hgrow5)
    have cg5 := create_cell (p := p) H.out.tab HG2.out hgrow5
    clear hown5 hgrow5
    go_wp2_with fail
    go_ret2
    exact ⟨rfl, HS.out⟩
end Go.Proofs.Ytagajoagdhickaa
namespace Go.Proofs.Ytagajoagdhickaa
open Go.RowKit Go.Lib
set_option linter.unusedVariables false

def Falls (rk : Int → Nat) (l : List OB) : Prop := ∀ x ∈ l, ∀ y ∈ l, x.parent = y.id → rk y.id < rk x.id
theorem Falls.setP {rk : Int → Nat} {l : List OB} (h : Falls rk l) {c p : Int} (hp : (∀ x ∈ l, x.id ≠ p) ∨ rk p < rk c) : Falls rk (updO l c (setP p)) := by
  intro x hx y hy e
  obtain ⟨u, hu, hux⟩ := mem_updO hx
  obtain ⟨v, hv, hvy⟩ := mem_updO hy
  have hvid : y.id = v.id := by rcases hvy with ⟨_, rfl⟩ | ⟨_, rfl⟩ <;> rfl
  rw [hvid] at e ⊢
  rcases hux with ⟨huc, rfl⟩ | ⟨huc, rfl⟩
  · have e' : p = v.id := e
    show rk v.id < rk u.id
    rcases hp with hp | hp
    · exact absurd e'.symm (hp v hv)
    · rw [← e', huc]; exact hp
  · exact h x hu v hv e
theorem Falls.row {rk : Int → Nat} {l : List OB} (h : Falls rk l) {c p : Int} (hp : (∀ x ∈ l, x.id ≠ p) ∨ rk p < rk c) : c ∉ rowO l OB.parent p := by
  rcases hp with hp | hp
  · rw [row_none (getO_none.2 hp)]
    simp
  · intro hc
    have := ((run_falls h (l.length + 1) p).2 c hc).1
    omega
theorem ids_none {l : List OB} {p : Int} (h : ∀ x ∈ l, x.id ≠ p) (c : Int) (f : OB → OB) (hf : ∀ x, (f x).id = x.id) : ∀ x ∈ updO l c f, x.id ≠ p := by
  intro x hx
  obtain ⟨u, hu, ⟨_, rfl⟩ | ⟨_, rfl⟩⟩ := mem_updO hx
  · rw [hf]; exact h u hu
  · exact h x hu
theorem foldl_snoc_take {α : Type} (g : α → Int → α) (a : α) {r : List Int} {k : Nat} {x : Int} (h : r[k]? = some x) : (r.take (k + 1)).foldl g a = g ((r.take k).foldl g a) x := by
  rw [List.take_add_one, h]
  simp

theorem blkT_filter {T : List OM} (q : OM → Bool) : (blkT (T.filter q)).Sublist (blkT T) := by
  unfold blkT
  induction T with
  | nil => simp
  | cons x r ih =>
    rw [List.filter_cons, List.flatMap_cons]
    cases q x with
    | true => simp only [if_true, List.flatMap_cons]; exact (List.Sublist.refl _).append ih
    | false => exact ih.trans (List.sublist_append_right _ _)
theorem Tab.drop {w w' : World} {B a m n : Nat} {T : List OM} {mx : Int} (h : Tab w B a m T mx) (o : Int) (hmap : w'.ownsMap Try.prog 3 ptrR m n ((DataW.map (datT T)).del (.int .i64 o))) (hold : ∀ b, b < w.heap.size → b ≠ m → w'.heap[b]? = w.heap[b]?) : Tab w' B a m (T.filter fun x => !(x.o.id == o)) mx := by
  have hs := h.sep
  have hlt := h.lt
  have hs' := hs
  rw [List.nodup_cons, List.nodup_cons] at hs'
  have hsub := blkT_filter (T := T) (fun x => !(x.o.id == o))
  have hmem : ∀ b ∈ a :: m :: blkT (T.filter fun x => !(x.o.id == o)), b ∈ a :: m :: blkT T := fun b hb => by
    rcases List.mem_cons.1 hb with rfl | hb
    · exact List.mem_cons_self ..
    rcases List.mem_cons.1 hb with rfl | hb
    · exact List.mem_cons_of_mem _ (List.mem_cons_self ..)
    exact List.mem_cons_of_mem _ (List.mem_cons_of_mem _ (hsub.subset hb))
  refine ⟨?_, ?_, ?_, ?_, fun b hb => h.base b (hmem b hb), ?_, Nat.le_trans (List.length_filter_le _ _) h.few, h.mxr, fun x hx => h.rng x (List.mem_filter.1 hx).1⟩
  · rw [hold a (hlt a (List.mem_cons_self ..)) (fun e => hs'.1 (by rw [e]; exact List.mem_cons_self ..))]
    exact h.tab
  · rw [datT_del] at hmap
    have := ownsMap_size hmap
    rw [datT_size] at this
    exact this
  · intro x hx
    have hxm := (List.mem_filter.1 hx).1
    refine (h.objs x hxm).keep fun b hb => ?_
    have hbm : b ∈ blkT T := List.mem_flatMap.2 ⟨x, hxm, hb⟩
    exact hold b (hlt b (List.mem_cons_of_mem _ (List.mem_cons_of_mem _ hbm))) (fun e => hs'.2.1 (by rw [← e]; exact hbm))
  · exact List.Nodup.sublist ((List.Sublist.refl [a, m]).append hsub) hs
  · unfold SortO obT
    exact List.Pairwise.sublist ((List.filter_sublist).map OM.o) h.sort
theorem obT_drop (T : List OM) (o : Int) : obT (T.filter fun x => !(x.o.id == o)) = delO (obT T) o := by
  unfold obT delO
  rw [List.filter_map]
  rfl
theorem cont_lt {T : List OM} {o c : Int} (h : c ∈ contO (obT T) o) : ∃ x, findT T c = some x := by
  obtain ⟨x, hx, e, _⟩ := mem_cont h
  exact hasT (hasO_iff.2 ⟨x, hx, e⟩)
theorem kids_lt {T : List OM} {o c : Int} (h : c ∈ kidsO (obT T) o) : ∃ x, findT T c = some x := by
  obtain ⟨x, hx, e, _⟩ := mem_kids h
  exact hasT (hasO_iff.2 ⟨x, hx, e⟩)
theorem kidsO_len {T : List OM} (o : Int) : (kidsO (obT T) o).length ≤ T.length := by
  unfold kidsO
  split
  · rw [List.length_map]
    refine Nat.le_trans (List.length_filter_le _ _) ?_
    simp [obT]
  · simp
theorem contO_len {T : List OM} (o : Int) : (contO (obT T) o).length ≤ T.length := by
  unfold contO
  split
  · rw [List.length_map]
    refine Nat.le_trans (List.length_filter_le _ _) ?_
    simp [obT]
  · simp
end Go.Proofs.Ytagajoagdhickaa
namespace Go.Proofs.Ytagajoagdhickaa
open Go.RowKit Go.Lib
set_option linter.unusedVariables false

theorem recycle_no {w : World} {B a m : Nat} {T : List OM} {mx o : Int} (h : TB w B a m T mx) (ho : I64 o) (hn : hasO (obT T) o = false) :
    Calls Try.prog 9 #[.pointer (some ⟨a, 0, none⟩), .int .i64 o] w fun e w' => e = .returned (.int .i64 13) ∧ w = w' := by
  have c0 := h.tab.c0
  have hl := h.tab.look ho
  have hf : findT T o = none := by
    cases hf : findT T o with
    | none => rfl
    | some x => rw [findT_has hf] at hn; cases hn
  rw [ptrT_none hf] at hl
  clear h hn hf
  go_enter Try.func9, Try.ntmps9
  go_wp2_with fail
  go_ret
  exact ⟨rfl, rfl⟩

/-- What holds while the children are given another parent. -/
structure RcP (w wr : World) (B a m : Nat) (T Tk : List OM) (mx : Int) (rk : Int → Nat) (o : Int) (x0 : OM) (k : Nat) : Prop where
  stp : Stp w wr B a m T Tk mx mx
  eq : obT Tk = ((kidsO (obT T) o).take k).foldl (fun l c => updO l c (setP x0.o.parent)) (obT T)
  at_ : findT Tk o = some x0
  fal : Falls rk (obT Tk)
  par : (∀ x ∈ obT Tk, x.id ≠ x0.o.parent) ∨ rk x0.o.parent < rk o
  ids : idsO (obT Tk) = idsO (obT T)
theorem RcP.step {w wr w2 : World} {B a m : Nat} {T Tk : List OM} {mx : Int} {rk : Int → Nat} {o : Int} {x0 : OM} {k : Nat} {c : Int} (h : RcP w wr B a m T Tk mx rk o x0 k) (hc : (kidsO (obT T) o)[k]? = some c) (hrc : rk o < rk c)
    (hpp : x0.o.parent = -1 ∨ hasO (obT Tk) x0.o.parent = true) (hT : Tab w2 B a m (updT Tk c (setP x0.o.parent)) mx) (hch : Chg (fun b => b ∈ blkT Tk) wr w2) : RcP w w2 B a m T (updT Tk c (setP x0.o.parent)) mx rk o x0 (k + 1) := by
  have hlt : (∀ x ∈ obT Tk, x.id ≠ x0.o.parent) ∨ rk x0.o.parent < rk c := h.par.imp id fun h1 => Nat.lt_trans h1 hrc
  have hne : c ≠ o := fun e => by rw [e] at hrc; exact Nat.lt_irrefl _ hrc
  refine ⟨h.stp.trans (Stp.under h.stp.tb (Below.refl _ _) hT hch hpp (h.fal.row hlt)), ?_, ?_, ?_, ?_, ?_⟩
  · rw [obT_upd, h.eq, foldl_snoc_take _ _ hc]
  · rw [findT_upd Tk c (setP x0.o.parent) (fun _ => rfl), h.at_]
    have := (findT_some h.at_).2
    have e : (x0.o.id == c) = false := by rw [this]; simpa using Ne.symm hne
    simp only [Option.map_some, e]
    rfl
  · rw [obT_upd]
    exact h.fal.setP hlt
  · rw [obT_upd]
    exact h.par.imp (fun h1 => ids_none h1 c (setP x0.o.parent) (fun _ => rfl)) id
  · rw [obT_upd, updO_ids _ _ (setP x0.o.parent) (fun _ => rfl), h.ids]
theorem hasO_ids {l l' : List OB} (h : idsO l = idsO l') (o : Int) : hasO l o = hasO l' o := by
  have key : ∀ l : List OB, hasO l o = true ↔ o ∈ idsO l := fun l => by
    rw [hasO_iff]
    unfold idsO
    rw [List.mem_map]
  rw [Bool.eq_iff_iff, key, key, h]
/-- What holds while what was within is put nowhere. -/
structure RcL (w wr : World) (B a m : Nat) (T T1 Tk : List OM) (mx : Int) (o : Int) (k : Nat) : Prop where
  stp : Stp w wr B a m T Tk mx mx
  eq : obT Tk = ((contO (obT T1) o).take k).foldl (fun l c => updO l c (setL (-1))) (obT T1)
  ids : idsO (obT Tk) = idsO (obT T)
theorem RcL.step {w wr : World} {B a m : Nat} {T T1 Tk : List OM} {mx : Int} {o : Int} {k : Nat} {c : Int} (h : RcL w wr B a m T T1 Tk mx o k) (hc : (contO (obT T1) o)[k]? = some c) {x : OM} (hx : findT Tk c = some x) :
    RcL w (wr.setCell ⟨x.g, 3, none⟩ (.int .i64 (-1))) B a m T T1 (updT Tk c (setL (-1))) mx o (k + 1) := by
  have hxm := (findT_some hx).1
  have ht := h.stp.tb
  refine ⟨h.stp.trans ⟨⟨ht.tab.store hx 3 (.int .i64 (-1)) (setL (-1)) (fun _ => rfl) rfl rfl rfl, ?_, ht.bare.upd c _⟩, Chg.set _ (List.mem_cons_of_mem _ (List.mem_cons_of_mem _ (blk_in hxm))) _, ?_⟩, ?_, ?_⟩
  · rw [obT_upd]
    exact ht.ok.move (.inl rfl) (by rw [row_none (by rw [getO_obT, ht.tab.neg]; rfl)]; simp)
  · intro b hb
    rw [blkT_upd] at hb
    exact .inl hb
  · rw [obT_upd, h.eq, foldl_snoc_take _ _ hc]
  · rw [obT_upd, updO_ids _ _ (setL (-1)) (fun _ => rfl), h.ids]
end Go.Proofs.Ytagajoagdhickaa
namespace Go.Proofs.Ytagajoagdhickaa
open Go.RowKit Go.Lib
set_option linter.unusedVariables false

theorem rcp_start {w w1 : World} {B a m : Nat} {T : List OM} {mx o : Int} (h : TB w B a m T mx) {x0 : OM} (hx0 : findT T o = some x0) (hb : Below w.heap.size w w1) : ∃ rk, RcP w1 w1 B a m T T mx rk o x0 0 ∧ (∀ c ∈ kidsO (obT T) o, rk o < rk c) := by
  obtain ⟨rk, hr⟩ := h.ok.acyP
  obtain ⟨hxm, hxo⟩ := findT_some hx0
  have hxm' : x0.o ∈ obT T := List.mem_map_of_mem hxm
  refine ⟨rk, ⟨.refl (h.keep hb), rfl, hx0, hr, ?_, rfl⟩, fun c hc => ?_⟩
  · rcases h.ok.par x0.o hxm' with e | e
    · exact .inl fun x hx e' => by have := h.ok.rng x hx; omega
    · obtain ⟨y, hy, e⟩ := hasO_iff.1 e
      have := hr x0.o hxm' y hy e.symm
      rw [e, hxo] at this
      exact .inr this
  · obtain ⟨y, hy, rfl, hp⟩ := mem_kids hc
    have := hr y hy x0.o hxm' (by rw [hp, hxo])
    rw [hxo] at this
    exact this
theorem i64_has {w : World} {B a m : Nat} {T : List OM} {mx c : Int} (h : TB w B a m T mx) {x : OM} (hx : findT T c = some x) : I64 c := by
  have h1 := h.tab.rng x (findT_some hx).1
  have h2 := (findT_some hx).2
  have h3 := h.tab.mxr
  exact ⟨by omega, by omega⟩
theorem has_of_ids {T T' : List OM} (h : idsO (obT T') = idsO (obT T)) {c : Int} {x : OM} (hx : findT T c = some x) : ∃ y, findT T' c = some y :=
  hasT (by rw [hasO_ids h]; exact findT_has hx)
theorem stp_drop {w w' : World} {B a m n : Nat} {T : List OM} {mx : Int} (h : TB w B a m T mx) (o : Int) (hmap : w'.ownsMap Try.prog 3 ptrR m n ((DataW.map (datT T)).del (.int .i64 o))) (hg : w.mapTurned w' m) (hok : OkT (delO (obT T) o) mx) : Stp w w' B a m T (T.filter fun x => !(x.o.id == o)) mx mx := by
  have hgr := hg.grown
  refine ⟨⟨h.tab.drop o hmap fun b hb hn => hgr.block b hb fun e => hn (by injection e), by rw [obT_drop]; exact hok, fun x hx => h.bare x (List.mem_filter.1 hx).1⟩, (Chg.of_grown hgr).mono fun i _ e => ?_, fun b hb => .inl ((blkT_filter _).subset hb)⟩
  rw [e]
  exact List.mem_cons_of_mem _ (List.mem_cons_self ..)

set_option maxRecDepth 100000 in
set_option maxHeartbeats 8000000 in
theorem recycle_yes {w : World} {B a m : Nat} {T : List OM} {mx o : Int} (h : TB w B a m T mx) (ho : I64 o) {x0 : OM} (hx0 : findT T o = some x0) :
    Calls Try.prog 9 #[.pointer (some ⟨a, 0, none⟩), .int .i64 o] w fun e w' => e = .returned (.int .i64 0) ∧ ∃ T', Stp w w' B a m T T' mx mx ∧ obT T' = rclO (obT T) o x0.o.parent := by
  have c0 := h.tab.c0
  have hl := h.tab.look ho
  rw [ptrT_some hx0] at hl
  have CK := Lib.hid (kids_c h.tab ho)
  have hkl := kidsO_len (T := T) o
  have hfew := h.tab.few
  have hp := h.parI x0 (findT_some hx0).1
  have H := Lib.hid h
  have HX0 := Lib.hid hx0
  have HNB := Lib.hid (show ∀ g, g ∈ a :: m :: blkT T → g < w.heap.size from h.tab.lt)
  clear h hx0
  go_enter Try.func9, Try.ntmps9
  go_wp2_with fail
  refine CK.out.mono ?_
  rintro e w1 ⟨v, rfl, hrow, hb1⟩
  obtain ⟨A, c, rfl, hnc, hcm, hA, hcell⟩ := own_formO hrow
  obtain ⟨rk, hst, hrkc⟩ := rcp_start H.out HX0.out hb1
  have HST := Lib.hid hst
  have HRK := Lib.hid hrkc
  have HB1 := Lib.hid hb1
  have HCL := Lib.hid hcell
  have HR := Lib.hid hrow
  have hs1 := hb1.size
  clear hb1 hrow hcell CK hst hrkc
  go_wp2_with fail
  go_loopg [22] (kidsO (obT T) o).length (fun kk iv wr => ∃ (k : Nat) (Tk : List OM), iv = .int .i64 (k : Int) ∧ k + kk = (kidsO (obT T) o).length ∧ RcP w1 wr B a m T Tk mx rk o x0 k)
  case atStart => exact ⟨0, T, rfl, by omega, HST.out⟩
  case round =>
    clear c0 hl
    obtain ⟨k, Tk, rfl, hik, hrc⟩ := hrel
    by_cases hk : k < (kidsO (obT T) o).length
    · obtain ⟨j, rfl⟩ : ∃ j, gk = j + 1 := ⟨gk - 1, by omega⟩
      obtain ⟨x, hx⟩ : ∃ x, (kidsO (obT T) o)[k]? = some x := ⟨(kidsO (obT T) o)[k], List.getElem?_eq_some_iff.2 ⟨hk, rfl⟩⟩
      obtain ⟨g1, rfl, hc1⟩ := HCL.out k (.int .i64 x) (by simp [intsO, hx])
      have hg1 := HR.out.lt g1 rfl
      have hcr : wr.cell? ⟨g1, k, none⟩ = some (.int .i64 x) := (World.cell?_of_block (a := ⟨g1, k, none⟩) (hrc.stp.chg.block g1 hg1.2 (fun e => by have := HNB.out g1 e; omega))).trans hc1
      have hxm := List.mem_of_getElem? hx
      obtain ⟨y0, hy0⟩ := kids_lt hxm
      obtain ⟨y, hy⟩ := has_of_ids hrc.ids hy0
      have hxi := i64_has hrc.stp.tb hy
      have h1 : wr.cell? ⟨x0.g, 1, none⟩ = some (.int .i64 x0.o.parent) := (hrc.stp.tb.tab.objs x0 (findT_some hrc.at_).1).cell 1
      obtain ⟨r, hr, hrl, hrh⟩ := below_all hrc.stp.tb (findT_has hy)
      have CU := Lib.hid (under_c0 hrc.stp.tb.tab hxi hp hrc.stp.tb.parI hrc.stp.tb.bare hy hr (fun z hz => by obtain ⟨u, h1, _⟩ := hrh z hz; exact findT_has h1) hrl)
      have hpp : x0.o.parent = -1 ∨ hasO (obT Tk) x0.o.parent = true := by
        rw [hasO_ids hrc.ids]
        exact H.out.ok.par x0.o (List.mem_map_of_mem (findT_some HX0.out).1)
      have HRC := Lib.hid hrc
      have HPP := Lib.hid hpp
      have HX := Lib.hid hx
      have hrx := HRK.out x hxm
      clear hrc hpp hx hc1 hr hrh hy0 hy hxm
      go_wp2_with fail
      refine CU.out.mono ?_
      rintro e w6 ⟨rfl, ht6, hc6⟩
      have HN := Lib.hid (HRC.out.step HX.out hrx HPP.out ht6 hc6)
      clear ht6 hc6
      go_wp2_with fail
      go_roundg j
      case measure => omega
      case rel => exact ⟨k + 1, _, by go_num, by omega, HN.out⟩
    · obtain rfl : k = (kidsO (obT T) o).length := by omega
      obtain ⟨w2, hw2⟩ : ∃ w2, w2 = wr := ⟨_, rfl⟩
      rw [← hw2] at hrc ⊢
      clear hw2
      have heq := hrc.eq
      rw [List.take_length] at heq
      have HEQ := Lib.hid heq
      have HRC := Lib.hid hrc
      have CC := Lib.hid (cont_c hrc.stp.tb.tab ho)
      have hcl := contO_len (T := Tk) o
      have hfk := hrc.stp.tb.tab.few
      have HNB2 := Lib.hid (show ∀ g, g ∈ a :: m :: blkT Tk → g < w2.heap.size from hrc.stp.tb.tab.lt)
      clear hrc heq
      go_wp2_with fail
      refine CC.out.mono ?_
      rintro e w3 ⟨v2, rfl, hrow2, hb3⟩
      obtain ⟨A2, c2, rfl, hnc2, hcm2, hA2, hcell2⟩ := own_formO hrow2
      have HB3 := Lib.hid hb3
      have HCL2 := Lib.hid hcell2
      have HR2 := Lib.hid hrow2
      have HT3 := Lib.hid (HRC.out.stp.tb.keep hb3)
      clear hb3 hcell2 hrow2 CC
      go_wp2_with fail
      go_loopg [38] (contO (obT Tk) o).length (fun kk iv wr => ∃ (k : Nat) (T2 : List OM), iv = .int .i64 (k : Int) ∧ k + kk = (contO (obT Tk) o).length ∧ RcL w3 wr B a m Tk Tk T2 mx o k)
      case atStart => exact ⟨0, Tk, rfl, by omega, .refl HT3.out, rfl, rfl⟩
      case round =>
        clear hik hk
        obtain ⟨k, T2, rfl, hik, hrc⟩ := hrel
        by_cases hk : k < (contO (obT Tk) o).length
        · obtain ⟨j, rfl⟩ : ∃ j, gk = j + 1 := ⟨gk - 1, by omega⟩
          obtain ⟨x, hx⟩ : ∃ x, (contO (obT Tk) o)[k]? = some x := ⟨(contO (obT Tk) o)[k], List.getElem?_eq_some_iff.2 ⟨hk, rfl⟩⟩
          obtain ⟨g1, rfl, hc1⟩ := HCL2.out k (.int .i64 x) (by simp [intsO, hx])
          have hg1 := HR2.out.lt g1 rfl
          have hcr : wr.cell? ⟨g1, k, none⟩ = some (.int .i64 x) := (World.cell?_of_block (a := ⟨g1, k, none⟩) (hrc.stp.chg.block g1 hg1.2 (fun e => by have := HNB2.out g1 e; omega))).trans hc1
          obtain ⟨y0, hy0⟩ := cont_lt (List.mem_of_getElem? hx)
          obtain ⟨y, hy⟩ := has_of_ids hrc.ids hy0
          have hxi := i64_has hrc.stp.tb hy
          have c0 := hrc.stp.tb.tab.c0
          have hl := hrc.stp.tb.tab.look hxi
          rw [ptrT_some hy] at hl
          have hym := (findT_some hy).1
          have h3 : wr.cell? ⟨y.g, 3, none⟩ = some (.int .i64 y.o.place) := (hrc.stp.tb.tab.objs y hym).cell 3
          have f3 : wr.frozen? ⟨y.g, 3, none⟩ = false := (hrc.stp.tb.tab.objs y hym).free 3
          have HN := Lib.hid (hrc.step hx hy)
          clear hrc hx hc1 hy0 hy
          go_wp2_with fail
          go_roundg j
          case measure => omega
          case rel => exact ⟨k + 1, _, by go_num, by omega, HN.out⟩
        · obtain rfl : k = (contO (obT Tk) o).length := by omega
          have heq := hrc.eq
          rw [List.take_length] at heq
          have hrcl : delO (obT T2) o = rclO (obT T) o x0.o.parent := by
            rw [heq, HEQ.out]
            rfl
          have hok : OkT (delO (obT T2) o) mx := by
            rw [hrcl]
            exact H.out.ok.recycle (getO_some' HX0.out)
          have HOK := Lib.hid hok
          have HRL := Lib.hid hrcl
          have HRC2 := Lib.hid hrc
          have HOW := Lib.hid hrc.stp.tb.tab.map
          have c0 := hrc.stp.tb.tab.c0
          clear hrc heq hrcl hok
          go_wp2_with (refine wpList_delete_own _ rfl _ _ 51 3 rfl 54 tkeyed tmap ptrR m T2.length (.map (datT T2)) rfl HOW.out (.int .i64 o) (.int .i64 o) rfl (tkey_of ho) ?_
                       intro w9 hown9 hturn9
                       have HS := Lib.hid (stp_drop HRC2.out.stp.tb o hown9 hturn9 HOK.out)
                       clear hown9 hturn9)
          go_ret
          exact ⟨rfl, _, (((Stp.of_below H.out HB1.out).trans HRC.out.stp).behind HB3.out).trans (HRC2.out.stp.trans HS.out), by rw [obT_drop]; exact HRL.out⟩
end Go.Proofs.Ytagajoagdhickaa
namespace Go.Proofs.Ytagajoagdhickaa
open Go.RowKit Go.Lib
set_option linter.unusedVariables false

/-- The cells of an object without properties. -/
def bareCs (x : OB) : Array Value := #[.int .i64 x.id, .int .i64 x.parent, .int .i64 x.owner, .int .i64 x.place, .int .i64 x.flags, .int .i64 x.quota, .string x.name, .slice none 0 0, .slice none 0 0, .slice none 0 0]

theorem bare_one (x : OB) : (bareCs x).all (·.oneCell') = true := by simp [bareCs, Value.oneCell']
set_option maxRecDepth 100000 in
set_option maxHeartbeats 4000000 in
theorem object_c (x : OB) (w : World) : Calls Try.prog 34 #[.agg (bareCs x)] w fun e w' => e = .returned (.agg (bareCs x)) ∧ Below w.heap.size w w' := by
  obtain ⟨id, parent, owner, place, flags, quota, name, defs, slots⟩ := x
  unfold bareCs
  go_enter Try.func34, Try.ntmps34
  go_wp2_with fail
  refine (Try.slices_Clone_string_nil 0 0 _).mono ?_
  rintro e w1 ⟨rfl, rfl⟩
  go_wp2_with fail
  refine wp_loop_rounds 1 ?_
  rw [rounds_succ]
  go_wp2_with fail
  refine wp_loop_rounds 1 ?_
  rw [rounds_succ]
  go_wp2_with fail
  exact bodyPost_ret (results_cell_row (P := Try.prog) rfl _ _ (w.heap.size + 1) _ _ _ _ rfl (heap_alloc2_new _ _ _) Try.underlying38 rfl (by kernel_rfl)) rfl ⟨rfl, ((Below.refl _ _).alloc (Nat.le_refl _) _).alloc (by simp) _⟩

theorem results_row_tmp {P : Program} {fn : Func} {p u : Tmp} {ty : TypeId} (h : fn.results = #[.cell p ty, .tmp u]) (tmps : Array Value) (w : World) (g : Nat) (t : TypeId) (cs : Array Value) (fr : Nat × Nat) (d : TypeDesc)
    (hp : tmps.getD p undef = .pointer (some ⟨g, 0, none⟩)) (hg : w.heap[g]? = some (.cells cs t fr))
    (hu : P.underlying ty = some d) (hd : (match d with | .struct _ | .array _ _ => true | _ => false) = true) (hi : (P.info? ty).map (·.size) = some cs.size) :
    (results fn tmps).run P w = .ok (.tuple #[.agg cs, tmps.getD u undef]) w := by
  rw [results_cell_tmp h, hp]
  simp [asAddr, run_loadVar_row w g t ty cs fr d hg hu hd hi, Result.andThen]
/-- An object without properties in memory has such cells. -/
theorem bare_cells {T : List OM} (hb : BareM T) {x : OM} (hx : x ∈ T) : x.cells = bareCs x.o := by
  unfold OM.cells bareCs
  rw [(hb x hx).1, (hb x hx).2]
set_option maxRecDepth 100000 in
set_option maxHeartbeats 4000000 in
theorem get_c {w : World} {B a m : Nat} {T : List OM} {mx o : Int} (h : TB w B a m T mx) (ho : I64 o) {x : OM} (hx : findT T o = some x) :
    Calls Try.prog 19 #[.pointer (some ⟨a, 0, none⟩), .int .i64 o] w fun e w' => e = .returned (.tuple #[.agg (bareCs x.o), .bool true]) ∧ Below w.heap.size w w' := by
  have hxm := (findT_some hx).1
  have hb1 : Below w.heap.size w (w.alloc (.cells #[.int .i64 0, .int .i64 0, .int .i64 0, .int .i64 0, .int .i64 0, .int .i64 0, .string ⟨#[]⟩, .slice none 0 0, .slice none 0 0, .slice none 0 0] 38)) := (Below.refl _ _).alloc (Nat.le_refl _) _
  have HB1 := Lib.hid hb1
  have ht := h.tab.below hb1
  clear hb1
  have c0 := ht.c0
  have hl := ht.look ho
  rw [ptrT_some hx] at hl
  have hg := (ht.objs x hxm).blk
  rw [bare_cells h.bare hxm] at hg
  have CO := object_c x.o
  unfold bareCs at CO
  have CO := Lib.hid CO
  have HG := Lib.hid hg
  have hcl := fun j => (ht.objs x hxm).cell j
  rw [bare_cells h.bare hxm] at hcl
  have d0 := hcl 0
  have d1 := hcl 1
  have d2 := hcl 2
  have d3 := hcl 3
  have d4 := hcl 4
  have d5 := hcl 5
  have d6 := hcl 6
  have d7 := hcl 7
  have d8 := hcl 8
  have d9 := hcl 9
  unfold bareCs at d0 d1 d2 d3 d4 d5 d6 d7 d8 d9
  simp at d0 d1 d2 d3 d4 d5 d6 d7 d8 d9
  clear h hg hcl ht hx
  go_enter Try.func19, Try.ntmps19
  go_wp2_with fail
  refine CO.out _ |>.mono ?_
  rintro e w2 ⟨rfl, hb2⟩
  have hz2 : w2.heap[w.heap.size]? = some (.cells #[.int .i64 0, .int .i64 0, .int .i64 0, .int .i64 0, .int .i64 0, .int .i64 0, .string ⟨#[]⟩, .slice none 0 0, .slice none 0 0, .slice none 0 0] 38 (0, 0)) := (hb2.block _ (by simp)).trans (heap_alloc_new _ _)
  have HZ2 := Lib.hid hz2
  have HB2 := Lib.hid (HB1.out.trans (hb2.mono (by simp)))
  clear hb2 hz2 c0 hl d0 d1 d2 d3 d4 d5 d6 d7 d8 d9
  have hr := setRow_heap w2 w.heap.size _ (bareCs x.o) _ _ HZ2.out
  have HROW := Lib.hid hr
  have HBR := Lib.hid (below_setRow HB2.out (g := w.heap.size) (Nat.le_refl _) (bareCs x.o))
  clear hr
  go_wp2_with (refine wpList_store_row rfl 38 (.tmp 4) (.tmp 19) rfl w.heap.size #[.int .i64 x.o.id, .int .i64 x.o.parent, .int .i64 x.o.owner, .int .i64 x.o.place, .int .i64 x.o.flags, .int .i64 x.o.quota, .string x.o.name, .slice none 0 0, .slice none 0 0, .slice none 0 0] rfl rfl _ _ HZ2.out (by kernel_rfl) rfl (bare_one x.o) ?_)
  exact bodyPost_ret (results_row_tmp (P := Try.prog) rfl _ _ w.heap.size _ (bareCs x.o) _ _ rfl HROW.out Try.underlying38 rfl (by kernel_rfl)) rfl ⟨rfl, HBR.out⟩
end Go.Proofs.Ytagajoagdhickaa
namespace Go.Proofs.Ytagajoagdhickaa
open Go.RowKit Go.Lib
set_option linter.unusedVariables false

theorem Stp.below {w w' : World} {B a m : Nat} {T T' : List OM} {mx mx' : Int} (k : Stp w w' B a m T T' mx mx') (h : TB w B a m T mx) (hB : B ≤ w.heap.size) : Below B w w' := k.chg.below hB fun i hi => h.tab.base i hi
theorem oret_int {k : IntKind} {a b : Int} (h : a = b) : Ending.returned (.int k a) = .returned (.int k b) := by rw [h]
theorem otmod (n : Int) (b : Int) (hb : 0 < b) : (Int.tmod n b < 0 → n % b = Int.tmod n b + b) ∧ (¬ Int.tmod n b < 0 → n % b = Int.tmod n b) ∧ -b < Int.tmod n b ∧ Int.tmod n b < b := by
  have h0 : n % b = (Int.tmod n b) % b := by
    conv => lhs; rw [← Int.tmod_add_mul_tdiv n b]
    rw [Int.add_mul_emod_self_left]
  have ht1 : Int.tmod n b < b := Int.tmod_lt_of_pos n (by omega)
  have ht0 : -b < Int.tmod n b := by
    by_cases h : 0 ≤ n
    · have := Int.tmod_nonneg b h; omega
    · have h1 := Int.tmod_lt_of_pos (-n) hb
      rw [Int.neg_tmod] at h1; omega
  refine ⟨fun h => ?_, fun h => ?_, ht0, ht1⟩
  · rw [h0, ← Int.add_emod_right, Int.emod_eq_of_lt (by omega) (by omega)]
  · rw [h0, Int.emod_eq_of_lt (by omega) (by omega)]
theorem onumber_c (n b : Int) (w : World) (hn : I64 n) (h0 : 0 < b) (h1 : b ≤ 1000000) :
    Calls Try.prog 8 #[.int .i64 n, .int .i64 b] w fun e w' => e = .returned (.int .i64 (n % b)) ∧ w = w' := by
  obtain ⟨hn1, hn2⟩ := hn
  obtain ⟨he1, he2, ht0, ht1⟩ := otmod n b h0
  have hbz : (b == 0) = false := by simp; omega
  obtain ⟨r, hr⟩ : ∃ r, r = n % b := ⟨_, rfl⟩
  rw [← hr] at he1 he2 ⊢
  clear hr
  by_cases hneg : Int.tmod n b < 0
  · have hd : decide (Int.tmod n b < 0) = true := decide_eq_true hneg
    have HE := Lib.hid (he1 hneg)
    clear he1 he2
    go_enter Try.func8, Try.ntmps8
    go_wp2_with fail
    go_ret
    exact ⟨oret_int HE.out.symm, rfl⟩
  · have hd : decide (Int.tmod n b < 0) = false := decide_eq_false hneg
    have HE := Lib.hid (he2 hneg)
    clear he1 he2
    go_enter Try.func8, Try.ntmps8
    go_wp2_with fail
    go_ret
    exact ⟨oret_int HE.out.symm, rfl⟩
theorem tb_new {w w' : World} {B a m : Nat} (h : Tab w' B a m [] (-1)) : TB w' B a m [] (-1) := ⟨h, OkT.nil, fun x hx => by cases hx⟩

set_option maxRecDepth 100000 in
set_option maxHeartbeats 4000000 in
theorem ofirst_c (w : World) : Calls Try.prog 6 #[] w fun e w' => e = .returned (.bool true) ∧ Below w.heap.size w w' := by
  go_enter Try.func6, Try.ntmps6
  go_wp2_with fail
  refine (new_c w).mono ?_
  rintro e w1 ⟨rfl, ht1, hb1⟩
  have hb := tb_new (w := w) ht1
  have HT1 := Lib.hid hb
  have HB1 := Lib.hid hb1
  have CC := Lib.hid (create_yes (p := -1) hb ⟨by omega, by omega⟩ (.inl rfl) (by decide) (by omega))
  have hs1 := hb1.size
  clear ht1 hb1 hb
  go_wp2_with fail
  refine CC.out.mono ?_
  rintro e w2 ⟨rfl, hst⟩
  have HST := Lib.hid hst
  have HB2 := Lib.hid (HB1.out.trans (hst.below HT1.out hs1))
  have CG := Lib.hid (get_c hst.tb (o := 0) ⟨by omega, by omega⟩ (x := newM (-1) (-1) (-1) w1.heap.size) rfl)
  clear hst CC
  go_wp2_with fail
  refine CG.out.mono ?_
  rintro e w3 ⟨rfl, hb3⟩
  have HB3 := Lib.hid (HB2.out.trans (hb3.mono HB2.out.size))
  clear hb3 CG
  unfold bareCs newM newO
  go_wp2_with fail
  go_ret
  exact ⟨rfl, HB3.out.alloc HB3.out.size _⟩
/-- A row of numbers that was handed in. -/
def ArgI (W : World) (A : Option Addr) (l : List Int) : Prop := (∀ x ∈ l, I64 x) ∧ (l = [] ∨ ∃ b o, A = some ⟨b, o, none⟩ ∧ b < W.heap.size ∧ ∀ (j : Nat) (x : Int), l[j]? = some x → W.cell? ⟨b, o + j, none⟩ = some (.int .i64 x))
theorem ArgI.at_ {W w : World} {A : Option Addr} {l : List Int} (h : ArgI W A l) (hb : Below W.heap.size W w) {j : Nat} {x : Int} (hj : l[j]? = some x) : I64 x ∧ ∃ b o, A = some ⟨b, o, none⟩ ∧ w.cell? ⟨b, o + j, none⟩ = some (.int .i64 x) := by
  obtain ⟨h1, h2⟩ := h
  refine ⟨h1 x (List.mem_of_getElem? hj), ?_⟩
  rcases h2 with rfl | ⟨b, o, rfl, hlt, hc⟩
  · simp at hj
  · exact ⟨b, o, rfl, (hb.cell (p := ⟨b, o + j, none⟩) hlt).trans (hc j x hj)⟩
theorem rcl_has {l : List OB} (hs : SortO l) {o p : Int} (ho : hasO l o = true) : hasO (rclO l o p) o = false := by
  rw [rcl_eq hs ho]
  cases hh : hasO (delO (l.map (gone o p)) o) o with
  | false => rfl
  | true => exact absurd rfl (hasO_del.1 hh).2
end Go.Proofs.Ytagajoagdhickaa
namespace Go.Proofs.Ytagajoagdhickaa
open Go.RowKit Go.Lib
set_option linter.unusedVariables false

end Go.Proofs.Ytagajoagdhickaa
namespace Go.Proofs.Ytagajoagdhickaa
open Go.RowKit Go.Lib
set_option linter.unusedVariables false

theorem obT_len (T : List OM) : (obT T).length = T.length := by simp [obT]
/-- What holds in the law's loop. -/
structure NmI (w0 wr : World) (B a m : Nat) (T : List OM) (nx : Int) (i : Nat) : Prop where
  tb : TB wr B a m T (nx - 1)
  lo : 0 ≤ nx
  hi : nx ≤ i
  len : T.length ≤ i
  bel : Below w0.heap.size w0 wr
theorem NmI.step {w0 wr w' : World} {B a m : Nat} {T T' : List OM} {nx mx' : Int} {i : Nat} (h : NmI w0 wr B a m T nx i) (hB : B = w0.heap.size) (hs : Stp wr w' B a m T T' (nx - 1) mx') (hm : mx' = nx - 1 ∨ mx' = nx) (hl : T'.length ≤ T.length + 1) : NmI w0 w' B a m T' (mx' + 1) (i + 1) :=
  ⟨by rw [show mx' + 1 - 1 = mx' from by omega]; exact hs.tb, by have := h.lo; omega, by have := h.hi; omega, by have := h.len; omega, h.bel.trans (by have := hs.below h.tb (by rw [hB]; exact h.bel.size); rw [hB] at this; exact this)⟩

end Go.Proofs.Ytagajoagdhickaa
namespace Go.Proofs.Ytagajoagdhickaa
open Go.RowKit Go.Lib
set_option linter.unusedVariables false

theorem sameTexts_none (c c' : Nat) (w : World) : Calls Try.prog 37 #[.slice none 0 c, .slice none 0 c'] w fun e w' => e = .returned (.bool true) ∧ w = w' := by
  go_enter Try.func37, Try.ntmps37
  go_wp2_with fail
  refine wp_loop_rounds 1 ?_
  rw [rounds_succ]
  go_wp2_with fail
  go_ret
  exact ⟨rfl, rfl⟩
theorem sameSlots_none (c c' : Nat) (w : World) : Calls Try.prog 38 #[.slice none 0 c, .slice none 0 c'] w fun e w' => e = .returned (.bool true) ∧ w = w' := by
  go_enter Try.func38, Try.ntmps38
  go_wp2_with fail
  refine wp_loop_rounds 1 ?_
  rw [rounds_succ]
  go_wp2_with fail
  go_ret
  exact ⟨rfl, rfl⟩
theorem sameVerbs_none (c c' : Nat) (w : World) : Calls Try.prog 39 #[.slice none 0 c, .slice none 0 c'] w fun e w' => e = .returned (.bool true) ∧ w = w' := by
  go_enter Try.func39, Try.ntmps39
  go_wp2_with fail
  refine wp_loop_rounds 1 ?_
  rw [rounds_succ]
  go_wp2_with fail
  go_ret
  exact ⟨rfl, rfl⟩
set_option maxRecDepth 100000 in
set_option maxHeartbeats 4000000 in
theorem sameObject_c (x : OB) (w : World) : Calls Try.prog 22 #[.agg (bareCs x), .agg (bareCs x)] w fun e w' => e = .returned (.bool true) ∧ Below w.heap.size w w' := by
  obtain ⟨id, parent, owner, place, flags, quota, name, defs, slots⟩ := x
  unfold bareCs
  go_enter Try.func22, Try.ntmps22
  go_wp2_with fail
  refine (sameTexts_none 0 0 _).mono ?_
  rintro e w1 ⟨rfl, rfl⟩
  go_wp2_with fail
  refine (sameSlots_none 0 0 _).mono ?_
  rintro e w1 ⟨rfl, rfl⟩
  go_wp2_with fail
  refine (sameVerbs_none 0 0 _).mono ?_
  rintro e w1 ⟨rfl, rfl⟩
  go_wp2_with fail
  go_ret
  exact ⟨rfl, ((Below.refl _ _).alloc (Nat.le_refl _) _).alloc (by simp) _⟩

theorem oobj_info : (Try.prog.info? 38).map (fun i => (i.zero, i.size, i.bytes)) = some (some (.agg #[.int .i64 0, .int .i64 0, .int .i64 0, .int .i64 0, .int .i64 0, .int .i64 0, .string ⟨#[]⟩, .slice none 0 0, .slice none 0 0, .slice none 0 0]), 10, 136) := by kernel_rfl
def allCs (l : List OB) : List Value := l.flatMap fun x => (bareCs x).toList
theorem allCs_snoc {l : List OB} {k : Nat} {x : OB} (h : l[k]? = some x) : allCs (l.take (k + 1)) = allCs (l.take k) ++ (bareCs x).toList := by
  unfold allCs
  rw [List.take_add_one, h]
  simp
theorem bareCs_one (x : OB) : ∀ u ∈ (bareCs x).toList, u.oneCell' = true := by
  intro u hu
  unfold bareCs at hu
  simp only [List.mem_cons, List.not_mem_nil, or_false] at hu
  rcases hu with rfl | rfl | rfl | rfl | rfl | rfl | rfl | rfl | rfl | rfl <;> rfl

set_option maxRecDepth 100000 in
set_option maxHeartbeats 4000000 in
theorem all_c {w : World} {B a m : Nat} {T : List OM} {mx : Int} (h : TB w B a m T mx) :
    Calls Try.prog 21 #[.pointer (some ⟨a, 0, none⟩)] w fun e w' => ∃ v, e = .returned v ∧ w'.ownsRow w.heap.size 38 10 v T.length (allCs (obT T)) ∧ Below w.heap.size w w' := by
  obtain ⟨i0, hi0, hz0, hz1, hz2⟩ := info_parts oobj_info
  have CI := Lib.hid (ids_c h.tab)
  have H := Lib.hid h
  have hfew := h.tab.few
  have hmx := h.tab.mxr
  have hTl := obT_len T
  have HTL := Lib.hid hTl
  clear h hTl
  go_enter Try.func21, Try.ntmps21
  go_wp2_with fail
  refine CI.out.mono ?_
  rintro e w1 ⟨v, rfl, hrow, hb1⟩
  obtain ⟨A, c, rfl, hnc, hcm, hA, hcell⟩ := own_formO hrow
  have HB1 := Lib.hid hb1
  have HR := Lib.hid hrow
  have HCL := Lib.hid hcell
  have hs1 := hb1.size
  clear hb1 hrow hcell
  go_wp2_with fail
  go_loopg [3, 9] T.length (fun kk ov iv wr => ∃ (V : Value) (k : Nat), V = ov ∧ iv = .int .i64 (k : Int) ∧ k + kk = T.length ∧ wr.ownsRow w1.heap.size 38 10 V k (allCs ((obT T).take k)) ∧ Below w1.heap.size w1 wr)
  case atStart => exact ⟨.slice none 0 0, 0, rfl, rfl, by omega, World.ownsRow_nil _ _ _ _, Below.refl _ _⟩
  case round =>
    obtain ⟨V, k, rfl, rfl, hik, hrow, hbr⟩ := hrel
    have hrz := hbr.size
    by_cases hk : k < T.length
    · obtain ⟨j, rfl⟩ : ∃ j, gk = j + 1 := ⟨gk - 1, by omega⟩
      obtain ⟨x, hx⟩ : ∃ x, T[k]? = some x := ⟨T[k], List.getElem?_eq_some_iff.2 ⟨hk, rfl⟩⟩
      have hxm : x ∈ T := List.mem_of_getElem? hx
      obtain ⟨g1, rfl, hc1⟩ := HCL.out k (.int .i64 x.o.id) (by simp [idsO, obT, hx])
      have hg1 := HR.out.lt g1 rfl
      have hbw : Below w.heap.size w wr := HB1.out.trans (hbr.mono hs1)
      have ht := H.out.keep hbw
      have c0 := ht.tab.c0
      have hfx := findT_at H.out.tab.sort hx
      have hl := ht.tab.look (i64_has ht hfx)
      rw [ptrT_some hfx] at hl
      have hcr : wr.cell? ⟨g1, k, none⟩ = some (.int .i64 x.o.id) := (hbr.cell (p := ⟨g1, k, none⟩) hg1.2).trans hc1
      have hcl := fun j => (ht.tab.objs x hxm).cell j
      rw [bare_cells H.out.bare hxm] at hcl
      have d0 := hcl 0
      have d1 := hcl 1
      have d2 := hcl 2
      have d3 := hcl 3
      have d4 := hcl 4
      have d5 := hcl 5
      have d6 := hcl 6
      have d7 := hcl 7
      have d8 := hcl 8
      have d9 := hcl 9
      unfold bareCs at d0 d1 d2 d3 d4 d5 d6 d7 d8 d9
      simp at d0 d1 d2 d3 d4 d5 d6 d7 d8 d9
      have hox : (obT T)[k]? = some x.o := by simp [obT, hx]
      have HSN := Lib.hid (allCs_snoc hox)
      have CO := object_c x.o
      unfold bareCs at CO
      have CO := Lib.hid CO
      have HROW := Lib.hid hrow
      have HBR := Lib.hid hbr
      clear hrow hbr hx hfx hbw ht hc1 hcl hox
      go_wp2_with fail
      refine (CO.out _).mono ?_
      rintro e w3 ⟨rfl, hb3⟩
      have HB3 := Lib.hid hb3
      have hs3 := hb3.size
      clear hb3 d0 d1 d2 d3 d4 d5 d6 d7 d8 d9 c0 hl hcr
      go_wp2_with (at_builtin; refine wpList_append_own_at _ rfl (.tmp 13) (.tmp 23) 47 rfl w1.heap.size 38 i0 _ 10 136 Try.underlying47 hi0 hz0 hz1 hz2 rfl (by decide) V k (allCs ((obT T).take k)) rfl (own_keepO (own_keepO HROW.out HB3.out) ((Below.refl _ _).alloc (Nat.le_refl _) _)) ⟨w3.heap.size, 0, none⟩ 1 1 (bareCs x.o).toList rfl rfl ?c1 ?c2 ?c3 ?c4 ?c5 ?c6
                   case c1 => exact World.news_of_block (heap_alloc_new w3 _)
                   case c2 => exact bareCs_one x.o
                   case c3 => unfold maxLen; omega
                   case c4 => omega
                   case c5 => simp; omega
                   intro v' w11 hown' hgrow _ _
                   have HB11 := Lib.hid (Below.grown ((HBR.out.trans (HB3.out.mono hrz)).alloc (by omega) _) hgrow (by simp; omega) (fun k hk => (HROW.out.lt k hk).1))
                   have HO11 := Lib.hid hown'
                   clear hown' hgrow)
      go_roundg j
      case measure => omega
      case rel => exact ⟨v', k + 1, rfl, by go_num, by omega, by rw [HSN.out]; exact HO11.out, HB11.out⟩
    · obtain rfl : k = T.length := by omega
      have HROW := Lib.hid hrow
      have HBR := Lib.hid hbr
      clear hrow hbr
      go_wp2_with fail
      go_ret
      refine ⟨V, rfl, ?_, HB1.out.trans (HBR.out.mono hs1)⟩
      have := HROW.out
      rw [← HTL.out, List.take_length, HTL.out] at this
      exact ownsRow_base_a this hs1
end Go.Proofs.Ytagajoagdhickaa
namespace Go.Proofs.Ytagajoagdhickaa
open Go.ChangeShapes Go.WideShapes Go.ChangeAt Go.RowKit Go.Lib
set_option linter.unusedVariables false

theorem o_knob : ownKnob Try.prog.godebug = none := by kernel_rfl
theorem olaid_out : laidOutB Try.prog = true := by kernel_rfl
theorem o_range {a : Int} (h : (Lit.int .i64 a).wf = true) : -9223372036854775808 ≤ a ∧ a ≤ 9223372036854775807 := by
  have e1 : IntKind.i64.min = -9223372036854775808 := by decide
  have e2 : IntKind.i64.max = 9223372036854775807 := by decide
  have h' : (decide (IntKind.i64.min ≤ a) && decide (a ≤ IntKind.i64.max)) = true := h
  rw [e1, e2, Bool.and_eq_true, decide_eq_true_eq, decide_eq_true_eq] at h'
  exact h'
theorem o_i64 {a : Int} (h : (Lit.int .i64 a).wf = true) : I64 a := o_range h
set_option maxRecDepth 100000 in
theorem ocells_slice {W : World} {r : Reach} {b0 : Nat} {t e : TypeId} {v : Value} (ht : Try.prog.underlying t = some (.slice e)) (h : Value.okWide Try.prog W r b0 t v) : v.cells.toList = [v] := by
  obtain ⟨a, len, cap, rfl⟩ := okWide_slice ht h
  rfl
theorem ocells_int : Try.prog.cellsOf 3 = 1 := by kernel_rfl
section
variable {H : Type} {enc : TypeId × Value → H} {W : World} {sp : Nat → Bool} {held : Bool}
/-- A row of numbers, handed in. -/
theorem open_intsO {v : Value} {d : DataW H} {p : List MemPlace} (hv : v.cells.toList = [v]) (h : DataW.Trod enc Try.prog W 0 sp held 22 v d p) :
    ∃ (l : List Int) (A : Option Addr) (c : Nat), v = .slice A l.length c ∧ l.length ≤ 9223372036854775807 ∧ ArgI W A l := by
  have hmax : maxLen ≤ 9223372036854775807 := by decide
  obtain ⟨fuel, hf⟩ := h
  rw [hv] at hf
  rcases open_ints Try.underlying22 Try.underlying3 ocells_int hf with ⟨hcs, _⟩ | ⟨a, len, cap, zs, hcs, _, hlc, hcm, hsl, _, hcell, hwf⟩
  · injection hcs with hcs _
    exact ⟨[], none, 0, hcs, by decide, (fun x hx => by cases hx), .inl rfl⟩
  · injection hcs with hcs _
    have hle : len ≤ zs.length := by rw [hsl]; split <;> omega
    have hll : (zs.take len).length = len := by rw [List.length_take]; omega
    refine ⟨zs.take len, some a, cap, by rw [hll]; exact hcs, by omega, fun x hx => o_i64 (hwf x (List.mem_of_mem_take hx)), ?_⟩
    by_cases h0 : len = 0
    · left; rw [h0]; rfl
    obtain ⟨b, o, spot⟩ := a
    have hc0 := hcell 0 (by omega)
    have hspot : spot = none := by simpa [Addr.add] using World.cell?_spot hc0
    subst hspot
    have hb : b < W.heap.size := by
      have h1 : (⟨b, o, none⟩ : Addr).add 0 = ⟨b, o, none⟩ := by unfold Addr.add; rfl
      rw [h1] at hc0
      unfold World.cell? at hc0
      rcases Nat.lt_or_ge b W.heap.size with hlt | hge
      · exact hlt
      · simp only [Array.getElem?_eq_none hge] at hc0; cases hc0
    refine .inr ⟨b, o, rfl, hb, fun j x hj => ?_⟩
    have hjl : j < len := by
      rcases Nat.lt_or_ge j len with hlt | hge
      · exact hlt
      · rw [List.getElem?_eq_none (by rw [hll]; exact hge)] at hj; cases hj
    have hg := hcell j (by omega)
    have e : (⟨b, o, none⟩ : Addr).add j = ⟨b, o + j, none⟩ := by unfold Addr.add; split <;> simp_all
    rw [e] at hg
    rw [hg]
    rw [List.getElem?_take_of_lt hjl] at hj
    rw [List.getD_eq_getElem?_getD, hj]
    rfl
end
end Go.Proofs.Ytagajoagdhickaa
