/- Contracts of the functions that the statement reaches, and the plain mathematics beneath: several texts joined. -/
import Derived.StillTailTactics
import Derived.Laws.Tables
import Derived.Laws.CopyOwn
import Derived.Laws.ResultCell
import Derived.Test.YtnphgcbknfmapaaGreatDoorRows
import Derived.SizedLaws
import Derived.OpenShut
import Derived.ShutString
import Derived.ChangeSlices
import Derived.Carry
import Derived.JoinedOf
import Derived.Test.YtnphgcbknfmapaaGreatDoorOslAC
import Derived.Test.YtnphgcbknfmapaaGreatDoorOslAA
namespace Go.Proofs.YtnphgcbknfmapaaGreatDoor
open Go.RowKit Go.Lib
set_option linter.unusedVariables false

set_option maxRecDepth 100000 in
theorem insS_none (c : Nat) (fv : Value) (w : World) : Calls Tryz.prog 144 #[.slice none 0 c, .int .i64 0, .int .i64 0, fv] w fun e w' => e = .returned (.tuple #[]) ∧ w = w' := by
  go_enter Tryz.func144, Tryz.ntmps144
  go_wp2_with fail
  refine wp_loop_rounds 1 ?_
  rw [rounds_succ]
  go_wp2_with fail
  go_end0
  exact ⟨rfl, rfl⟩
set_option maxRecDepth 100000 in
theorem pdqS_none (c : Nat) (k : Int) (fv : Value) (w : World) : Calls Tryz.prog 132 #[.slice none 0 c, .int .i64 0, .int .i64 0, .int .i64 k, fv] w fun e w' => e = .returned (.tuple #[]) ∧ w = w' := by
  have C := insS_none c fv w
  go_enter Tryz.func132, Tryz.ntmps132
  go_wp2_with fail
  refine wp_loop_rounds 1 ?_
  rw [rounds_succ]
  go_wp2_with fail
  refine C.mono ?_
  rintro e w' ⟨rfl, rfl⟩
  go_wp2_with fail
  refine bodyPost_ret (results_none rfl _ _ _) rfl ?_
  exact ⟨rfl, rfl⟩
set_option maxRecDepth 100000 in
theorem sortSlots_none (c : Nat) (w : World) : Calls Tryz.prog 68 #[.slice none 0 c] w fun e w' => e = .returned (.tuple #[]) ∧ w = w' := by
  have C1 : Calls Tryz.prog 108 #[.slice none 0 c, .func (.func 109) #[] #[]] w fun e w' => e = .returned (.tuple #[]) ∧ w = w' := by
    have CL := Tryz.bits_Len 0 w (by omega) (by omega)
    have CP := fun k => pdqS_none c k (.func (.func 109) #[] #[]) w
    go_enter Tryz.func108, Tryz.ntmps108
    go_wp2_with fail
    refine CL.mono ?_
    rintro e w' ⟨rfl, rfl⟩
    go_wp2_with fail
    refine (CP _).mono ?_
    rintro e w' ⟨rfl, rfl⟩
    go_wp2_with fail
    go_end0
    exact ⟨rfl, rfl⟩
  go_enter Tryz.func68, Tryz.ntmps68
  go_wp2_with fail
  refine C1.mono ?_
  rintro e w' ⟨rfl, rfl⟩
  go_wp2_with fail
  go_end0
  exact ⟨rfl, rfl⟩
theorem conF_none (c : Nat) (fv : Value) (w : World) : Calls Tryz.prog 50 #[.slice none 0 c, fv] w fun e w' => e = .returned (.bool false) ∧ w = w' := by
  have C1 : Calls Tryz.prog 95 #[.slice none 0 c, fv] w fun e w' => e = .returned (.int .i64 (-1)) ∧ w = w' := by
    go_enter Tryz.func95, Tryz.ntmps95
    go_wp2_with fail
    refine wp_loop_rounds 1 ?_
    rw [rounds_succ]
    go_wp2_with fail
    go_ret
    exact ⟨rfl, rfl⟩
  go_enter Tryz.func50, Tryz.ntmps50
  go_wp2_with fail
  refine C1.mono ?_
  rintro e w' ⟨rfl, rfl⟩
  go_wp2_with fail
  go_ret
  exact ⟨rfl, rfl⟩
end Go.Proofs.YtnphgcbknfmapaaGreatDoor
namespace Go.Proofs.YtnphgcbknfmapaaGreatDoor
open Go.RowKit Go.Lib
set_option linter.unusedVariables false

/-- No object has a name of its own, or a property. -/
def BareM (T : List OM) : Prop := ∀ x ∈ T, x.dv = .slice none 0 0 ∧ x.sv = .slice none 0 0
theorem mem_above {T : List OM} {o : Int} {x : Int} (h : x ∈ aboveO (obT T) o) : ∃ y ∈ T, findT T x = some y := by
  unfold aboveO at h
  revert h
  generalize (obT T).length + 1 = n
  intro h
  induction n generalizing o with
  | zero => simp [abvO] at h
  | succ n ih =>
    rw [abvO, getO_obT] at h
    cases hf : findT T o with
    | none => rw [hf] at h; simp at h
    | some y =>
      rw [hf] at h
      simp only [Option.map_some, List.mem_cons] at h
      rcases h with rfl | h
      · exact ⟨y, (findT_some hf).1, by rw [(findT_some hf).2]; exact hf⟩
      · exact ih h
theorem ostr_info : (Tryz.prog.info? 9).map (fun i => (i.zero, i.size, i.bytes)) = some (some (.string ⟨#[]⟩), 1, 16) := by kernel_rfl
end Go.Proofs.YtnphgcbknfmapaaGreatDoor
namespace Go.Proofs.YtnphgcbknfmapaaGreatDoor
open Go.RowKit Go.Lib
set_option linter.unusedVariables false

theorem Tab.drew {w : World} {B a m : Nat} {T : List OM} {mx : Int} (h : Tab w B a m T mx) : Tab w.drew B a m T mx := h.keep fun _ _ => rfl
theorem BareM.upd {T : List OM} (h : BareM T) (o : Int) (f : OB → OB) : BareM (updT T o f) := by
  intro y hy
  obtain ⟨z, hz, ⟨_, rfl⟩ | ⟨_, rfl⟩⟩ := mem_updT hy
  · exact h z hz
  · exact h y hz
theorem ParI.setP {T : List OM} (h : ParI T) (o p : Int) (hp : I64 p) : ParI (updT T o (setP p)) := by
  intro y hy
  obtain ⟨z, hz, ⟨_, rfl⟩ | ⟨_, rfl⟩⟩ := mem_updT hy
  · exact hp
  · exact h y hz
theorem blk_in {T : List OM} {x : OM} (hx : x ∈ T) : x.g ∈ blkT T := List.mem_flatMap.2 ⟨x, hx, OM.mem_blocks.2 (.inl rfl)⟩

end Go.Proofs.YtnphgcbknfmapaaGreatDoor
namespace Go.Proofs.YtnphgcbknfmapaaGreatDoor
open Go.RowKit Go.Lib
set_option linter.unusedVariables false

/-- A table without properties in memory. -/
structure TB (w : World) (B a m : Nat) (T : List OM) (mx : Int) : Prop where
  tab : Tab w B a m T mx
  ok : OkT (obT T) mx
  bare : BareM T
/-- What a change leaves: a table again; all but its own blocks is as it was. -/
structure Stp (w w' : World) (B a m : Nat) (T T' : List OM) (mx mx' : Int) : Prop where
  tb : TB w' B a m T' mx'
  chg : Chg (fun b => b ∈ a :: m :: blkT T) w w'
  new : ∀ b ∈ blkT T', b ∈ blkT T ∨ w.heap.size ≤ b
theorem TB.keep {w w' : World} {B a m : Nat} {T : List OM} {mx : Int} (h : TB w B a m T mx) (hb : Below w.heap.size w w') : TB w' B a m T mx := ⟨h.tab.below hb, h.ok, h.bare⟩
theorem Stp.refl {w : World} {B a m : Nat} {T : List OM} {mx : Int} (h : TB w B a m T mx) : Stp w w B a m T T mx mx := ⟨h, .refl _ _, fun b hb => .inl hb⟩
theorem Stp.of_below {w w' : World} {B a m : Nat} {T : List OM} {mx : Int} (h : TB w B a m T mx) (hb : Below w.heap.size w w') : Stp w w' B a m T T mx mx := ⟨h.keep hb, .of_below hb, fun b hb => .inl hb⟩
theorem Stp.trans {w w1 w2 : World} {B a m : Nat} {T T1 T2 : List OM} {mx mx1 mx2 : Int} (h : Stp w w1 B a m T T1 mx mx1) (k : Stp w1 w2 B a m T1 T2 mx1 mx2) : Stp w w2 B a m T T2 mx mx2 := by
  refine ⟨k.tb, h.chg.trans' k.chg ?_, ?_⟩
  · intro i hi hm
    rcases List.mem_cons.1 hm with rfl | hm
    · exact List.mem_cons_self ..
    rcases List.mem_cons.1 hm with rfl | hm
    · exact List.mem_cons_of_mem _ (List.mem_cons_self ..)
    rcases h.new i hm with h1 | h1
    · exact List.mem_cons_of_mem _ (List.mem_cons_of_mem _ h1)
    · omega
  · intro b hb
    rcases k.new b hb with h1 | h1
    · exact h.new b h1
    · exact .inr (Nat.le_trans h.chg.size h1)
theorem hasT {T : List OM} {o : Int} (h : hasO (obT T) o = true) : ∃ x, findT T o = some x := by
  obtain ⟨y, hy⟩ := hasO_get h
  rw [getO_obT] at hy
  cases hf : findT T o with
  | none => rw [hf] at hy; cases hy
  | some x => exact ⟨x, rfl⟩

end Go.Proofs.YtnphgcbknfmapaaGreatDoor
namespace Go.Proofs.YtnphgcbknfmapaaGreatDoor
open Go.RowKit Go.Lib
set_option linter.unusedVariables false

theorem Stp.under {w w1 w' : World} {B a m : Nat} {T : List OM} {mx o p : Int} (h : TB w B a m T mx) (hb : Below w.heap.size w w1) (hT : Tab w' B a m (updT T o (setP p)) mx) (hc : Chg (fun b => b ∈ blkT T) w1 w') (hp : p = -1 ∨ hasO (obT T) p = true) (hi : o ∉ rowO (obT T) OB.parent p) : Stp w w' B a m T (updT T o (setP p)) mx mx := by
  refine ⟨⟨hT, ?_, h.bare.upd o _⟩, (Chg.of_below hb).trans' hc ?_, ?_⟩
  · rw [obT_upd]
    exact h.ok.chparent hp hi
  · intro i _ hm
    exact List.mem_cons_of_mem _ (List.mem_cons_of_mem _ hm)
  · intro b hb
    rw [blkT_upd] at hb
    exact .inl hb
end Go.Proofs.YtnphgcbknfmapaaGreatDoor
namespace Go.Proofs.YtnphgcbknfmapaaGreatDoor
open Go.RowKit Go.Lib
set_option linter.unusedVariables false

/-- An object that is new, without properties, where it lies. -/
def newM (mx p ow : Int) (g : Nat) : OM := ⟨newO mx p ow [], g, .slice none 0 0, .slice none 0 0⟩
theorem Tab.grow {w w' : World} {B a m : Nat} {T : List OM} {mx p ow : Int} (h : Tab w B a m T mx) (g : Nat) (hg : w.heap.size ≤ g)
    (htab : w'.heap[a]? = some (.cells #[.map (some m), .int .i64 (mx + 1)] 84 (0, 0)))
    (hmap : w'.ownsMap Tryz.prog 3 ptrR m (T.length + 1) ((DataW.map (datT T)).put (.int .i64 (mx + 1)) (.lit (.int .i64 (g : Int)))))
    (hnew : w'.heap[g]? = some (.cells (newM mx p ow g).cells 29 (0, 0)))
    (hold : ∀ b ∈ blkT T, w'.heap[b]? = w.heap[b]?) (hf : T.length < 512) (hm : mx + 1 < 1073741824) : Tab w' B a m (T ++ [newM mx p ow g]) (mx + 1) := by
  have hlt := h.lt
  have hB := h.base a (List.mem_cons_self ..)
  have hla := hlt a (List.mem_cons_self ..)
  have hmx := h.mxr
  have hid : (newM mx p ow g).o.id = mx + 1 := rfl
  have hbk : blkT (T ++ [newM mx p ow g]) = blkT T ++ [g] := by simp [blkT, OM.blocks, newM, Value.ownBlock]
  have hlast : ∀ y ∈ T, y.o.id < (newM mx p ow g).o.id := fun y hy => by have := h.rng y hy; rw [hid]; omega
  refine ⟨htab, ?_, ?_, ?_, ?_, ?_, by simp; omega, by omega, ?_⟩
  · have e := datT_put T (newM mx p ow g) hlast
    rw [hid] at e
    rw [show (T ++ [newM mx p ow g]).length = T.length + 1 from by simp, ← e]
    exact hmap
  · intro x hx
    rcases List.mem_append.1 hx with hx | hx
    · exact (h.objs x hx).keep fun b hb => hold b (List.mem_flatMap.2 ⟨x, hx, hb⟩)
    · rw [List.mem_singleton] at hx
      subst hx
      exact ⟨hnew, World.ownsRow_nil _ _ _ _, World.ownsRow_nil _ _ _ _⟩
  · rw [hbk]
    have hs := h.sep
    rw [show a :: m :: (blkT T ++ [g]) = (a :: m :: blkT T) ++ [g] from rfl, List.nodup_append]
    refine ⟨hs, by simp, ?_⟩
    intro x hx y hy e
    rw [List.mem_singleton] at hy
    have := hlt x hx
    omega
  · rw [hbk]
    intro b hb
    rw [show a :: m :: (blkT T ++ [g]) = (a :: m :: blkT T) ++ [g] from rfl] at hb
    rcases List.mem_append.1 hb with hb | hb
    · exact h.base b hb
    · rw [List.mem_singleton] at hb
      omega
  · unfold SortO obT
    rw [List.map_append, List.pairwise_append]
    refine ⟨h.sort, by simp, ?_⟩
    intro x hx y hy
    obtain ⟨z, hz, rfl⟩ := List.mem_map.1 hx
    simp only [List.map_cons, List.map_nil, List.mem_singleton] at hy
    subst hy
    exact hlast z hz
  · intro x hx
    rcases List.mem_append.1 hx with hx | hx
    · have := h.rng x hx; omega
    · rw [List.mem_singleton] at hx
      subst hx
      rw [hid]
      omega
theorem Tab.raise {w : World} {B a m : Nat} {T : List OM} {mx : Int} (h : Tab w B a m T mx) (hm : mx + 1 < 1073741824) : Tab (w.setCell ⟨a, 1, none⟩ (.int .i64 (mx + 1))) B a m T (mx + 1) := by
  have hs := h.sep
  rw [List.nodup_cons] at hs
  have hoth : ∀ b, b ≠ a → (w.setCell ⟨a, 1, none⟩ (.int .i64 (mx + 1))).heap[b]? = w.heap[b]? := fun b hb => Below.heap_setCell _ _ _ _ hb
  have hmx := h.mxr
  refine ⟨?_, ownsMap_same h.map (hoth m fun e => hs.1 (by rw [← e]; exact List.mem_cons_self ..)), ?_, h.sep, h.base, h.sort, h.few, by omega, fun x hx => by have := h.rng x hx; omega⟩
  · rw [heap_setCell_same w a 1 _ _ _ h.tab]
    rfl
  · intro x hx
    exact (h.objs x hx).keep fun b hb => hoth b fun e => hs.1 (by rw [← e]; exact List.mem_cons_of_mem _ (List.mem_flatMap.2 ⟨x, hx, hb⟩))

theorem create_facts {w w2 : World} {B a m : Nat} {T : List OM} {mx p : Int} (h : Tab w B a m T mx) (h1 : Tab (w.setCell ⟨a, 1, none⟩ (.int .i64 (mx + 1))) B a m T (mx + 1)) (hw : w2 = (w.setCell ⟨a, 1, none⟩ (.int .i64 (mx + 1))).alloc (.cells (newM mx p (-1) w.heap.size).cells 29)) :
    Tab w2 B a m T (mx + 1) ∧ Chg (fun b => b = a) w w2 ∧ w2.heap[w.heap.size]? = some (.cells (newM mx p (-1) w.heap.size).cells 29 (0, 0)) ∧ w2.heap.size = w.heap.size + 1 := by
  subst hw
  refine ⟨h1.alloc _, (Chg.set (S := fun b => b = a) w (p := ⟨a, 1, none⟩) rfl _).trans (Chg.new _ _), ?_, by simp [World.setCell]⟩
  have := heap_alloc_new (w.setCell ⟨a, 1, none⟩ (.int .i64 (mx + 1))) (.cells (newM mx p (-1) w.heap.size).cells 29)
  rw [show (w.setCell ⟨a, 1, none⟩ (.int .i64 (mx + 1))).heap.size = w.heap.size from by simp [World.setCell]] at this
  exact this
theorem create_step {w w2 w5 : World} {B a m : Nat} {T : List OM} {mx p : Int} (h : TB w B a m T mx) (hp : p = -1 ∨ hasO (obT T) p = true) (hfew : T.length < 512) (hmm : mx + 1 < 1073741824)
    (ha : Chg (fun b => b = a) w w2) (hg : w2.heap[w.heap.size]? = some (.cells (newM mx p (-1) w.heap.size).cells 29 (0, 0))) (ht : Tab w2 B a m T (mx + 1))
    (hown : w5.ownsMap Tryz.prog 3 ptrR m (T.length + 1) ((DataW.map (datT T)).put (.int .i64 (mx + 1)) (.lit (.int .i64 (w.heap.size : Int))))) (hgrow : w2.drew.grownBy w5 (some m)) : Stp w w5 B a m T (T ++ [newM mx p (-1) w.heap.size]) mx (mx + 1) := by
  have hgr : ∀ b, b < w2.heap.size → b ≠ m → w5.heap[b]? = w2.heap[b]? := fun b hb hn => hgrow.block b hb (fun e => hn (by injection e))
  have hs := h.tab.sep
  rw [List.nodup_cons, List.nodup_cons] at hs
  have hlt := ht.lt
  have hml := h.tab.lt m (List.mem_cons_of_mem _ (List.mem_cons_self ..))
  have hgl : w.heap.size < w2.heap.size := (Array.getElem?_eq_some_iff.1 hg).1
  have hob : obT (T ++ [newM mx p (-1) w.heap.size]) = obT T ++ [newO mx p (-1) []] := by simp [obT, newM]
  refine ⟨⟨h.tab.grow w.heap.size (Nat.le_refl _) ?_ hown ?_ ?_ hfew hmm, ?_, ?_⟩, ?_, ?_⟩
  · rw [hgr a (hlt a (List.mem_cons_self ..)) (fun e => hs.1 (by rw [e]; exact List.mem_cons_self ..))]
    exact ht.tab
  · rw [hgr _ hgl (by omega)]
    exact hg
  · intro b hb
    have hbl := h.tab.lt b (List.mem_cons_of_mem _ (List.mem_cons_of_mem _ hb))
    have hbo : w2.heap[b]? = w.heap[b]? := ha.block b hbl (fun e => hs.1 (by rw [← e]; exact List.mem_cons_of_mem _ hb))
    rw [hgr b (by omega) (fun e => hs.2.1 (by rw [← e]; exact hb))]
    exact hbo
  · rw [hob]
    exact h.ok.create p (-1) hp
  · intro x hx
    rcases List.mem_append.1 hx with hx | hx
    · exact h.bare x hx
    · rw [List.mem_singleton] at hx
      subst hx
      exact ⟨rfl, rfl⟩
  · refine (ha.mono (S' := fun b => b ∈ a :: m :: blkT T) (fun i _ e => by rw [e]; exact List.mem_cons_self ..)).trans' (Chg.of_grown (a := w2) (g := m) ⟨hgrow.os, hgrow.tape, hgrow.output, hgrow.size, hgrow.block⟩) ?_
    rintro i _ rfl
    exact List.mem_cons_of_mem _ (List.mem_cons_self ..)
  · intro b hb
    rw [show blkT (T ++ [newM mx p (-1) w.heap.size]) = blkT T ++ [w.heap.size] from by simp [blkT, OM.blocks, newM, Value.ownBlock]] at hb
    rcases List.mem_append.1 hb with hb | hb
    · exact .inl hb
    · rw [List.mem_singleton] at hb
      exact .inr (by omega)
theorem create_cell {w w2 w5 : World} {B a m : Nat} {T : List OM} {mx p : Int} (h : Tab w B a m T mx) (hg : w2.heap[w.heap.size]? = some (.cells (newM mx p (-1) w.heap.size).cells 29 (0, 0))) (hgrow : w2.drew.grownBy w5 (some m)) : w5.cell? ⟨w.heap.size, 0, none⟩ = some (.int .i64 (mx + 1)) := by
  have hml := h.lt m (List.mem_cons_of_mem _ (List.mem_cons_self ..))
  have hgl : w.heap.size < w2.heap.size := (Array.getElem?_eq_some_iff.1 hg).1
  have : w5.heap[w.heap.size]? = w2.heap[w.heap.size]? := hgrow.block _ hgl (fun e => by injection e with e; omega)
  exact cell_of_row w5 w.heap.size 0 _ _ _ (this.trans hg)
set_option maxRecDepth 100000 in
set_option maxHeartbeats 4000000 in
theorem create_yes {w : World} {B a m : Nat} {T : List OM} {mx p : Int} (h : TB w B a m T mx) (hp : I64 p) (hpp : p = -1 ∨ hasO (obT T) p = true) (hfew : T.length < 512) (hmm : mx + 1 < 1073741824) :
    Calls Tryz.prog 12 #[.pointer (some ⟨a, 0, none⟩), .int .i64 p, .int .i64 (-1)] w fun e w' => e = .returned (.tuple #[.int .i64 (mx + 1), .int .i64 0]) ∧ Stp w w' B a m T (T ++ [newM mx p (-1) w.heap.size]) mx (mx + 1) := by
  have H := Lib.hid h
  have HPP := Lib.hid hpp
  have hmx := h.tab.mxr
  have CP := Lib.hid (has_c h.tab hp)
  have c0 := h.tab.c0
  have c1 := h.tab.c1
  have f1 := h.tab.fr 1
  have hln := fun ty => h.tab.len ty
  have hal := h.tab.lt a (List.mem_cons_self ..)
  have ht1 := h.tab.raise hmm
  have hl := (ht1.alloc (.cells #[.int .i64 (mx + 1), .int .i64 p, .int .i64 (mx + 1), .int .i64 (-1), .int .i64 0, .int .i64 0, .string ⟨#[]⟩, .slice none 0 0, .slice none 0 0, .slice none 0 0] 29)).look hp
  have HT1 := Lib.hid ht1
  clear h ht1
  cases hhp : hasO (obT T) p with
  | false =>
    have hpe : p = -1 := by
      rcases hpp with e | e
      · exact e
      · rw [hhp] at e; cases e
    subst hpe
    rw [ptrT_none H.out.tab.neg] at hl
    clear hpp hhp CP
    go_enter Tryz.func12, Tryz.ntmps12
    go_wp2_with fail
    obtain ⟨w2, hw2⟩ : ∃ w2, w2 = (w.setCell ⟨a, 1, none⟩ (.int .i64 (mx + 1))).alloc (.cells #[.int .i64 (mx + 1), .int .i64 (-1), .int .i64 (mx + 1), .int .i64 (-1), .int .i64 0, .int .i64 0, .string ⟨#[]⟩, .slice none 0 0, .slice none 0 0, .slice none 0 0] 29) := ⟨_, rfl⟩
    rw [← hw2]
    have F := create_facts H.out.tab HT1.out hw2
    obtain ⟨ht2, hc2, hg2, hz2⟩ := F
    have c0' := ht2.c0
    have cg : w2.cell? ⟨w.heap.size, 0, none⟩ = some (.int .i64 (mx + 1)) := cell_of_row w2 w.heap.size 0 _ _ _ hg2
    have hown := ht2.map
    have HT2 := Lib.hid ht2
    have HC2 := Lib.hid hc2
    have HG2 := Lib.hid hg2
    have HOW := Lib.hid hown
    have hk1 : I64 (mx + 1) := ⟨by omega, by omega⟩
    clear hw2 hl ht2 hc2 hg2 hown c0 c1 f1 hln
    go_still_tail 9, (by kernel_rfl)
    change wpList _ _ _ _ _ w2.drew
    refine wpList_mapUpdate_own (a := _) (o := _) _ rfl _ _ _ 82 rfl 3 81 tkeyed tmap ptrR m T.length (.map (datT T)) rfl (HOW.out.drew) (by unfold maxLen; omega) (.int .i64 (mx + 1)) (.pointer (some ⟨w.heap.size, 0, none⟩)) (.int .i64 (mx + 1)) rfl rfl (tkey_of hk1) (.lit (.int .i64 (w.heap.size : Int))) [] rfl ?_
    intro w5 hown5 hgrow5
    have HS := Lib.hid (create_step (p := -1) H.out (.inl rfl) hfew hmm HC2.out HG2.out HT2.out hown5 hgrow5)
    have cg5 := create_cell (p := -1) H.out.tab HG2.out hgrow5
    clear hown5 hgrow5
    go_wp2_with fail
    go_ret2
    exact ⟨rfl, HS.out⟩
  | true =>
    obtain ⟨x, hx⟩ := hasT hhp
    rw [ptrT_some hx] at hl
    rw [hhp] at CP
    have hpn' : ¬ p = -1 := by
      rintro rfl
      rw [H.out.ok.neg] at hhp
      cases hhp
    have hpn : ((p == -1) = false) := by simpa using hpn'
    have HHP := Lib.hid hhp
    have hxm := (findT_some hx).1
    have hx8 : ((w.setCell ⟨a, 1, none⟩ (.int .i64 (mx + 1))).alloc (.cells #[.int .i64 (mx + 1), .int .i64 p, .int .i64 (mx + 1), .int .i64 (-1), .int .i64 0, .int .i64 0, .string ⟨#[]⟩, .slice none 0 0, .slice none 0 0, .slice none 0 0] 29)).cell? ⟨x.g, 8, none⟩ = some (.slice none 0 0) := by
      rw [← (H.out.bare x hxm).2]
      exact ((HT1.out.alloc _).objs x hxm).cell 8
    clear hx hhp hpp
    go_enter Tryz.func12, Tryz.ntmps12
    go_wp2_with fail
    refine CP.out.mono ?_
    rintro e w1 ⟨rfl, rfl⟩
    go_wp2_with fail
    refine wp_loop_rounds 1 ?_
    rw [rounds_succ]
    go_wp2_with fail
    clear hx8
    obtain ⟨w2, hw2⟩ : ∃ w2, w2 = (w.setCell ⟨a, 1, none⟩ (.int .i64 (mx + 1))).alloc (.cells #[.int .i64 (mx + 1), .int .i64 p, .int .i64 (mx + 1), .int .i64 (-1), .int .i64 0, .int .i64 0, .string ⟨#[]⟩, .slice none 0 0, .slice none 0 0, .slice none 0 0] 29) := ⟨_, rfl⟩
    rw [← hw2]
    have F := create_facts H.out.tab HT1.out hw2
    obtain ⟨ht2, hc2, hg2, hz2⟩ := F
    have c0' := ht2.c0
    have cg : w2.cell? ⟨w.heap.size, 0, none⟩ = some (.int .i64 (mx + 1)) := cell_of_row w2 w.heap.size 0 _ _ _ hg2
    have hown := ht2.map
    have HT2 := Lib.hid ht2
    have HC2 := Lib.hid hc2
    have HG2 := Lib.hid hg2
    have HOW := Lib.hid hown
    have hk1 : I64 (mx + 1) := ⟨by omega, by omega⟩
    clear hw2 hl ht2 hc2 hg2 hown c0 c1 f1 hln
    go_still_tail 9, (by kernel_rfl)
    change wpList _ _ _ _ _ w2.drew
    refine wpList_mapUpdate_own (a := _) (o := _) _ rfl _ _ _ 82 rfl 3 81 tkeyed tmap ptrR m T.length (.map (datT T)) rfl (HOW.out.drew) (by unfold maxLen; omega) (.int .i64 (mx + 1)) (.pointer (some ⟨w.heap.size, 0, none⟩)) (.int .i64 (mx + 1)) rfl rfl (tkey_of hk1) (.lit (.int .i64 (w.heap.size : Int))) [] rfl ?_
    intro w5 hown5 hgrow5
    have HS := Lib.hid (create_step (p := p) H.out (.inr HHP.out) hfew hmm HC2.out HG2.out HT2.out hown5 hgrow5)
    have cg5 := create_cell (p := p) H.out.tab HG2.out hgrow5
    clear hown5 hgrow5
    go_wp2_with fail
    go_ret2
    exact ⟨rfl, HS.out⟩
end Go.Proofs.YtnphgcbknfmapaaGreatDoor
namespace Go.Proofs.YtnphgcbknfmapaaGreatDoor
open Go.RowKit Go.Lib
set_option linter.unusedVariables false

def Falls (rk : Int → Nat) (l : List OB) : Prop := ∀ x ∈ l, ∀ y ∈ l, x.parent = y.id → rk y.id < rk x.id
theorem Falls.setP {rk : Int → Nat} {l : List OB} (h : Falls rk l) {c p : Int} (hp : (∀ x ∈ l, x.id ≠ p) ∨ rk p < rk c) : Falls rk (updO l c (setP p)) := by
  intro x hx y hy e
  obtain ⟨u, hu, hux⟩ := mem_updO hx
  obtain ⟨v, hv, hvy⟩ := mem_updO hy
  have hvid : y.id = v.id := by rcases hvy with ⟨_, rfl⟩ | ⟨_, rfl⟩ <;> rfl
  rw [hvid] at e ⊢
  rcases hux with ⟨huc, rfl⟩ | ⟨huc, rfl⟩
  · have e' : p = v.id := e
    show rk v.id < rk u.id
    rcases hp with hp | hp
    · exact absurd e'.symm (hp v hv)
    · rw [← e', huc]; exact hp
  · exact h x hu v hv e
theorem Falls.row {rk : Int → Nat} {l : List OB} (h : Falls rk l) {c p : Int} (hp : (∀ x ∈ l, x.id ≠ p) ∨ rk p < rk c) : c ∉ rowO l OB.parent p := by
  rcases hp with hp | hp
  · rw [row_none (getO_none.2 hp)]
    simp
  · intro hc
    have := ((run_falls h (l.length + 1) p).2 c hc).1
    omega
theorem ids_none {l : List OB} {p : Int} (h : ∀ x ∈ l, x.id ≠ p) (c : Int) (f : OB → OB) (hf : ∀ x, (f x).id = x.id) : ∀ x ∈ updO l c f, x.id ≠ p := by
  intro x hx
  obtain ⟨u, hu, ⟨_, rfl⟩ | ⟨_, rfl⟩⟩ := mem_updO hx
  · rw [hf]; exact h u hu
  · exact h x hu
theorem foldl_snoc_take {α : Type} (g : α → Int → α) (a : α) {r : List Int} {k : Nat} {x : Int} (h : r[k]? = some x) : (r.take (k + 1)).foldl g a = g ((r.take k).foldl g a) x := by
  rw [List.take_add_one, h]
  simp

theorem blkT_filter {T : List OM} (q : OM → Bool) : (blkT (T.filter q)).Sublist (blkT T) := by
  unfold blkT
  induction T with
  | nil => simp
  | cons x r ih =>
    rw [List.filter_cons, List.flatMap_cons]
    cases q x with
    | true => simp only [if_true, List.flatMap_cons]; exact (List.Sublist.refl _).append ih
    | false => exact ih.trans (List.sublist_append_right _ _)
theorem Tab.drop {w w' : World} {B a m n : Nat} {T : List OM} {mx : Int} (h : Tab w B a m T mx) (o : Int) (hmap : w'.ownsMap Tryz.prog 3 ptrR m n ((DataW.map (datT T)).del (.int .i64 o))) (hold : ∀ b, b < w.heap.size → b ≠ m → w'.heap[b]? = w.heap[b]?) : Tab w' B a m (T.filter fun x => !(x.o.id == o)) mx := by
  have hs := h.sep
  have hlt := h.lt
  have hs' := hs
  rw [List.nodup_cons, List.nodup_cons] at hs'
  have hsub := blkT_filter (T := T) (fun x => !(x.o.id == o))
  have hmem : ∀ b ∈ a :: m :: blkT (T.filter fun x => !(x.o.id == o)), b ∈ a :: m :: blkT T := fun b hb => by
    rcases List.mem_cons.1 hb with rfl | hb
    · exact List.mem_cons_self ..
    rcases List.mem_cons.1 hb with rfl | hb
    · exact List.mem_cons_of_mem _ (List.mem_cons_self ..)
    exact List.mem_cons_of_mem _ (List.mem_cons_of_mem _ (hsub.subset hb))
  refine ⟨?_, ?_, ?_, ?_, fun b hb => h.base b (hmem b hb), ?_, Nat.le_trans (List.length_filter_le _ _) h.few, h.mxr, fun x hx => h.rng x (List.mem_filter.1 hx).1⟩
  · rw [hold a (hlt a (List.mem_cons_self ..)) (fun e => hs'.1 (by rw [e]; exact List.mem_cons_self ..))]
    exact h.tab
  · rw [datT_del] at hmap
    have := ownsMap_size hmap
    rw [datT_size] at this
    exact this
  · intro x hx
    have hxm := (List.mem_filter.1 hx).1
    refine (h.objs x hxm).keep fun b hb => ?_
    have hbm : b ∈ blkT T := List.mem_flatMap.2 ⟨x, hxm, hb⟩
    exact hold b (hlt b (List.mem_cons_of_mem _ (List.mem_cons_of_mem _ hbm))) (fun e => hs'.2.1 (by rw [← e]; exact hbm))
  · exact List.Nodup.sublist ((List.Sublist.refl [a, m]).append hsub) hs
  · unfold SortO obT
    exact List.Pairwise.sublist ((List.filter_sublist).map OM.o) h.sort
end Go.Proofs.YtnphgcbknfmapaaGreatDoor
namespace Go.Proofs.YtnphgcbknfmapaaGreatDoor
open Go.RowKit Go.Lib
set_option linter.unusedVariables false

/-- What holds while the children are given another parent. -/
structure RcP (w wr : World) (B a m : Nat) (T Tk : List OM) (mx : Int) (rk : Int → Nat) (o : Int) (x0 : OM) (k : Nat) : Prop where
  stp : Stp w wr B a m T Tk mx mx
  eq : obT Tk = ((kidsO (obT T) o).take k).foldl (fun l c => updO l c (setP x0.o.parent)) (obT T)
  at_ : findT Tk o = some x0
  fal : Falls rk (obT Tk)
  par : (∀ x ∈ obT Tk, x.id ≠ x0.o.parent) ∨ rk x0.o.parent < rk o
  ids : idsO (obT Tk) = idsO (obT T)
theorem RcP.step {w wr w2 : World} {B a m : Nat} {T Tk : List OM} {mx : Int} {rk : Int → Nat} {o : Int} {x0 : OM} {k : Nat} {c : Int} (h : RcP w wr B a m T Tk mx rk o x0 k) (hc : (kidsO (obT T) o)[k]? = some c) (hrc : rk o < rk c)
    (hpp : x0.o.parent = -1 ∨ hasO (obT Tk) x0.o.parent = true) (hT : Tab w2 B a m (updT Tk c (setP x0.o.parent)) mx) (hch : Chg (fun b => b ∈ blkT Tk) wr w2) : RcP w w2 B a m T (updT Tk c (setP x0.o.parent)) mx rk o x0 (k + 1) := by
  have hlt : (∀ x ∈ obT Tk, x.id ≠ x0.o.parent) ∨ rk x0.o.parent < rk c := h.par.imp id fun h1 => Nat.lt_trans h1 hrc
  have hne : c ≠ o := fun e => by rw [e] at hrc; exact Nat.lt_irrefl _ hrc
  refine ⟨h.stp.trans (Stp.under h.stp.tb (Below.refl _ _) hT hch hpp (h.fal.row hlt)), ?_, ?_, ?_, ?_, ?_⟩
  · rw [obT_upd, h.eq, foldl_snoc_take _ _ hc]
  · rw [findT_upd Tk c (setP x0.o.parent) (fun _ => rfl), h.at_]
    have := (findT_some h.at_).2
    have e : (x0.o.id == c) = false := by rw [this]; simpa using Ne.symm hne
    simp only [Option.map_some, e]
    rfl
  · rw [obT_upd]
    exact h.fal.setP hlt
  · rw [obT_upd]
    exact h.par.imp (fun h1 => ids_none h1 c (setP x0.o.parent) (fun _ => rfl)) id
  · rw [obT_upd, updO_ids _ _ (setP x0.o.parent) (fun _ => rfl), h.ids]
/-- What holds while what was within is put nowhere. -/
structure RcL (w wr : World) (B a m : Nat) (T T1 Tk : List OM) (mx : Int) (o : Int) (k : Nat) : Prop where
  stp : Stp w wr B a m T Tk mx mx
  eq : obT Tk = ((contO (obT T1) o).take k).foldl (fun l c => updO l c (setL (-1))) (obT T1)
  ids : idsO (obT Tk) = idsO (obT T)
theorem RcL.step {w wr : World} {B a m : Nat} {T T1 Tk : List OM} {mx : Int} {o : Int} {k : Nat} {c : Int} (h : RcL w wr B a m T T1 Tk mx o k) (hc : (contO (obT T1) o)[k]? = some c) {x : OM} (hx : findT Tk c = some x) :
    RcL w (wr.setCell ⟨x.g, 3, none⟩ (.int .i64 (-1))) B a m T T1 (updT Tk c (setL (-1))) mx o (k + 1) := by
  have hxm := (findT_some hx).1
  have ht := h.stp.tb
  refine ⟨h.stp.trans ⟨⟨ht.tab.store hx 3 (.int .i64 (-1)) (setL (-1)) (fun _ => rfl) rfl rfl rfl, ?_, ht.bare.upd c _⟩, Chg.set _ (List.mem_cons_of_mem _ (List.mem_cons_of_mem _ (blk_in hxm))) _, ?_⟩, ?_, ?_⟩
  · rw [obT_upd]
    exact ht.ok.move (.inl rfl) (by rw [row_none (by rw [getO_obT, ht.tab.neg]; rfl)]; simp)
  · intro b hb
    rw [blkT_upd] at hb
    exact .inl hb
  · rw [obT_upd, h.eq, foldl_snoc_take _ _ hc]
  · rw [obT_upd, updO_ids _ _ (setL (-1)) (fun _ => rfl), h.ids]
end Go.Proofs.YtnphgcbknfmapaaGreatDoor
namespace Go.Proofs.YtnphgcbknfmapaaGreatDoor
open Go.RowKit Go.Lib
set_option linter.unusedVariables false

end Go.Proofs.YtnphgcbknfmapaaGreatDoor
namespace Go.Proofs.YtnphgcbknfmapaaGreatDoor
open Go.RowKit Go.Lib
set_option linter.unusedVariables false

/-- The cells of an object without properties. -/
def bareCs (x : OB) : Array Value := #[.int .i64 x.id, .int .i64 x.parent, .int .i64 x.owner, .int .i64 x.place, .int .i64 x.flags, .int .i64 x.quota, .string x.name, .slice none 0 0, .slice none 0 0, .slice none 0 0]

theorem bare_one (x : OB) : (bareCs x).all (·.oneCell') = true := by simp [bareCs, Value.oneCell']
set_option maxRecDepth 100000 in
set_option maxHeartbeats 4000000 in
theorem object_c (x : OB) (w : World) : Calls Tryz.prog 43 #[.agg (bareCs x)] w fun e w' => e = .returned (.agg (bareCs x)) ∧ Below w.heap.size w w' := by
  obtain ⟨id, parent, owner, place, flags, quota, name, defs, slots⟩ := x
  unfold bareCs
  go_enter Tryz.func43, Tryz.ntmps43
  go_wp2_with fail
  refine (Tryz.slices_Clone_string_nil 0 0 _).mono ?_
  rintro e w1 ⟨rfl, rfl⟩
  go_wp2_with fail
  refine wp_loop_rounds 1 ?_
  rw [rounds_succ]
  go_wp2_with fail
  refine wp_loop_rounds 1 ?_
  rw [rounds_succ]
  go_wp2_with fail
  exact bodyPost_ret (results_cell_row (P := Tryz.prog) rfl _ _ (w.heap.size + 1) _ _ _ _ rfl (heap_alloc2_new _ _ _) Tryz.underlying29 rfl (by kernel_rfl)) rfl ⟨rfl, ((Below.refl _ _).alloc (Nat.le_refl _) _).alloc (by simp) _⟩

theorem results_row_tmp {P : Program} {fn : Func} {p u : Tmp} {ty : TypeId} (h : fn.results = #[.cell p ty, .tmp u]) (tmps : Array Value) (w : World) (g : Nat) (t : TypeId) (cs : Array Value) (fr : Nat × Nat) (d : TypeDesc)
    (hp : tmps.getD p undef = .pointer (some ⟨g, 0, none⟩)) (hg : w.heap[g]? = some (.cells cs t fr))
    (hu : P.underlying ty = some d) (hd : (match d with | .struct _ | .array _ _ => true | _ => false) = true) (hi : (P.info? ty).map (·.size) = some cs.size) :
    (results fn tmps).run P w = .ok (.tuple #[.agg cs, tmps.getD u undef]) w := by
  rw [results_cell_tmp h, hp]
  simp [asAddr, run_loadVar_row w g t ty cs fr d hg hu hd hi, Result.andThen]
/-- An object without properties in memory has such cells. -/
theorem bare_cells {T : List OM} (hb : BareM T) {x : OM} (hx : x ∈ T) : x.cells = bareCs x.o := by
  unfold OM.cells bareCs
  rw [(hb x hx).1, (hb x hx).2]
set_option maxRecDepth 100000 in
set_option maxHeartbeats 4000000 in
theorem get_c {w : World} {B a m : Nat} {T : List OM} {mx o : Int} (h : TB w B a m T mx) (ho : I64 o) {x : OM} (hx : findT T o = some x) :
    Calls Tryz.prog 13 #[.pointer (some ⟨a, 0, none⟩), .int .i64 o] w fun e w' => e = .returned (.tuple #[.agg (bareCs x.o), .bool true]) ∧ Below w.heap.size w w' := by
  have hxm := (findT_some hx).1
  have hb1 : Below w.heap.size w (w.alloc (.cells #[.int .i64 0, .int .i64 0, .int .i64 0, .int .i64 0, .int .i64 0, .int .i64 0, .string ⟨#[]⟩, .slice none 0 0, .slice none 0 0, .slice none 0 0] 29)) := (Below.refl _ _).alloc (Nat.le_refl _) _
  have HB1 := Lib.hid hb1
  have ht := h.tab.below hb1
  clear hb1
  have c0 := ht.c0
  have hl := ht.look ho
  rw [ptrT_some hx] at hl
  have hg := (ht.objs x hxm).blk
  rw [bare_cells h.bare hxm] at hg
  have CO := object_c x.o
  unfold bareCs at CO
  have CO := Lib.hid CO
  have HG := Lib.hid hg
  have hcl := fun j => (ht.objs x hxm).cell j
  rw [bare_cells h.bare hxm] at hcl
  have d0 := hcl 0
  have d1 := hcl 1
  have d2 := hcl 2
  have d3 := hcl 3
  have d4 := hcl 4
  have d5 := hcl 5
  have d6 := hcl 6
  have d7 := hcl 7
  have d8 := hcl 8
  have d9 := hcl 9
  unfold bareCs at d0 d1 d2 d3 d4 d5 d6 d7 d8 d9
  simp at d0 d1 d2 d3 d4 d5 d6 d7 d8 d9
  clear h hg hcl ht hx
  go_enter Tryz.func13, Tryz.ntmps13
  go_wp2_with fail
  refine CO.out _ |>.mono ?_
  rintro e w2 ⟨rfl, hb2⟩
  have hz2 : w2.heap[w.heap.size]? = some (.cells #[.int .i64 0, .int .i64 0, .int .i64 0, .int .i64 0, .int .i64 0, .int .i64 0, .string ⟨#[]⟩, .slice none 0 0, .slice none 0 0, .slice none 0 0] 29 (0, 0)) := (hb2.block _ (by simp)).trans (heap_alloc_new _ _)
  have HZ2 := Lib.hid hz2
  have HB2 := Lib.hid (HB1.out.trans (hb2.mono (by simp)))
  clear hb2 hz2 c0 hl d0 d1 d2 d3 d4 d5 d6 d7 d8 d9
  have hr := setRow_heap w2 w.heap.size _ (bareCs x.o) _ _ HZ2.out
  have HROW := Lib.hid hr
  have HBR := Lib.hid (below_setRow HB2.out (g := w.heap.size) (Nat.le_refl _) (bareCs x.o))
  clear hr
  go_wp2_with (refine wpList_store_row rfl 29 (.tmp 4) (.tmp 19) rfl w.heap.size #[.int .i64 x.o.id, .int .i64 x.o.parent, .int .i64 x.o.owner, .int .i64 x.o.place, .int .i64 x.o.flags, .int .i64 x.o.quota, .string x.o.name, .slice none 0 0, .slice none 0 0, .slice none 0 0] rfl rfl _ _ HZ2.out (by kernel_rfl) rfl (bare_one x.o) ?_)
  exact bodyPost_ret (results_row_tmp (P := Tryz.prog) rfl _ _ w.heap.size _ (bareCs x.o) _ _ rfl HROW.out Tryz.underlying29 rfl (by kernel_rfl)) rfl ⟨rfl, HBR.out⟩
end Go.Proofs.YtnphgcbknfmapaaGreatDoor
namespace Go.Proofs.YtnphgcbknfmapaaGreatDoor
open Go.RowKit Go.Lib
set_option linter.unusedVariables false

theorem Stp.below {w w' : World} {B a m : Nat} {T T' : List OM} {mx mx' : Int} (k : Stp w w' B a m T T' mx mx') (h : TB w B a m T mx) (hB : B ≤ w.heap.size) : Below B w w' := k.chg.below hB fun i hi => h.tab.base i hi
theorem oret_int {k : IntKind} {a b : Int} (h : a = b) : Ending.returned (.int k a) = .returned (.int k b) := by rw [h]
theorem otmod (n : Int) (b : Int) (hb : 0 < b) : (Int.tmod n b < 0 → n % b = Int.tmod n b + b) ∧ (¬ Int.tmod n b < 0 → n % b = Int.tmod n b) ∧ -b < Int.tmod n b ∧ Int.tmod n b < b := by
  have h0 : n % b = (Int.tmod n b) % b := by
    conv => lhs; rw [← Int.tmod_add_mul_tdiv n b]
    rw [Int.add_mul_emod_self_left]
  have ht1 : Int.tmod n b < b := Int.tmod_lt_of_pos n (by omega)
  have ht0 : -b < Int.tmod n b := by
    by_cases h : 0 ≤ n
    · have := Int.tmod_nonneg b h; omega
    · have h1 := Int.tmod_lt_of_pos (-n) hb
      rw [Int.neg_tmod] at h1; omega
  refine ⟨fun h => ?_, fun h => ?_, ht0, ht1⟩
  · rw [h0, ← Int.add_emod_right, Int.emod_eq_of_lt (by omega) (by omega)]
  · rw [h0, Int.emod_eq_of_lt (by omega) (by omega)]
theorem onumber_c (n b : Int) (w : World) (hn : I64 n) (h0 : 0 < b) (h1 : b ≤ 1000000) :
    Calls Tryz.prog 10 #[.int .i64 n, .int .i64 b] w fun e w' => e = .returned (.int .i64 (n % b)) ∧ w = w' := by
  obtain ⟨hn1, hn2⟩ := hn
  obtain ⟨he1, he2, ht0, ht1⟩ := otmod n b h0
  have hbz : (b == 0) = false := by simp; omega
  obtain ⟨r, hr⟩ : ∃ r, r = n % b := ⟨_, rfl⟩
  rw [← hr] at he1 he2 ⊢
  clear hr
  by_cases hneg : Int.tmod n b < 0
  · have hd : decide (Int.tmod n b < 0) = true := decide_eq_true hneg
    have HE := Lib.hid (he1 hneg)
    clear he1 he2
    go_enter Tryz.func10, Tryz.ntmps10
    go_wp2_with fail
    go_ret
    exact ⟨oret_int HE.out.symm, rfl⟩
  · have hd : decide (Int.tmod n b < 0) = false := decide_eq_false hneg
    have HE := Lib.hid (he2 hneg)
    clear he1 he2
    go_enter Tryz.func10, Tryz.ntmps10
    go_wp2_with fail
    go_ret
    exact ⟨oret_int HE.out.symm, rfl⟩
theorem tb_new {w w' : World} {B a m : Nat} (h : Tab w' B a m [] (-1)) : TB w' B a m [] (-1) := ⟨h, OkT.nil, fun x hx => by cases hx⟩

set_option maxRecDepth 100000 in
set_option maxHeartbeats 4000000 in
theorem ofirst_c (w : World) : Calls Tryz.prog 9 #[] w fun e w' => e = .returned (.bool true) ∧ Below w.heap.size w w' := by
  go_enter Tryz.func9, Tryz.ntmps9
  go_wp2_with fail
  refine (new_c w).mono ?_
  rintro e w1 ⟨rfl, ht1, hb1⟩
  have hb := tb_new (w := w) ht1
  have HT1 := Lib.hid hb
  have HB1 := Lib.hid hb1
  have CC := Lib.hid (create_yes (p := -1) hb ⟨by omega, by omega⟩ (.inl rfl) (by decide) (by omega))
  have hs1 := hb1.size
  clear ht1 hb1 hb
  go_wp2_with fail
  refine CC.out.mono ?_
  rintro e w2 ⟨rfl, hst⟩
  have HST := Lib.hid hst
  have HB2 := Lib.hid (HB1.out.trans (hst.below HT1.out hs1))
  have CG := Lib.hid (get_c hst.tb (o := 0) ⟨by omega, by omega⟩ (x := newM (-1) (-1) (-1) w1.heap.size) rfl)
  clear hst CC
  go_wp2_with fail
  refine CG.out.mono ?_
  rintro e w3 ⟨rfl, hb3⟩
  have HB3 := Lib.hid (HB2.out.trans (hb3.mono HB2.out.size))
  clear hb3 CG
  unfold bareCs newM newO
  go_wp2_with fail
  go_ret
  exact ⟨rfl, HB3.out.alloc HB3.out.size _⟩
/-- A row of numbers that was handed in. -/
def ArgI (W : World) (A : Option Addr) (l : List Int) : Prop := (∀ x ∈ l, I64 x) ∧ (l = [] ∨ ∃ b o, A = some ⟨b, o, none⟩ ∧ b < W.heap.size ∧ ∀ (j : Nat) (x : Int), l[j]? = some x → W.cell? ⟨b, o + j, none⟩ = some (.int .i64 x))
theorem ArgI.at_ {W w : World} {A : Option Addr} {l : List Int} (h : ArgI W A l) (hb : Below W.heap.size W w) {j : Nat} {x : Int} (hj : l[j]? = some x) : I64 x ∧ ∃ b o, A = some ⟨b, o, none⟩ ∧ w.cell? ⟨b, o + j, none⟩ = some (.int .i64 x) := by
  obtain ⟨h1, h2⟩ := h
  refine ⟨h1 x (List.mem_of_getElem? hj), ?_⟩
  rcases h2 with rfl | ⟨b, o, rfl, hlt, hc⟩
  · simp at hj
  · exact ⟨b, o, rfl, (hb.cell (p := ⟨b, o + j, none⟩) hlt).trans (hc j x hj)⟩
end Go.Proofs.YtnphgcbknfmapaaGreatDoor
namespace Go.Proofs.YtnphgcbknfmapaaGreatDoor
open Go.ChangeShapes Go.WideShapes Go.ChangeAt Go.RowKit Go.Lib
set_option linter.unusedVariables false

theorem olaid_out : laidOutB Tryz.prog = true := by kernel_rfl
theorem o_range {a : Int} (h : (Lit.int .i64 a).wf = true) : -9223372036854775808 ≤ a ∧ a ≤ 9223372036854775807 := by
  have e1 : IntKind.i64.min = -9223372036854775808 := by decide
  have e2 : IntKind.i64.max = 9223372036854775807 := by decide
  have h' : (decide (IntKind.i64.min ≤ a) && decide (a ≤ IntKind.i64.max)) = true := h
  rw [e1, e2, Bool.and_eq_true, decide_eq_true_eq, decide_eq_true_eq] at h'
  exact h'
theorem o_i64 {a : Int} (h : (Lit.int .i64 a).wf = true) : I64 a := o_range h
set_option maxRecDepth 100000 in
theorem ocells_slice {W : World} {r : Reach} {b0 : Nat} {t e : TypeId} {v : Value} (ht : Tryz.prog.underlying t = some (.slice e)) (h : Value.okWide Tryz.prog W r b0 t v) : v.cells.toList = [v] := by
  obtain ⟨a, len, cap, rfl⟩ := okWide_slice ht h
  rfl
theorem ocells_int : Tryz.prog.cellsOf 3 = 1 := by kernel_rfl
section
variable {H : Type} {enc : TypeId × Value → H} {W : World} {sp : Nat → Bool} {held : Bool}
/-- A row of numbers, handed in. -/
theorem open_intsO {v : Value} {d : DataW H} {p : List MemPlace} (hv : v.cells.toList = [v]) (h : DataW.Trod enc Tryz.prog W 0 sp held 22 v d p) :
    ∃ (l : List Int) (A : Option Addr) (c : Nat), v = .slice A l.length c ∧ l.length ≤ 9223372036854775807 ∧ ArgI W A l := by
  have hmax : maxLen ≤ 9223372036854775807 := by decide
  obtain ⟨fuel, hf⟩ := h
  rw [hv] at hf
  rcases open_ints Tryz.underlying22 Tryz.underlying3 ocells_int hf with ⟨hcs, _⟩ | ⟨a, len, cap, zs, hcs, _, hlc, hcm, hsl, _, hcell, hwf⟩
  · injection hcs with hcs _
    exact ⟨[], none, 0, hcs, by decide, (fun x hx => by cases hx), .inl rfl⟩
  · injection hcs with hcs _
    have hle : len ≤ zs.length := by rw [hsl]; split <;> omega
    have hll : (zs.take len).length = len := by rw [List.length_take]; omega
    refine ⟨zs.take len, some a, cap, by rw [hll]; exact hcs, by omega, fun x hx => o_i64 (hwf x (List.mem_of_mem_take hx)), ?_⟩
    by_cases h0 : len = 0
    · left; rw [h0]; rfl
    obtain ⟨b, o, spot⟩ := a
    have hc0 := hcell 0 (by omega)
    have hspot : spot = none := by simpa [Addr.add] using World.cell?_spot hc0
    subst hspot
    have hb : b < W.heap.size := by
      have h1 : (⟨b, o, none⟩ : Addr).add 0 = ⟨b, o, none⟩ := by unfold Addr.add; rfl
      rw [h1] at hc0
      unfold World.cell? at hc0
      rcases Nat.lt_or_ge b W.heap.size with hlt | hge
      · exact hlt
      · simp only [Array.getElem?_eq_none hge] at hc0; cases hc0
    refine .inr ⟨b, o, rfl, hb, fun j x hj => ?_⟩
    have hjl : j < len := by
      rcases Nat.lt_or_ge j len with hlt | hge
      · exact hlt
      · rw [List.getElem?_eq_none (by rw [hll]; exact hge)] at hj; cases hj
    have hg := hcell j (by omega)
    have e : (⟨b, o, none⟩ : Addr).add j = ⟨b, o + j, none⟩ := by unfold Addr.add; split <;> simp_all
    rw [e] at hg
    rw [hg]
    rw [List.getElem?_take_of_lt hjl] at hj
    rw [List.getD_eq_getElem?_getD, hj]
    rfl
end
end Go.Proofs.YtnphgcbknfmapaaGreatDoor
