/- Contracts of the functions that the statement reaches, and the plain mathematics beneath: several texts joined. -/
import Derived.StillTailTactics
import Derived.Laws.Tables
import Derived.Laws.CopyOwn
import Derived.Laws.ResultCell
import Derived.Test.YtnphgcbknfmapaaGreatDoorRows
import Derived.SizedLaws
import Derived.OpenShut
import Derived.ShutString
import Derived.ChangeSlices
import Derived.Carry
import Derived.JoinedOf
import Derived.Test.YtnphgcbknfmapaaGreatDoorWquAC
namespace Go.Proofs.YtnphgcbknfmapaaGreatDoor
open Go.RowKit Go.Lib
set_option linter.unusedVariables false

/-- An object that is new, without properties, where it lies. -/
def newM (mx p ow : Int) (g : Nat) : OM := ⟨newO mx p ow [], g, .slice none 0 0, .slice none 0 0⟩
theorem Tab.grow {w w' : World} {B a m : Nat} {T : List OM} {mx p ow : Int} (h : Tab w B a m T mx) (g : Nat) (hg : w.heap.size ≤ g)
    (htab : w'.heap[a]? = some (.cells #[.map (some m), .int .i64 (mx + 1)] 84 (0, 0)))
    (hmap : w'.ownsMap Tryz.prog 3 ptrR m (T.length + 1) ((DataW.map (datT T)).put (.int .i64 (mx + 1)) (.lit (.int .i64 (g : Int)))))
    (hnew : w'.heap[g]? = some (.cells (newM mx p ow g).cells 29 (0, 0)))
    (hold : ∀ b ∈ blkT T, w'.heap[b]? = w.heap[b]?) (hf : T.length < 512) (hm : mx + 1 < 1073741824) : Tab w' B a m (T ++ [newM mx p ow g]) (mx + 1) := by
  have hlt := h.lt
  have hB := h.base a (List.mem_cons_self ..)
  have hla := hlt a (List.mem_cons_self ..)
  have hmx := h.mxr
  have hid : (newM mx p ow g).o.id = mx + 1 := rfl
  have hbk : blkT (T ++ [newM mx p ow g]) = blkT T ++ [g] := by simp [blkT, OM.blocks, newM, Value.ownBlock]
  have hlast : ∀ y ∈ T, y.o.id < (newM mx p ow g).o.id := fun y hy => by have := h.rng y hy; rw [hid]; omega
  refine ⟨htab, ?_, ?_, ?_, ?_, ?_, by simp; omega, by omega, ?_⟩
  · have e := datT_put T (newM mx p ow g) hlast
    rw [hid] at e
    rw [show (T ++ [newM mx p ow g]).length = T.length + 1 from by simp, ← e]
    exact hmap
  · intro x hx
    rcases List.mem_append.1 hx with hx | hx
    · exact (h.objs x hx).keep fun b hb => hold b (List.mem_flatMap.2 ⟨x, hx, hb⟩)
    · rw [List.mem_singleton] at hx
      subst hx
      exact ⟨hnew, World.ownsRow_nil _ _ _ _, World.ownsRow_nil _ _ _ _⟩
  · rw [hbk]
    have hs := h.sep
    rw [show a :: m :: (blkT T ++ [g]) = (a :: m :: blkT T) ++ [g] from rfl, List.nodup_append]
    refine ⟨hs, by simp, ?_⟩
    intro x hx y hy e
    rw [List.mem_singleton] at hy
    have := hlt x hx
    omega
  · rw [hbk]
    intro b hb
    rw [show a :: m :: (blkT T ++ [g]) = (a :: m :: blkT T) ++ [g] from rfl] at hb
    rcases List.mem_append.1 hb with hb | hb
    · exact h.base b hb
    · rw [List.mem_singleton] at hb
      omega
  · unfold SortO obT
    rw [List.map_append, List.pairwise_append]
    refine ⟨h.sort, by simp, ?_⟩
    intro x hx y hy
    obtain ⟨z, hz, rfl⟩ := List.mem_map.1 hx
    simp only [List.map_cons, List.map_nil, List.mem_singleton] at hy
    subst hy
    exact hlast z hz
  · intro x hx
    rcases List.mem_append.1 hx with hx | hx
    · have := h.rng x hx; omega
    · rw [List.mem_singleton] at hx
      subst hx
      rw [hid]
      omega
end Go.Proofs.YtnphgcbknfmapaaGreatDoor
namespace Go.Proofs.YtnphgcbknfmapaaGreatDoor
open Go.RowKit Go.Lib
set_option linter.unusedVariables false

def Falls (rk : Int → Nat) (l : List OB) : Prop := ∀ x ∈ l, ∀ y ∈ l, x.parent = y.id → rk y.id < rk x.id
theorem Falls.setP {rk : Int → Nat} {l : List OB} (h : Falls rk l) {c p : Int} (hp : (∀ x ∈ l, x.id ≠ p) ∨ rk p < rk c) : Falls rk (updO l c (setP p)) := by
  intro x hx y hy e
  obtain ⟨u, hu, hux⟩ := mem_updO hx
  obtain ⟨v, hv, hvy⟩ := mem_updO hy
  have hvid : y.id = v.id := by rcases hvy with ⟨_, rfl⟩ | ⟨_, rfl⟩ <;> rfl
  rw [hvid] at e ⊢
  rcases hux with ⟨huc, rfl⟩ | ⟨huc, rfl⟩
  · have e' : p = v.id := e
    show rk v.id < rk u.id
    rcases hp with hp | hp
    · exact absurd e'.symm (hp v hv)
    · rw [← e', huc]; exact hp
  · exact h x hu v hv e
theorem Falls.row {rk : Int → Nat} {l : List OB} (h : Falls rk l) {c p : Int} (hp : (∀ x ∈ l, x.id ≠ p) ∨ rk p < rk c) : c ∉ rowO l OB.parent p := by
  rcases hp with hp | hp
  · rw [row_none (getO_none.2 hp)]
    simp
  · intro hc
    have := ((run_falls h (l.length + 1) p).2 c hc).1
    omega
theorem ids_none {l : List OB} {p : Int} (h : ∀ x ∈ l, x.id ≠ p) (c : Int) (f : OB → OB) (hf : ∀ x, (f x).id = x.id) : ∀ x ∈ updO l c f, x.id ≠ p := by
  intro x hx
  obtain ⟨u, hu, ⟨_, rfl⟩ | ⟨_, rfl⟩⟩ := mem_updO hx
  · rw [hf]; exact h u hu
  · exact h x hu
theorem foldl_snoc_take {α : Type} (g : α → Int → α) (a : α) {r : List Int} {k : Nat} {x : Int} (h : r[k]? = some x) : (r.take (k + 1)).foldl g a = g ((r.take k).foldl g a) x := by
  rw [List.take_add_one, h]
  simp

theorem blkT_filter {T : List OM} (q : OM → Bool) : (blkT (T.filter q)).Sublist (blkT T) := by
  unfold blkT
  induction T with
  | nil => simp
  | cons x r ih =>
    rw [List.filter_cons, List.flatMap_cons]
    cases q x with
    | true => simp only [if_true, List.flatMap_cons]; exact (List.Sublist.refl _).append ih
    | false => exact ih.trans (List.sublist_append_right _ _)
theorem Tab.drop {w w' : World} {B a m n : Nat} {T : List OM} {mx : Int} (h : Tab w B a m T mx) (o : Int) (hmap : w'.ownsMap Tryz.prog 3 ptrR m n ((DataW.map (datT T)).del (.int .i64 o))) (hold : ∀ b, b < w.heap.size → b ≠ m → w'.heap[b]? = w.heap[b]?) : Tab w' B a m (T.filter fun x => !(x.o.id == o)) mx := by
  have hs := h.sep
  have hlt := h.lt
  have hs' := hs
  rw [List.nodup_cons, List.nodup_cons] at hs'
  have hsub := blkT_filter (T := T) (fun x => !(x.o.id == o))
  have hmem : ∀ b ∈ a :: m :: blkT (T.filter fun x => !(x.o.id == o)), b ∈ a :: m :: blkT T := fun b hb => by
    rcases List.mem_cons.1 hb with rfl | hb
    · exact List.mem_cons_self ..
    rcases List.mem_cons.1 hb with rfl | hb
    · exact List.mem_cons_of_mem _ (List.mem_cons_self ..)
    exact List.mem_cons_of_mem _ (List.mem_cons_of_mem _ (hsub.subset hb))
  refine ⟨?_, ?_, ?_, ?_, fun b hb => h.base b (hmem b hb), ?_, Nat.le_trans (List.length_filter_le _ _) h.few, h.mxr, fun x hx => h.rng x (List.mem_filter.1 hx).1⟩
  · rw [hold a (hlt a (List.mem_cons_self ..)) (fun e => hs'.1 (by rw [e]; exact List.mem_cons_self ..))]
    exact h.tab
  · rw [datT_del] at hmap
    have := ownsMap_size hmap
    rw [datT_size] at this
    exact this
  · intro x hx
    have hxm := (List.mem_filter.1 hx).1
    refine (h.objs x hxm).keep fun b hb => ?_
    have hbm : b ∈ blkT T := List.mem_flatMap.2 ⟨x, hxm, hb⟩
    exact hold b (hlt b (List.mem_cons_of_mem _ (List.mem_cons_of_mem _ hbm))) (fun e => hs'.2.1 (by rw [← e]; exact hbm))
  · exact List.Nodup.sublist ((List.Sublist.refl [a, m]).append hsub) hs
  · unfold SortO obT
    exact List.Pairwise.sublist ((List.filter_sublist).map OM.o) h.sort
theorem obT_drop (T : List OM) (o : Int) : obT (T.filter fun x => !(x.o.id == o)) = delO (obT T) o := by
  unfold obT delO
  rw [List.filter_map]
  rfl
end Go.Proofs.YtnphgcbknfmapaaGreatDoor
namespace Go.Proofs.YtnphgcbknfmapaaGreatDoor
open Go.RowKit Go.Lib
set_option linter.unusedVariables false

/-- What holds while the children are given another parent. -/
structure RcP (w wr : World) (B a m : Nat) (T Tk : List OM) (mx : Int) (rk : Int → Nat) (o : Int) (x0 : OM) (k : Nat) : Prop where
  stp : Stp w wr B a m T Tk mx mx
  eq : obT Tk = ((kidsO (obT T) o).take k).foldl (fun l c => updO l c (setP x0.o.parent)) (obT T)
  at_ : findT Tk o = some x0
  fal : Falls rk (obT Tk)
  par : (∀ x ∈ obT Tk, x.id ≠ x0.o.parent) ∨ rk x0.o.parent < rk o
  ids : idsO (obT Tk) = idsO (obT T)
theorem RcP.step {w wr w2 : World} {B a m : Nat} {T Tk : List OM} {mx : Int} {rk : Int → Nat} {o : Int} {x0 : OM} {k : Nat} {c : Int} (h : RcP w wr B a m T Tk mx rk o x0 k) (hc : (kidsO (obT T) o)[k]? = some c) (hrc : rk o < rk c)
    (hpp : x0.o.parent = -1 ∨ hasO (obT Tk) x0.o.parent = true) (hT : Tab w2 B a m (updT Tk c (setP x0.o.parent)) mx) (hch : Chg (fun b => b ∈ blkT Tk) wr w2) : RcP w w2 B a m T (updT Tk c (setP x0.o.parent)) mx rk o x0 (k + 1) := by
  have hlt : (∀ x ∈ obT Tk, x.id ≠ x0.o.parent) ∨ rk x0.o.parent < rk c := h.par.imp id fun h1 => Nat.lt_trans h1 hrc
  have hne : c ≠ o := fun e => by rw [e] at hrc; exact Nat.lt_irrefl _ hrc
  refine ⟨h.stp.trans (Stp.under h.stp.tb (Below.refl _ _) hT hch hpp (h.fal.row hlt)), ?_, ?_, ?_, ?_, ?_⟩
  · rw [obT_upd, h.eq, foldl_snoc_take _ _ hc]
  · rw [findT_upd Tk c (setP x0.o.parent) (fun _ => rfl), h.at_]
    have := (findT_some h.at_).2
    have e : (x0.o.id == c) = false := by rw [this]; simpa using Ne.symm hne
    simp only [Option.map_some, e]
    rfl
  · rw [obT_upd]
    exact h.fal.setP hlt
  · rw [obT_upd]
    exact h.par.imp (fun h1 => ids_none h1 c (setP x0.o.parent) (fun _ => rfl)) id
  · rw [obT_upd, updO_ids _ _ (setP x0.o.parent) (fun _ => rfl), h.ids]
/-- What holds while what was within is put nowhere. -/
structure RcL (w wr : World) (B a m : Nat) (T T1 Tk : List OM) (mx : Int) (o : Int) (k : Nat) : Prop where
  stp : Stp w wr B a m T Tk mx mx
  eq : obT Tk = ((contO (obT T1) o).take k).foldl (fun l c => updO l c (setL (-1))) (obT T1)
  ids : idsO (obT Tk) = idsO (obT T)
theorem RcL.step {w wr : World} {B a m : Nat} {T T1 Tk : List OM} {mx : Int} {o : Int} {k : Nat} {c : Int} (h : RcL w wr B a m T T1 Tk mx o k) (hc : (contO (obT T1) o)[k]? = some c) {x : OM} (hx : findT Tk c = some x) :
    RcL w (wr.setCell ⟨x.g, 3, none⟩ (.int .i64 (-1))) B a m T T1 (updT Tk c (setL (-1))) mx o (k + 1) := by
  have hxm := (findT_some hx).1
  have ht := h.stp.tb
  refine ⟨h.stp.trans ⟨⟨ht.tab.store hx 3 (.int .i64 (-1)) (setL (-1)) (fun _ => rfl) rfl rfl rfl, ?_, ht.bare.upd c _⟩, Chg.set _ (List.mem_cons_of_mem _ (List.mem_cons_of_mem _ (blk_in hxm))) _, ?_⟩, ?_, ?_⟩
  · rw [obT_upd]
    exact ht.ok.move (.inl rfl) (by rw [row_none (by rw [getO_obT, ht.tab.neg]; rfl)]; simp)
  · intro b hb
    rw [blkT_upd] at hb
    exact .inl hb
  · rw [obT_upd, h.eq, foldl_snoc_take _ _ hc]
  · rw [obT_upd, updO_ids _ _ (setL (-1)) (fun _ => rfl), h.ids]
end Go.Proofs.YtnphgcbknfmapaaGreatDoor
namespace Go.Proofs.YtnphgcbknfmapaaGreatDoor
open Go.RowKit Go.Lib
set_option linter.unusedVariables false

end Go.Proofs.YtnphgcbknfmapaaGreatDoor
namespace Go.Proofs.YtnphgcbknfmapaaGreatDoor
open Go.RowKit Go.Lib
set_option linter.unusedVariables false

end Go.Proofs.YtnphgcbknfmapaaGreatDoor
namespace Go.Proofs.YtnphgcbknfmapaaGreatDoor
open Go.RowKit Go.Lib
set_option linter.unusedVariables false

theorem Stp.below {w w' : World} {B a m : Nat} {T T' : List OM} {mx mx' : Int} (k : Stp w w' B a m T T' mx mx') (h : TB w B a m T mx) (hB : B ≤ w.heap.size) : Below B w w' := k.chg.below hB fun i hi => h.tab.base i hi
/-- A row of numbers that was handed in. -/
def ArgI (W : World) (A : Option Addr) (l : List Int) : Prop := (∀ x ∈ l, I64 x) ∧ (l = [] ∨ ∃ b o, A = some ⟨b, o, none⟩ ∧ b < W.heap.size ∧ ∀ (j : Nat) (x : Int), l[j]? = some x → W.cell? ⟨b, o + j, none⟩ = some (.int .i64 x))
theorem ArgI.at_ {W w : World} {A : Option Addr} {l : List Int} (h : ArgI W A l) (hb : Below W.heap.size W w) {j : Nat} {x : Int} (hj : l[j]? = some x) : I64 x ∧ ∃ b o, A = some ⟨b, o, none⟩ ∧ w.cell? ⟨b, o + j, none⟩ = some (.int .i64 x) := by
  obtain ⟨h1, h2⟩ := h
  refine ⟨h1 x (List.mem_of_getElem? hj), ?_⟩
  rcases h2 with rfl | ⟨b, o, rfl, hlt, hc⟩
  · simp at hj
  · exact ⟨b, o, rfl, (hb.cell (p := ⟨b, o + j, none⟩) hlt).trans (hc j x hj)⟩
end Go.Proofs.YtnphgcbknfmapaaGreatDoor
namespace Go.Proofs.YtnphgcbknfmapaaGreatDoor
open Go.ChangeShapes Go.WideShapes Go.ChangeAt Go.RowKit Go.Lib
set_option linter.unusedVariables false

theorem olaid_out : laidOutB Tryz.prog = true := by kernel_rfl
set_option maxRecDepth 100000 in
theorem ocells_slice {W : World} {r : Reach} {b0 : Nat} {t e : TypeId} {v : Value} (ht : Tryz.prog.underlying t = some (.slice e)) (h : Value.okWide Tryz.prog W r b0 t v) : v.cells.toList = [v] := by
  obtain ⟨a, len, cap, rfl⟩ := okWide_slice ht h
  rfl
section
variable {H : Type} {enc : TypeId × Value → H} {W : World} {sp : Nat → Bool} {held : Bool}
end
end Go.Proofs.YtnphgcbknfmapaaGreatDoor
