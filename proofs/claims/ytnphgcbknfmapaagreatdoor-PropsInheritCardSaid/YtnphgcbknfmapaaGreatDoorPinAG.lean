/- Contracts of the functions that the statement reaches, and the plain mathematics beneath: several texts joined. -/
import Derived.Lib.SliceRun
import Derived.Laws.Tables
import Derived.Laws.CopyOwn
import Derived.Laws.ResultCell
import Derived.Test.YtnphgcbknfmapaaGreatDoorRows
import Derived.SizedLaws
import Derived.OpenShut
import Derived.ShutString
import Derived.ChangeSlices
import Derived.Carry
import Derived.JoinedOf
import Derived.Test.YtnphgcbknfmapaaGreatDoorPinAE
namespace Go.Proofs.YtnphgcbknfmapaaGreatDoor
open Go.RowKit Go.Lib
set_option linter.unusedVariables false
set_option linter.unusedSimpArgs false

theorem zeroCells_1 (cs : List Value) (hk : 0 < cs.length) : (Builtin.zeroCells cs.toArray 1).toList = cs := by
  unfold Builtin.zeroCells
  apply List.ext_getElem
  · simp
  · intro i h1 h2
    simp [Nat.mod_eq_of_lt h2]
    rw [List.getElem?_eq_getElem h2]
    rfl
/-- 'clear' of a row of one. -/
theorem run_clear_one {P : Program} (w : World) (t e ty : TypeId) (z : Value) (cs : List Value) (ht : P.underlying t = some (.slice e)) (hv : ∀ w, (zeroValue e).run P w = .ok z w) (hz : z.cells = cs.toArray) (hk : 0 < cs.length) (h1 : ∀ v ∈ cs, v.oneCell' = true) (b c : Nat) (hth : w.there b 0 cs.length) :
    (Builtin.clear_ #[t] ty #[.slice (some ⟨b, 0, none⟩) 1 c]).run P w = .ok (.tuple #[]) (w.setCells b 0 cs) := by
  have hst := run_storeCells_cells (P := P) b 0 cs 0 w (fun j hj => (hth j hj).1) (fun j hj => (hth j hj).2) h1
  simp only [Nat.add_zero] at hst
  simp [Builtin.clear_, run_underlying ht, hv, hz, zeroCells_1 cs hk, hst]
theorem del1_c (n : ByteArray) (C : Nat) (w : World) (hC : w.cell? ⟨C, 0, none⟩ = some (.string n)) :
    Calls Tryz.prog 70 #[.string n, .pointer (some ⟨C, 0, none⟩)] w fun e w' => e = .returned (.bool true) ∧ w = w' := by
  go_enter Tryz.func70, Tryz.ntmps70
  go_wp2_with fail
  go_ret
  exact ⟨rfl, rfl⟩
set_option maxHeartbeats 1000000 in
theorem idx1_c (n : ByteArray) (b c C : Nat) (w : World) (hb : w.cell? ⟨b, 0, none⟩ = some (.string n)) (hC : w.cell? ⟨C, 0, none⟩ = some (.string n)) :
    Calls Tryz.prog 95 #[.slice (some ⟨b, 0, none⟩) 1 c, .func (.func 70) #[] #[.pointer (some ⟨C, 0, none⟩)]] w fun e w' => e = .returned (.int .i64 0) ∧ w = w' := by
  have eg : ∀ args w, (callFunc 70 args).run Tryz.prog w = .ok (.enter 70 args) w := enters_of Tryz.func70 (by kernel_rfl) rfl
  have CD := Lib.hid (del1_c n C w hC)
  clear hC
  go_enter Tryz.func95, Tryz.ntmps95
  go_wp2_with fail
  refine wp_loop_rounds 1 ?_
  rw [rounds_succ]
  go_wp2_with fail
  refine CD.out.mono ?_
  rintro e w1 ⟨rfl, rfl⟩
  go_wp2_with fail
  go_ret
  exact ⟨rfl, rfl⟩
set_option maxHeartbeats 1000000 in
theorem delf1_c (n : ByteArray) (b c C : Nat) (w : World) (hc1 : 1 ≤ c) (hcm : c ≤ 9223372036854775807) (hb : w.cell? ⟨b, 0, none⟩ = some (.string n)) (hf : w.frozen? ⟨b, 0, none⟩ = false) (hC : w.cell? ⟨C, 0, none⟩ = some (.string n)) :
    Calls Tryz.prog 69 #[.slice (some ⟨b, 0, none⟩) 1 c, .func (.func 70) #[] #[.pointer (some ⟨C, 0, none⟩)]] w fun e w' => e = .returned (.slice (some ⟨b, 0, none⟩) 0 c) ∧ w' = w.setCells b 0 [.string ⟨#[]⟩] := by
  have CI := Lib.hid (idx1_c n b c C w hb hC)
  have hcl : ∀ ty, (Builtin.clear_ #[25] ty #[.slice (some ⟨b, 0, none⟩) 1 c]).run Tryz.prog w = .ok (.tuple #[]) (w.setCells b 0 [.string ⟨#[]⟩]) := fun ty => run_clear_one w _ 9 ty (.string ⟨#[]⟩) [.string ⟨#[]⟩] Tryz.underlying25 (fun w => by kernel_rfl) rfl (by simp) (by intro v hv; simp at hv; subst hv; rfl) b c (by
    intro j hj
    obtain rfl : j = 0 := by simpa using hj
    exact ⟨by rw [Nat.add_zero, hb]; rfl, hf⟩)
  clear hb hf hC
  go_enter Tryz.func69, Tryz.ntmps69
  go_wp2_with fail
  refine CI.out.mono ?_
  rintro e w1 ⟨rfl, rfl⟩
  go_wp2_with fail
  refine wp_loop_rounds 1 ?_
  rw [rounds_succ]
  go_wp2_with fail
  go_ret
  exact ⟨rfl, rfl⟩
end Go.Proofs.YtnphgcbknfmapaaGreatDoor
namespace Go.Proofs.YtnphgcbknfmapaaGreatDoor
open Go.RowKit Go.Lib
set_option linter.unusedVariables false

def Falls (rk : Int → Nat) (l : List OB) : Prop := ∀ x ∈ l, ∀ y ∈ l, x.parent = y.id → rk y.id < rk x.id
theorem Falls.setP {rk : Int → Nat} {l : List OB} (h : Falls rk l) {c p : Int} (hp : (∀ x ∈ l, x.id ≠ p) ∨ rk p < rk c) : Falls rk (updO l c (setP p)) := by
  intro x hx y hy e
  obtain ⟨u, hu, hux⟩ := mem_updO hx
  obtain ⟨v, hv, hvy⟩ := mem_updO hy
  have hvid : y.id = v.id := by rcases hvy with ⟨_, rfl⟩ | ⟨_, rfl⟩ <;> rfl
  rw [hvid] at e ⊢
  rcases hux with ⟨huc, rfl⟩ | ⟨huc, rfl⟩
  · have e' : p = v.id := e
    show rk v.id < rk u.id
    rcases hp with hp | hp
    · exact absurd e'.symm (hp v hv)
    · rw [← e', huc]; exact hp
  · exact h x hu v hv e
theorem Falls.row {rk : Int → Nat} {l : List OB} (h : Falls rk l) {c p : Int} (hp : (∀ x ∈ l, x.id ≠ p) ∨ rk p < rk c) : c ∉ rowO l OB.parent p := by
  rcases hp with hp | hp
  · rw [row_none (getO_none.2 hp)]
    simp
  · intro hc
    have := ((run_falls h (l.length + 1) p).2 c hc).1
    omega
theorem ids_none {l : List OB} {p : Int} (h : ∀ x ∈ l, x.id ≠ p) (c : Int) (f : OB → OB) (hf : ∀ x, (f x).id = x.id) : ∀ x ∈ updO l c f, x.id ≠ p := by
  intro x hx
  obtain ⟨u, hu, ⟨_, rfl⟩ | ⟨_, rfl⟩⟩ := mem_updO hx
  · rw [hf]; exact h u hu
  · exact h x hu
theorem foldl_snoc_take {α : Type} (g : α → Int → α) (a : α) {r : List Int} {k : Nat} {x : Int} (h : r[k]? = some x) : (r.take (k + 1)).foldl g a = g ((r.take k).foldl g a) x := by
  rw [List.take_add_one, h]
  simp

theorem blkT_filter {T : List OM} (q : OM → Bool) : (blkT (T.filter q)).Sublist (blkT T) := by
  unfold blkT
  induction T with
  | nil => simp
  | cons x r ih =>
    rw [List.filter_cons, List.flatMap_cons]
    cases q x with
    | true => simp only [if_true, List.flatMap_cons]; exact (List.Sublist.refl _).append ih
    | false => exact ih.trans (List.sublist_append_right _ _)
theorem Tab.drop {w w' : World} {B a m n : Nat} {T : List OM} {mx : Int} (h : Tab w B a m T mx) (o : Int) (hmap : w'.ownsMap Tryz.prog 3 ptrR m n ((DataW.map (datT T)).del (.int .i64 o))) (hold : ∀ b, b < w.heap.size → b ≠ m → w'.heap[b]? = w.heap[b]?) : Tab w' B a m (T.filter fun x => !(x.o.id == o)) mx := by
  have hs := h.sep
  have hlt := h.lt
  have hs' := hs
  rw [List.nodup_cons, List.nodup_cons] at hs'
  have hsub := blkT_filter (T := T) (fun x => !(x.o.id == o))
  have hmem : ∀ b ∈ a :: m :: blkT (T.filter fun x => !(x.o.id == o)), b ∈ a :: m :: blkT T := fun b hb => by
    rcases List.mem_cons.1 hb with rfl | hb
    · exact List.mem_cons_self ..
    rcases List.mem_cons.1 hb with rfl | hb
    · exact List.mem_cons_of_mem _ (List.mem_cons_self ..)
    exact List.mem_cons_of_mem _ (List.mem_cons_of_mem _ (hsub.subset hb))
  refine ⟨?_, ?_, ?_, ?_, fun b hb => h.base b (hmem b hb), ?_, Nat.le_trans (List.length_filter_le _ _) h.few, h.mxr, fun x hx => h.rng x (List.mem_filter.1 hx).1⟩
  · rw [hold a (hlt a (List.mem_cons_self ..)) (fun e => hs'.1 (by rw [e]; exact List.mem_cons_self ..))]
    exact h.tab
  · rw [datT_del] at hmap
    have := ownsMap_size hmap
    rw [datT_size] at this
    exact this
  · intro x hx
    have hxm := (List.mem_filter.1 hx).1
    refine (h.objs x hxm).keep fun b hb => ?_
    have hbm : b ∈ blkT T := List.mem_flatMap.2 ⟨x, hxm, hb⟩
    exact hold b (hlt b (List.mem_cons_of_mem _ (List.mem_cons_of_mem _ hbm))) (fun e => hs'.2.1 (by rw [← e]; exact hbm))
  · exact List.Nodup.sublist ((List.Sublist.refl [a, m]).append hsub) hs
  · unfold SortO obT
    exact List.Pairwise.sublist ((List.filter_sublist).map OM.o) h.sort
end Go.Proofs.YtnphgcbknfmapaaGreatDoor
namespace Go.Proofs.YtnphgcbknfmapaaGreatDoor
open Go.RowKit Go.Lib
set_option linter.unusedVariables false

/-- What holds while the children are given another parent. -/
structure RcP (w wr : World) (B a m : Nat) (T Tk : List OM) (mx : Int) (rk : Int → Nat) (o : Int) (x0 : OM) (k : Nat) : Prop where
  stp : Stp w wr B a m T Tk mx mx
  eq : obT Tk = ((kidsO (obT T) o).take k).foldl (fun l c => updO l c (setP x0.o.parent)) (obT T)
  at_ : findT Tk o = some x0
  fal : Falls rk (obT Tk)
  par : (∀ x ∈ obT Tk, x.id ≠ x0.o.parent) ∨ rk x0.o.parent < rk o
  ids : idsO (obT Tk) = idsO (obT T)
theorem RcP.step {w wr w2 : World} {B a m : Nat} {T Tk : List OM} {mx : Int} {rk : Int → Nat} {o : Int} {x0 : OM} {k : Nat} {c : Int} (h : RcP w wr B a m T Tk mx rk o x0 k) (hc : (kidsO (obT T) o)[k]? = some c) (hrc : rk o < rk c)
    (hpp : x0.o.parent = -1 ∨ hasO (obT Tk) x0.o.parent = true) (hT : Tab w2 B a m (updT Tk c (setP x0.o.parent)) mx) (hch : Chg (fun b => b ∈ blkT Tk) wr w2) : RcP w w2 B a m T (updT Tk c (setP x0.o.parent)) mx rk o x0 (k + 1) := by
  have hlt : (∀ x ∈ obT Tk, x.id ≠ x0.o.parent) ∨ rk x0.o.parent < rk c := h.par.imp id fun h1 => Nat.lt_trans h1 hrc
  have hne : c ≠ o := fun e => by rw [e] at hrc; exact Nat.lt_irrefl _ hrc
  refine ⟨h.stp.trans (Stp.under h.stp.tb (Below.refl _ _) hT hch hpp (h.fal.row hlt)), ?_, ?_, ?_, ?_, ?_⟩
  · rw [obT_upd, h.eq, foldl_snoc_take _ _ hc]
  · rw [findT_upd Tk c (setP x0.o.parent) (fun _ => rfl), h.at_]
    have := (findT_some h.at_).2
    have e : (x0.o.id == c) = false := by rw [this]; simpa using Ne.symm hne
    simp only [Option.map_some, e]
    rfl
  · rw [obT_upd]
    exact h.fal.setP hlt
  · rw [obT_upd]
    exact h.par.imp (fun h1 => ids_none h1 c (setP x0.o.parent) (fun _ => rfl)) id
  · rw [obT_upd, updO_ids _ _ (setP x0.o.parent) (fun _ => rfl), h.ids]
/-- What holds while what was within is put nowhere. -/
structure RcL (w wr : World) (B a m : Nat) (T T1 Tk : List OM) (mx : Int) (o : Int) (k : Nat) : Prop where
  stp : Stp w wr B a m T Tk mx mx
  eq : obT Tk = ((contO (obT T1) o).take k).foldl (fun l c => updO l c (setL (-1))) (obT T1)
  ids : idsO (obT Tk) = idsO (obT T)
theorem RcL.step {w wr : World} {B a m : Nat} {T T1 Tk : List OM} {mx : Int} {o : Int} {k : Nat} {c : Int} (h : RcL w wr B a m T T1 Tk mx o k) (hc : (contO (obT T1) o)[k]? = some c) {x : OM} (hx : findT Tk c = some x) :
    RcL w (wr.setCell ⟨x.g, 3, none⟩ (.int .i64 (-1))) B a m T T1 (updT Tk c (setL (-1))) mx o (k + 1) := by
  have hxm := (findT_some hx).1
  have ht := h.stp.tb
  refine ⟨h.stp.trans ⟨⟨ht.tab.store hx 3 (.int .i64 (-1)) (setL (-1)) (fun _ => rfl) rfl rfl rfl, ?_, ht.bare.upd c _⟩, Chg.set _ (List.mem_cons_of_mem _ (List.mem_cons_of_mem _ (blk_in hxm))) _, ?_⟩, ?_, ?_⟩
  · rw [obT_upd]
    exact ht.ok.move (.inl rfl) (by rw [row_none (by rw [getO_obT, ht.tab.neg]; rfl)]; simp)
  · intro b hb
    rw [blkT_upd] at hb
    exact .inl hb
  · rw [obT_upd, h.eq, foldl_snoc_take _ _ hc]
  · rw [obT_upd, updO_ids _ _ (setL (-1)) (fun _ => rfl), h.ids]
end Go.Proofs.YtnphgcbknfmapaaGreatDoor
namespace Go.Proofs.YtnphgcbknfmapaaGreatDoor
open Go.RowKit Go.Lib
set_option linter.unusedVariables false

end Go.Proofs.YtnphgcbknfmapaaGreatDoor
namespace Go.Proofs.YtnphgcbknfmapaaGreatDoor
open Go.RowKit Go.Lib
set_option linter.unusedVariables false

end Go.Proofs.YtnphgcbknfmapaaGreatDoor
namespace Go.Proofs.YtnphgcbknfmapaaGreatDoor
open Go.RowKit Go.Lib
set_option linter.unusedVariables false

theorem Stp.below {w w' : World} {B a m : Nat} {T T' : List OM} {mx mx' : Int} (k : Stp w w' B a m T T' mx mx') (h : TB w B a m T mx) (hB : B ≤ w.heap.size) : Below B w w' := k.chg.below hB fun i hi => h.tab.base i hi
theorem oret_int {k : IntKind} {a b : Int} (h : a = b) : Ending.returned (.int k a) = .returned (.int k b) := by rw [h]
theorem otmod (n : Int) (b : Int) (hb : 0 < b) : (Int.tmod n b < 0 → n % b = Int.tmod n b + b) ∧ (¬ Int.tmod n b < 0 → n % b = Int.tmod n b) ∧ -b < Int.tmod n b ∧ Int.tmod n b < b := by
  have h0 : n % b = (Int.tmod n b) % b := by
    conv => lhs; rw [← Int.tmod_add_mul_tdiv n b]
    rw [Int.add_mul_emod_self_left]
  have ht1 : Int.tmod n b < b := Int.tmod_lt_of_pos n (by omega)
  have ht0 : -b < Int.tmod n b := by
    by_cases h : 0 ≤ n
    · have := Int.tmod_nonneg b h; omega
    · have h1 := Int.tmod_lt_of_pos (-n) hb
      rw [Int.neg_tmod] at h1; omega
  refine ⟨fun h => ?_, fun h => ?_, ht0, ht1⟩
  · rw [h0, ← Int.add_emod_right, Int.emod_eq_of_lt (by omega) (by omega)]
  · rw [h0, Int.emod_eq_of_lt (by omega) (by omega)]
theorem onumber_c (n b : Int) (w : World) (hn : I64 n) (h0 : 0 < b) (h1 : b ≤ 1000000) :
    Calls Tryz.prog 10 #[.int .i64 n, .int .i64 b] w fun e w' => e = .returned (.int .i64 (n % b)) ∧ w = w' := by
  obtain ⟨hn1, hn2⟩ := hn
  obtain ⟨he1, he2, ht0, ht1⟩ := otmod n b h0
  have hbz : (b == 0) = false := by simp; omega
  obtain ⟨r, hr⟩ : ∃ r, r = n % b := ⟨_, rfl⟩
  rw [← hr] at he1 he2 ⊢
  clear hr
  by_cases hneg : Int.tmod n b < 0
  · have hd : decide (Int.tmod n b < 0) = true := decide_eq_true hneg
    have HE := Lib.hid (he1 hneg)
    clear he1 he2
    go_enter Tryz.func10, Tryz.ntmps10
    go_wp2_with fail
    go_ret
    exact ⟨oret_int HE.out.symm, rfl⟩
  · have hd : decide (Int.tmod n b < 0) = false := decide_eq_false hneg
    have HE := Lib.hid (he2 hneg)
    clear he1 he2
    go_enter Tryz.func10, Tryz.ntmps10
    go_wp2_with fail
    go_ret
    exact ⟨oret_int HE.out.symm, rfl⟩
/-- A row of numbers that was handed in. -/
def ArgI (W : World) (A : Option Addr) (l : List Int) : Prop := (∀ x ∈ l, I64 x) ∧ (l = [] ∨ ∃ b o, A = some ⟨b, o, none⟩ ∧ b < W.heap.size ∧ ∀ (j : Nat) (x : Int), l[j]? = some x → W.cell? ⟨b, o + j, none⟩ = some (.int .i64 x))
theorem ArgI.at_ {W w : World} {A : Option Addr} {l : List Int} (h : ArgI W A l) (hb : Below W.heap.size W w) {j : Nat} {x : Int} (hj : l[j]? = some x) : I64 x ∧ ∃ b o, A = some ⟨b, o, none⟩ ∧ w.cell? ⟨b, o + j, none⟩ = some (.int .i64 x) := by
  obtain ⟨h1, h2⟩ := h
  refine ⟨h1 x (List.mem_of_getElem? hj), ?_⟩
  rcases h2 with rfl | ⟨b, o, rfl, hlt, hc⟩
  · simp at hj
  · exact ⟨b, o, rfl, (hb.cell (p := ⟨b, o + j, none⟩) hlt).trans (hc j x hj)⟩
end Go.Proofs.YtnphgcbknfmapaaGreatDoor
namespace Go.Proofs.YtnphgcbknfmapaaGreatDoor
open Go.ChangeShapes Go.WideShapes Go.ChangeAt Go.RowKit Go.Lib
set_option linter.unusedVariables false

theorem olaid_out : laidOutB Tryz.prog = true := by kernel_rfl
theorem o_range {a : Int} (h : (Lit.int .i64 a).wf = true) : -9223372036854775808 ≤ a ∧ a ≤ 9223372036854775807 := by
  have e1 : IntKind.i64.min = -9223372036854775808 := by decide
  have e2 : IntKind.i64.max = 9223372036854775807 := by decide
  have h' : (decide (IntKind.i64.min ≤ a) && decide (a ≤ IntKind.i64.max)) = true := h
  rw [e1, e2, Bool.and_eq_true, decide_eq_true_eq, decide_eq_true_eq] at h'
  exact h'
theorem o_i64 {a : Int} (h : (Lit.int .i64 a).wf = true) : I64 a := o_range h
set_option maxRecDepth 100000 in
theorem ocells_slice {W : World} {r : Reach} {b0 : Nat} {t e : TypeId} {v : Value} (ht : Tryz.prog.underlying t = some (.slice e)) (h : Value.okWide Tryz.prog W r b0 t v) : v.cells.toList = [v] := by
  obtain ⟨a, len, cap, rfl⟩ := okWide_slice ht h
  rfl
theorem ocells_int : Tryz.prog.cellsOf 3 = 1 := by kernel_rfl
section
variable {H : Type} {enc : TypeId × Value → H} {W : World} {sp : Nat → Bool} {held : Bool}
/-- A row of numbers, handed in. -/
theorem open_intsO {v : Value} {d : DataW H} {p : List MemPlace} (hv : v.cells.toList = [v]) (h : DataW.Trod enc Tryz.prog W 0 sp held 22 v d p) :
    ∃ (l : List Int) (A : Option Addr) (c : Nat), v = .slice A l.length c ∧ l.length ≤ 9223372036854775807 ∧ ArgI W A l := by
  have hmax : maxLen ≤ 9223372036854775807 := by decide
  obtain ⟨fuel, hf⟩ := h
  rw [hv] at hf
  rcases open_ints Tryz.underlying22 Tryz.underlying3 ocells_int hf with ⟨hcs, _⟩ | ⟨a, len, cap, zs, hcs, _, hlc, hcm, hsl, _, hcell, hwf⟩
  · injection hcs with hcs _
    exact ⟨[], none, 0, hcs, by decide, (fun x hx => by cases hx), .inl rfl⟩
  · injection hcs with hcs _
    have hle : len ≤ zs.length := by rw [hsl]; split <;> omega
    have hll : (zs.take len).length = len := by rw [List.length_take]; omega
    refine ⟨zs.take len, some a, cap, by rw [hll]; exact hcs, by omega, fun x hx => o_i64 (hwf x (List.mem_of_mem_take hx)), ?_⟩
    by_cases h0 : len = 0
    · left; rw [h0]; rfl
    obtain ⟨b, o, spot⟩ := a
    have hc0 := hcell 0 (by omega)
    have hspot : spot = none := by simpa [Addr.add] using World.cell?_spot hc0
    subst hspot
    have hb : b < W.heap.size := by
      have h1 : (⟨b, o, none⟩ : Addr).add 0 = ⟨b, o, none⟩ := by unfold Addr.add; rfl
      rw [h1] at hc0
      unfold World.cell? at hc0
      rcases Nat.lt_or_ge b W.heap.size with hlt | hge
      · exact hlt
      · simp only [Array.getElem?_eq_none hge] at hc0; cases hc0
    refine .inr ⟨b, o, rfl, hb, fun j x hj => ?_⟩
    have hjl : j < len := by
      rcases Nat.lt_or_ge j len with hlt | hge
      · exact hlt
      · rw [List.getElem?_eq_none (by rw [hll]; exact hge)] at hj; cases hj
    have hg := hcell j (by omega)
    have e : (⟨b, o, none⟩ : Addr).add j = ⟨b, o + j, none⟩ := by unfold Addr.add; split <;> simp_all
    rw [e] at hg
    rw [hg]
    rw [List.getElem?_take_of_lt hjl] at hj
    rw [List.getD_eq_getElem?_getD, hj]
    rfl
end
end Go.Proofs.YtnphgcbknfmapaaGreatDoor
