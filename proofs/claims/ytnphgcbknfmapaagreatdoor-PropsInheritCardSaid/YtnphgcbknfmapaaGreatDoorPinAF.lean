/- Contracts of the functions that the statement reaches, and the plain mathematics beneath: several texts joined. -/
import Derived.Laws.AppendOwn
import Derived.Sort.Grow
import Derived.Sort.Row
import Derived.Deep.AppendLies
import Derived.Deep.RegionLaw
import Derived.Deep.Cut
import Derived.Deep.CutBlock
import Derived.Deep.DeepCutAuto
import Derived.Test.YtnphgcbknfmapaaGreatDoorPinAE
import Derived.Test.YtnphgcbknfmapaaGreatDoorPinAB
namespace Go.Proofs.YtnphgcbknfmapaaGreatDoor
open Go.RowKit Go.Lib
set_option linter.unusedVariables false
set_option linter.unusedSimpArgs false

open Go.Sort in
theorem sholds_own {w : World} {base g n cap : Nat} {ss : List (List UInt8)} (h : w.ownsRow base 9 1 (.slice (some ⟨g, 0, none⟩) n cap) n (ss.map fun l => Value.string ⟨l.toArray⟩)) : Holds encStr w g 0 ss.toArray := by
  intro j hj
  have hj' : j < ss.length := by simpa using hj
  have hc := h.cells (g := g) rfl j (.string ⟨(ss[j]).toArray⟩) (by simp [hj'])
  have hadd : (⟨g, 0, none⟩ : Addr).add j = ⟨g, j, none⟩ := by unfold Addr.add; split <;> simp_all
  rw [hadd] at hc
  refine ⟨by rw [Nat.zero_add, hc]; simp [hj', encStr], ?_⟩
  rcases h.2 with ⟨e, _⟩ | ⟨g', cap', cur, e, _, hh, _⟩
  · cases e
  · injection e with e _ _; injection e with e; injection e with e _ _; subst e
    unfold World.frozen?; rw [hh]; simp
open Go.Sort in
theorem sort_rises {w : World} {base g cap : Nat} {ss : List (List UInt8)} (h : w.ownsRow base 9 1 (.slice (some ⟨g, 0, none⟩) ss.length cap) ss.length (ss.map fun l => Value.string ⟨l.toArray⟩)) (hsz : ss.length < 4611686018427387904) (hs : ss.mergeSort (fun x y => decide (x ≤ y)) = ss) :
    Calls Tryz.prog 66 #[.slice (some ⟨g, 0, none⟩) ss.length cap] w fun e w' => e = .returned (.tuple #[]) ∧ Below w.heap.size w w' := by
  have hH := sholds_own h
  refine (Tryz.slices_Sort_string g 0 cap ss w hH (h.lt g rfl).2 hsz).mono ?_
  rintro e w' ⟨rfl, n, os, he⟩
  rw [hs, putRow_self encStr (Sort.ahead w n) g 0 ss.toArray (holds_ahead _ _ _ _ _ _ hH)] at he
  refine ⟨rfl, ?_⟩
  rw [he]
  refine ⟨rfl, rfl, rfl, ?_, fun k hk => ?_⟩
  · unfold grow Sort.ahead; simp
  · unfold grow Sort.ahead; exact Array.getElem?_append_left hk
theorem ownsRow_base {w : World} {b b' : Nat} {e : TypeId} {size : Nat} {v : Value} {n : Nat} {xs : List Value} (h : w.ownsRow b e size v n xs) (hb : b' ≤ b) : w.ownsRow b' e size v n xs := by
  refine ⟨h.1, ?_⟩
  rcases h.2 with h1 | ⟨g, cap, cur, e1, e2, e3⟩
  · exact .inl h1
  · exact .inr ⟨g, cap, cur, e1, by omega, e3⟩
theorem Tab.nodupX {w : World} {B a m : Nat} {T : List OM} {mx : Int} (h : Tab w B a m T mx) {x : OM} (hx : x ∈ T) : x.blocks.Nodup := by
  have hs := (List.nodup_cons.1 (List.nodup_cons.1 h.sep).2).2
  obtain ⟨p, q, e⟩ := List.append_of_mem hx
  rw [e, blkT_split, List.nodup_append, List.nodup_append] at hs
  exact hs.2.1.1
theorem Tab.baseB {w : World} {B a m : Nat} {T : List OM} {mx : Int} (h : Tab w B a m T mx) : B ≤ w.heap.size := by
  have h1 := h.base a (List.mem_cons_self ..)
  have h2 := h.lt a (List.mem_cons_self ..)
  omega
theorem pstr_info : (Tryz.prog.info? 9).map (fun i => (i.zero, i.size, i.bytes)) = some (some (.string ⟨#[]⟩), 1, 16) := by kernel_rfl
/-- An object's first property of its own. -/
theorem add_defs {w w4 wb w9 w6 : World} {B a m : Nat} {T : List OM} {mx o : Int} {x : OM} {n : ByteArray} {g9 cap : Nat} (h : TS w B a m T mx) (hx : findT T o = some x) (hb4 : Below w.heap.size w w4) (hbb : Below w4.heap.size w4 wb) (hdv : x.dv = .slice none 0 0)
    (hg : wb.grownBy w9 none) (hown : w9.ownsRow w.heap.size 9 1 (.slice (some ⟨g9, 0, none⟩) 1 cap) 1 [.string n]) (hb6 : Below w9.heap.size (w9.setCell ⟨x.g, 7, none⟩ (.slice (some ⟨g9, 0, none⟩) 1 cap)) w6) :
    StS w w6 B a m T (repT T o ⟨{ x.o with defs := [n] }, x.g, .slice (some ⟨g9, 0, none⟩) 1 cap, x.sv⟩) mx mx := by
  have hxm := (findT_some hx).1
  have hob := h.tab.objs x hxm
  have hg9 := hown.lt g9 rfl
  have hxlt := hob.lt
  have hxg : x.g < w.heap.size := hxlt x.g (OM.mem_blocks.2 (.inl rfl))
  have hz4 := hb4.size
  have hzb := hbb.size
  have hz9 := hg.size
  have k9 : ∀ b, b < w.heap.size → w9.heap[b]? = w.heap[b]? := fun b hb => ((hg.block b (by omega) (by simp)).trans (hbb.block b (by omega))).trans (hb4.block b hb)
  have k6 : ∀ b, b < w9.heap.size → b ≠ x.g → w6.heap[b]? = w9.heap[b]? := fun b hb hn => (hb6.block b hb).trans (Below.heap_setCell _ _ _ _ hn)
  have hx9 : x.g < w9.heap.size := by omega
  have hne9 : g9 ≠ x.g := by omega
  have hb6x : w6.heap[x.g]? = _ := hb6.block x.g hx9
  refine h.rep hx _ rfl rfl ?_ ⟨?_, ?_, ?_⟩ ?_ ?_ (h.flat x hxm) ⟨(h.bare x hxm).1, fun e => by cases e⟩
  · refine ⟨?_, ?_, ?_, ?_, ?_⟩
    · exact (hb6.os.trans hg.os).trans (hbb.os.trans hb4.os)
    · exact (hb6.tape.trans hg.tape).trans (hbb.tape.trans hb4.tape)
    · exact (hb6.output.trans hg.output).trans (hbb.output.trans hb4.output)
    · have := hb6.size; simp [World.setCell] at this; omega
    · intro k hk hn
      rw [k6 k (by omega) (fun e => hn (OM.mem_blocks.2 (.inl e)))]
      exact k9 k hk
  · show w6.heap[x.g]? = _
    rw [hb6x, heap_setCell_same w9 x.g 7 _ _ _ ((k9 x.g hxg).trans hob.blk)]
    rfl
  · exact ownsRow_base (ownsRow_same hown fun b hb => by
      injection hb with hb
      subst hb
      exact k6 _ hg9.2 hne9) h.tab.baseB
  · refine ownsRow_same hob.slots fun b hb => ?_
    have hbx := hxlt b (OM.mem_blocks.2 (.inr (.inr hb)))
    have hne : b ≠ x.g := by
      rintro rfl
      have := h.tab.nodupX hxm
      unfold OM.blocks at this
      rw [List.nodup_cons] at this
      exact this.1 (by simp [hb])
    rw [k6 b (by omega) hne]
    exact k9 b hbx
  · intro b hb
    rcases OM.mem_blocks.1 hb with h1 | h1 | h1
    · exact .inl (OM.mem_blocks.2 (.inl h1))
    · injection h1 with h1
      rw [← h1]
      exact .inr hg9.1
    · exact .inl (OM.mem_blocks.2 (.inr (.inr h1)))
  · have h0 := h.tab.nodupX hxm
    unfold OM.blocks at h0 ⊢
    rw [hdv, show (Value.slice none 0 0).ownBlock = none from rfl, Option.toList_none, List.nil_append] at h0
    rw [show (Value.slice (some ⟨g9, 0, none⟩) 1 cap).ownBlock = some g9 from rfl, Option.toList_some, List.singleton_append]
    rw [List.nodup_cons] at h0
    rw [List.nodup_cons, List.nodup_cons]
    refine ⟨?_, ?_, h0.2⟩
    · intro e
      rcases List.mem_cons.1 e with e | e
      · exact hne9 e.symm
      · exact h0.1 e
    · intro e
      have := hxlt g9 (OM.mem_blocks.2 (.inr (.inr (by simpa using e))))
      omega
theorem defs_row {w w4 wb w9 : World} {x : OM} {B g9 cap : Nat} (hob : ObjAt w B x) (hb4 : Below w.heap.size w w4) (hbb : Below w4.heap.size w4 wb) (hg : wb.grownBy w9 none) :
    (w9.setCell ⟨x.g, 7, none⟩ (.slice (some ⟨g9, 0, none⟩) 1 cap)).heap[x.g]? = some (.cells (x.cells.setIfInBounds 7 (.slice (some ⟨g9, 0, none⟩) 1 cap)) 29 (0, 0)) := by
  have hxg : x.g < w.heap.size := hob.lt x.g (OM.mem_blocks.2 (.inl rfl))
  have hz4 := hb4.size
  have hzb := hbb.size
  exact heap_setCell_same w9 x.g 7 _ _ _ ((((hg.block x.g (by omega) (by simp)).trans (hbb.block x.g (by omega))).trans (hb4.block x.g hxg)).trans hob.blk)
/-- The names of an object's own properties, laid. -/
def DfR (w w4 : World) (x : OM) (n : ByteArray) (wx : World) : Prop :=
  ∃ g9 cap wb w9, Below w4.heap.size w4 wb ∧ wb.grownBy w9 none ∧ w9.ownsRow w4.heap.size 9 1 (.slice (some ⟨g9, 0, none⟩) 1 cap) 1 [.string n] ∧ wx = w9.setCell ⟨x.g, 7, none⟩ (.slice (some ⟨g9, 0, none⟩) 1 cap)
section
variable {w : World} {B a m : Nat} {T : List OM} {mx o : Int} {x : OM}
set_option maxHeartbeats 4000000 in
set_option maxRecDepth 100000 in
theorem add_ok (h : TS w B a m T mx) (ho : I64 o) (hx : findT T o = some x) (n : ByteArray) (ow bits v : Int) (hn : n.size ≤ 140737488351232) (hb : nmB n.data.toList = true) (hi : biB n = false) (hs : slotI x.o.slots n = none)
    {r : List Int} (hr : belowO (obT T) o = some r) (hri : ∀ x ∈ r, I64 x) (hrl : r.length ≤ 1000000) (hT : ∀ d ∈ r, ∃ y, findT T d = some y) (hsv : ∀ d ∈ r, ∀ y, findT T d = some y → y.o.slots = [] ∧ y.sv = .slice none 0 0) (hnd : r.Nodup) {fs : List SL} (hfs : fs.length = r.length) (hfl : ∀ f ∈ fs, FlatS f) (hfn : ∀ f ∈ fs, f.name = n)
    (hsp : ∀ (i : Nat) (d : Int) (f : SL), r[i]? = some d → fs[i]? = some f → (d = o ∧ f = ⟨n, ow, bits, false, 0, v, ⟨#[]⟩⟩) ∨ (d ≠ o ∧ ∃ y, findT T d = some y ∧ I64 y.o.parent ∧ ∃ k : Nat, k < i ∧ r[k]? = some y.o.parent ∧ ∃ fk, fs[k]? = some fk ∧ f = freshO fk y.o.owner))
    (how : I64 ow) (hoh : hasO (obT T) ow = true) (hb0' : 0 ≤ bits) (hb7' : bits ≤ 7) (hdf : x.o.defs = []) (hdv : x.dv = .slice none 0 0) :
    Calls Tryz.prog 26 #[.pointer (some ⟨a, 0, none⟩), .int .i64 o, addV n ow bits v] w fun e w' => e = .returned (.int .i64 0) ∧ ∃ T', StS w w' B a m T T' mx mx ∧ obT T' = layAll (repO (obT T) o { x.o with defs := [n] }) (r.zip fs) := by
  have HNO := Lib.hid (fun d (hd : d ∈ r) y (hy : findT T d = some y) => (show slotI y.o.slots n = none from by rw [(hsv d hd y hy).1]; rfl))
  have HSV := Lib.hid hsv
  have HND := Lib.hid hnd
  have HFS := Lib.hid hfs
  have HFL := Lib.hid hfl
  have HFN := Lib.hid hfn
  have HSP := Lib.hid hsp
  have HDF := Lib.hid hdf
  have HDV := Lib.hid hdv
  have HXM := Lib.hid (findT_some hx).1
  have HFX := Lib.hid hx
  clear hsv hnd hfl hfn hsp hdf hdv
  unfold addV
  have hb0 : Below w.heap.size w (w.alloc (.cells #[.string n, .int .i64 ow, .int .i64 bits, .bool false, .int .i64 0, .int .i64 v, .string ⟨#[]⟩, .slice none 0 0] 35)) := (Below.refl _ _).alloc (Nat.le_refl _) _
  have CR := Lib.hid (ref_c (h.tab.below hb0) ho)
  rw [ptrT_some hx] at CR
  have CN := Lib.hid (fun W => oname_c n W hn)
  rw [hb] at CN
  have CB := Lib.hid (fun W => pbuiltin_c n W)
  rw [hi] at CB
  have HB0 := Lib.hid hb0
  have CS := Lib.hid (fun W (hW : Below w.heap.size w W) => slot_c ((h.tab.below hW).objs x (findT_some hx).1) n)
  rw [slotV_none hs] at CS
  have CL := Lib.hid (fun W (hW : Below w.heap.size w W) => pbelow_c (h.tab.below hW) ho hr hri hrl)
  have H := Lib.hid h
  have HT := Lib.hid hT
  have HRI := Lib.hid hri
  clear h hx hb hb0 hi hs hT hri
  go_enter Tryz.func26, Tryz.ntmps26
  go_wp2_with fail
  refine CR.out.mono ?_
  rintro e w1 ⟨rfl, rfl⟩
  go_wp2_with fail
  refine (CN.out _).mono ?_
  rintro e w1 ⟨rfl, rfl⟩
  go_wp2_with fail
  refine (CB.out _).mono ?_
  rintro e w1 ⟨rfl, hb1⟩
  have hb2 := HB0.out.trans (hb1.mono HB0.out.size)
  have hrw1 := (hb1.block w.heap.size (by simp)).trans (heap_alloc_new w _)
  have hq0 : w1.cell? ⟨w.heap.size, 0, none⟩ = some (.string n) := cell_of_row _ w.heap.size 0 _ _ _ hrw1
  have HB1 := Lib.hid hb2
  have HW1 := Lib.hid hrw1
  have HZ1 := Lib.hid (show w.heap.size < w1.heap.size from by have h1 : _ ≤ w1.heap.size := hb1.size; simp at h1; omega)
  clear hb1 hb2 hrw1
  go_wp2_with fail
  refine (CS.out _ HB1.out).mono ?_
  rintro e w2 ⟨rfl, rfl⟩
  go_wp2_with fail
  refine (CL.out _ HB1.out).mono ?_
  rintro e w3 ⟨V, rfl, hrow, hb3⟩
  obtain ⟨A, c, rfl, hnc, hcm, hA, hcell⟩ := own_formO hrow
  have hb4 := HB1.out.trans (hb3.mono HB1.out.size)
  have hrw3 := (hb3.block w.heap.size HZ1.out).trans HW1.out
  have hq3 : w3.cell? ⟨w.heap.size, 0, none⟩ = some (.string n) := cell_of_row _ w.heap.size 0 _ _ _ hrw3
  have HB3 := Lib.hid hb4
  have HW3 := Lib.hid hrw3
  have HCL := Lib.hid hcell
  have HRO := Lib.hid hrow
  have HZ3 := Lib.hid (show w1.heap.size ≤ w3.heap.size from hb3.size)
  have CS3 := Lib.hid (fun (k : Nat) (d : Int) (y : OM) (hy : findT T d = some y) => slot_c (((H.out.tab.below hb4).drewN k).objs y (findT_some hy).1) n)
  have CR3 := Lib.hid (fun (k : Nat) (d : Int) (hd : I64 d) (y : OM) (hy : findT T d = some y) => (show Calls Tryz.prog 54 #[.pointer (some ⟨a, 0, none⟩), .int .i64 d] (w3.drewN k) (fun e w' => e = .returned (.pointer (some ⟨y.g, 0, none⟩)) ∧ w3.drewN k = w') from by rw [← ptrT_some hy]; exact ref_c ((H.out.tab.below hb4).drewN k) hd))
  clear hb3 hb4 hrw3 hrow hcell hq0 CR CN CB CS CL
  unfold maxLen at hcm
  go_wp2_with fail
  go_loopg [42] r.length (fun kk iv wr => ∃ i k : Nat, iv = .int .i64 (i : Int) ∧ i + kk = r.length ∧ w3.drewN k = wr)
  case atStart => exact ⟨0, 0, rfl, by omega, rfl⟩
  case round =>
    obtain ⟨i, k, rfl, hik, rfl⟩ := hrel
    by_cases hi : i < r.length
    · obtain ⟨j, rfl⟩ : ∃ j, gk = j + 1 := ⟨gk - 1, by omega⟩
      obtain ⟨d, hd⟩ : ∃ d, r[i]? = some d := ⟨r[i], List.getElem?_eq_some_iff.2 ⟨hi, rfl⟩⟩
      obtain ⟨g1, rfl, hc1⟩ := HCL.out i (.int .i64 d) (by simp [intsO, hd])
      have hdm := List.mem_of_getElem? hd
      obtain ⟨y, hy⟩ := HT.out d hdm
      have KR := Lib.hid (fun k => CR3.out k d (HRI.out d hdm) y hy)
      have KS := Lib.hid (fun k => CS3.out k d y hy)
      rw [slotV_none (HNO.out d hdm y hy)] at KS
      clear hd hdm hy
      go_wp2_with fail
      go_quiet ((first | (go_at_call 54; exact squ_add (KR.out _)) | (go_at_call 62; exact squ_add (KS.out _)) | (go_at_call 54; exact squ_left (KR.out _)) | (go_at_call 62; exact squ_left (KS.out _))))
      go_wp2_with fail
      go_roundg j
      case measure => omega
      case rel => exact ⟨i + 1, _, by go_num, by omega, rfl⟩
    · have hbk : Below w.heap.size w (w3.drewN k) := sbelow_drewN HB3.out k
      have CHs := Lib.hid (fun (W : World) (hW : Below w.heap.size w W) => (show Calls Tryz.prog 45 #[.pointer (some ⟨a, 0, none⟩), .int .i64 ow] W (fun e w' => e = .returned (.bool true) ∧ W = w') from by rw [← hoh]; exact has_c (H.out.tab.below hW) how))
      have q0 : (w3.drewN k).cell? ⟨w.heap.size, 0, none⟩ = some (.string n) := cell_of_row _ w.heap.size 0 _ _ _ HW3.out
      have q1 : (w3.drewN k).cell? ⟨w.heap.size, 1, none⟩ = some (.int .i64 ow) := cell_of_row _ w.heap.size 1 _ _ _ HW3.out
      have q2 : (w3.drewN k).cell? ⟨w.heap.size, 2, none⟩ = some (.int .i64 bits) := cell_of_row _ w.heap.size 2 _ _ _ HW3.out
      have q4 : (w3.drewN k).cell? ⟨w.heap.size, 4, none⟩ = some (.int .i64 0) := cell_of_row _ w.heap.size 4 _ _ _ HW3.out
      have q5 : (w3.drewN k).cell? ⟨w.heap.size, 5, none⟩ = some (.int .i64 v) := cell_of_row _ w.heap.size 5 _ _ _ HW3.out
      have q6 : (w3.drewN k).cell? ⟨w.heap.size, 6, none⟩ = some (.string ⟨#[]⟩) := cell_of_row _ w.heap.size 6 _ _ _ HW3.out
      have q7 : (w3.drewN k).cell? ⟨w.heap.size, 7, none⟩ = some (.slice none 0 0) := cell_of_row _ w.heap.size 7 _ _ _ HW3.out
      have HBK := Lib.hid hbk
      clear hbk
      go_wp2_with fail
      refine (CHs.out _ HBK.out).mono ?_
      rintro e w4 ⟨rfl, rfl⟩
      have CV := Lib.hid (show ∀ W, Calls Tryz.prog 58 #[.agg #[.int .i64 0, .int .i64 v, .string ⟨#[]⟩, .slice none 0 0]] W (fun e w' => e = .returned .nilIface ∧ Below W.heap.size W w') from fun W => valid_int v W)
      go_wp2_with fail
      refine (CV.out _).mono ?_
      rintro e w4 ⟨rfl, hb4⟩
      have hw4 : Below w.heap.size w w4 := HBK.out.trans (hb4.mono HBK.out.size)
      have hz3 : w.heap.size < w3.heap.size := by have := HZ1.out; have := HZ3.out; omega
      have hrw4 := (hb4.block w.heap.size hz3).trans HW3.out
      have hz4 : w3.heap.size ≤ w4.heap.size := hb4.size
      have hx7 : w4.cell? ⟨x.g, 7, none⟩ = some (.slice none 0 0) := by rw [← HDV.out]; exact ((H.out.tab.below hw4).objs x HXM.out).cell 7
      have hf7 : w4.frozen? ⟨x.g, 7, none⟩ = false := ((H.out.tab.below hw4).objs x HXM.out).free 7
      have hq4 : w4.cell? ⟨w.heap.size, 0, none⟩ = some (.string n) := cell_of_row _ w.heap.size 0 _ _ _ hrw4
      have hxl : x.g < w.heap.size := (H.out.tab.objs x HXM.out).lt x.g (OM.mem_blocks.2 (.inl rfl))
      have hx4 : x.g < w4.heap.size := by omega
      have hx7a : ∀ o, (w4.alloc o).cell? ⟨x.g, 7, none⟩ = some (.slice none 0 0) := fun o => (((Below.refl w4.heap.size w4).alloc (Nat.le_refl _) o).cell (p := ⟨x.g, 7, none⟩) hx4).trans hx7
      have hq4a : ∀ o, (w4.alloc o).cell? ⟨w.heap.size, 0, none⟩ = some (.string n) := fun o => (((Below.refl w4.heap.size w4).alloc (Nat.le_refl _) o).cell (p := ⟨w.heap.size, 0, none⟩) (by show w.heap.size < _; omega)).trans hq4
      have HB34 := Lib.hid hb4
      have HZ34 := Lib.hid hz4
      have HB4 := Lib.hid hw4
      have HW4 := Lib.hid hrw4
      have HZ4 := Lib.hid (show w.heap.size < w4.heap.size from by omega)
      clear hb4 hw4 hrw4 q0 q1 q2 q4 q5 q6 q7 CV CHs
      obtain ⟨i0, hi0, hy0, hy1, hy2⟩ := info_parts pstr_info
      go_upto_region 15 with fail
      go_cut [] (fun wx => DfR w w4 x n wx)
      case first =>
        go_region_law
          (refine step_append_lies _ (by rfl) (.tmp 85) (.tmp 88) 25 (by rfl) w4.heap.size 9 i0 _ 1 16 Tryz.underlying25 hi0 hy0 hy1 hy2 rfl (by decide) (.slice none 0 0) 0 [] (by rfl) (World.ownsRow_nil _ _ _ _) ⟨w4.heap.size, 0, none⟩ 1 1 [.string n] (by rfl) rfl (World.news_of_block (cs := #[.string n]) (heap_alloc_new w4.drew _)) (by intro u hu; simp at hu; subst hu; rfl) (by decide) (by decide) (by decide) (by simp) _ rfl ?_
           intro g9 cap w9 hown9 hg9 hat hlt9
           have hr9 : w9.heap[x.g]? = w4.heap[x.g]? := (hg9.block x.g (by show x.g < _; simp; omega) (by simp [Value.ownBlock])).trans (Below.heap_alloc w4.drew _ x.g (by show x.g < w4.heap.size; have := HZ4.out; omega))
           have hb9 : w9.heap[x.g]? = some (.cells x.cells 29 (0, 0)) := hr9.trans ((HB4.out.block x.g hxl).trans (H.out.tab.objs x HXM.out).blk)
           have k9 : w9.cell? ⟨x.g, 7, none⟩ = some x.dv := cell_of_row w9 x.g 7 _ _ _ hb9
           have f9 : w9.frozen? ⟨x.g, 7, none⟩ = false := frozen_of_row w9 x.g 7 _ _ hb9
           clear hr9 hb9)
        all_goals
          go_wp2_with fail
          go_meet
          exact ⟨g9, cap, _, w9, (Below.drew (Below.refl _ _)).alloc (Nat.le_refl _) _, hg9, hown9, rfl⟩
      case rest =>
        obtain ⟨g9, cap, wb, w9, hbb, hg9, hown9, rfl⟩ := hcut
        have hk7 : (w9.setCell ⟨x.g, 7, none⟩ (.slice (some ⟨g9, 0, none⟩) 1 cap)).cell? ⟨x.g, 7, none⟩ = some (.slice (some ⟨g9, 0, none⟩) 1 cap) := cell_of_row _ x.g 7 _ _ _ (defs_row (H.out.tab.objs x HXM.out) HB4.out hbb hg9)
        have hg94 := (hown9.lt g9 rfl).1
        have hne9 : g9 ≠ x.g := by have := HZ4.out; omega
        have HG94 := Lib.hid hg94
        have hownS := ownsRow_same (w' := w9.setCell ⟨x.g, 7, none⟩ (.slice (some ⟨g9, 0, none⟩) 1 cap)) hown9 (fun b hb => by
          injection hb with hb
          subst hb
          exact Below.heap_setCell _ _ _ _ hne9)
        have CSo := Lib.hid (sort_rises (ss := [n.data.toList]) hownS (by simp) (by simp))
        have HOS := Lib.hid hown9
        have HG9 := Lib.hid hg9
        have HBB := Lib.hid hbb
        clear hownS hown9 hg9 hbb
        go_wp2_with fail
        refine CSo.out.mono ?_
        rintro e w6 ⟨rfl, hb6⟩
        have hb6' : Below w9.heap.size (w9.setCell ⟨x.g, 7, none⟩ (.slice (some ⟨g9, 0, none⟩) 1 cap)) w6 := by
          refine hb6.mono ?_
          simp [World.setCell]
        have HS := Lib.hid (add_defs H.out HFX.out HB4.out HBB.out HDV.out HG9.out (ownsRow_base HOS.out (Nat.le_of_lt HZ4.out)) hb6')
        have hkp : ∀ b, w.heap.size ≤ b → b < w4.heap.size → w6.heap[b]? = w4.heap[b]? := by
          intro b h1 h2
          have hzb := HBB.out.size
          have hz9 := HG9.out.size
          exact (((hb6'.block b (by omega)).trans (Below.heap_setCell _ _ _ _ (by show b ≠ x.g; omega))).trans (HG9.out.block b (by omega) (by simp))).trans (HBB.out.block b h2)
        have HKP := Lib.hid hkp
        obtain ⟨x1, hx1⟩ : ∃ x1 : OM, x1 = ⟨{ x.o with defs := [n] }, x.g, .slice (some ⟨g9, 0, none⟩) 1 cap, x.sv⟩ := ⟨_, rfl⟩
        rw [← hx1] at HS
        obtain ⟨T1, hT1⟩ : ∃ T1, T1 = repT T o x1 := ⟨_, rfl⟩
        rw [← hT1] at HS
        have hx1o : x1.o.id = o := by rw [hx1]; exact (findT_some HFX.out).2
        have hno1 : ∀ b, w.heap.size ≤ b → b < w4.heap.size → b ∉ a :: m :: blkT T1 := by
          intro b h1 h2 hm
          have hla := H.out.tab.lt a (List.mem_cons_self ..)
          have hlm := H.out.tab.lt m (List.mem_cons_of_mem _ (List.mem_cons_self ..))
          rcases List.mem_cons.1 hm with e | hm
          · omega
          rcases List.mem_cons.1 hm with e | hm
          · omega
          obtain ⟨y, hy, hby⟩ := List.mem_flatMap.1 hm
          rw [hT1] at hy
          obtain ⟨z, hz, rfl⟩ := List.mem_map.1 hy
          by_cases e : (z.o.id == o) = true
          · rw [if_pos e, hx1] at hby
            rcases OM.mem_blocks.1 hby with e1 | e1 | e1
            · have : b = x.g := e1
              omega
            · have e2 : g9 = b := by injection e1
              omega
            · have := (H.out.tab.objs x HXM.out).lt b (OM.mem_blocks.2 (.inr (.inr e1)))
              omega
          · rw [if_neg e] at hby
            have := (H.out.tab.objs z hz).lt b hby
            omega
        have hT1o : findT T1 o = some x1 := by rw [hT1]; exact findT_rep_eq hx1o HFX.out
        have hT1n : ∀ k, k ≠ o → findT T1 k = findT T k := fun k hk => by rw [hT1]; exact findT_rep_ne hx1o hk
        have HNO1 := Lib.hid hno1
        have HT1O := Lib.hid hT1o
        have HT1N := Lib.hid hT1n
        have HT1 := Lib.hid hT1
        have HX1 := Lib.hid hx1
        clear hb6 hb6' CSo hk7 hkp hno1 hT1o hT1n hT1 hx1 hne9 hg94 HG9 HBB HOS
        go_wp2_with fail
        go_loopg [99] r.length (fun kk iv wr => ∃ (i : Nat) (Tk : List OM), iv = .int .i64 (i : Int) ∧ i + kk = r.length ∧ LyI w6 wr B a m T1 Tk mx r fs i)
        case atStart => exact ⟨0, _, rfl, by omega, LyI.start HS.out.ts⟩
        case round =>
          obtain ⟨i, Tk, rfl, hik, hly⟩ := hrel
          by_cases hi2 : i < r.length
          · obtain ⟨j, rfl⟩ : ∃ j, gk = j + 1 := ⟨gk - 1, by omega⟩
            obtain ⟨d, hd⟩ : ∃ d, r[i]? = some d := ⟨r[i], List.getElem?_eq_some_iff.2 ⟨hi2, rfl⟩⟩
            obtain ⟨f, hf⟩ : ∃ f, fs[i]? = some f := ⟨fs[i]'(by rw [HFS.out]; exact hi2), List.getElem?_eq_some_iff.2 ⟨_, rfl⟩⟩
            obtain ⟨g1, rfl, hc1⟩ := HCL.out i (.int .i64 d) (by simp [intsO, hd])
            have hg1 := HRO.out.lt g1 rfl
            have hkr : ∀ b, w.heap.size ≤ b → b < w4.heap.size → wr.heap[b]? = w4.heap[b]? := fun b h1 h2 => (hly.st.chg.block b (by have := HS.out.chg.size; have h3 := (show w4.heap[b]? = w6.heap[b]? from (HKP.out b h1 h2).symm); have := Array.getElem?_eq_getElem h2; rw [this] at h3; exact (Array.getElem?_eq_some_iff.1 h3.symm).1) (HNO1.out b h1 h2)).trans (HKP.out b h1 h2)
            have hdm := List.mem_of_getElem? hd
            have hcr : wr.cell? ⟨g1, i, none⟩ = some (.int .i64 d) := (World.cell?_of_block (w := w3) ((hkr g1 (by have := HZ1.out; omega) (by have := HZ34.out; omega)).trans (HB34.out.block g1 hg1.2))).trans hc1
            have hpr : wr.heap[w.heap.size]? = _ := (hkr w.heap.size (Nat.le_refl _) HZ4.out).trans HW4.out
            have q0 := cell_of_row wr w.heap.size 0 _ _ _ hpr
            have q1 := cell_of_row wr w.heap.size 1 _ _ _ hpr
            have q2 := cell_of_row wr w.heap.size 2 _ _ _ hpr
            have q4 := cell_of_row wr w.heap.size 4 _ _ _ hpr
            have q5 := cell_of_row wr w.heap.size 5 _ _ _ hpr
            have q6 := cell_of_row wr w.heap.size 6 _ _ _ hpr
            have q7 := cell_of_row wr w.heap.size 7 _ _ _ hpr
            by_cases hdo : d = o
            · subst hdo
              have hy : findT Tk d = some x1 := (hly.keep i (Nat.le_refl _) d hd).trans HT1O.out
              have hH1 := hly.st.ts.tab
              have hsx : x1.sv = .slice none 0 0 := by rw [HX1.out]; exact (HSV.out d hdm x HFX.out).2
              have hob1 := hH1.objs x1 (findT_some hy).1
              have y8 : wr.cell? ⟨x1.g, 8, none⟩ = some (.slice none 0 0) := by rw [← hsx]; exact hob1.cell 8
              have hfe : f = ⟨n, ow, bits, false, 0, v, ⟨#[]⟩⟩ := by
                rcases HSP.out i d f hd hf with ⟨_, e⟩ | ⟨e, _⟩
                · exact e
                · exact absurd rfl e
              have CRr := Lib.hid (ref_c hH1 (HRI.out d hdm))
              rw [ptrT_some hy] at CRr
              have CC := Lib.hid (show ∀ W, Calls Tryz.prog 59 #[.agg #[.int .i64 0, .int .i64 v, .string ⟨#[]⟩, .slice none 0 0]] W (fun e w' => e = .returned (.agg #[.int .i64 0, .int .i64 v, .string ⟨#[]⟩, .slice none 0 0]) ∧ Below W.heap.size W w') from fun W => clone_int v W)
              obtain ⟨i1, hi1, hw0, hw1, hw2⟩ := info_parts slot_info
              have hzr : w.heap.size < wr.heap.size := (Array.getElem?_eq_some_iff.1 hpr).1
              have hx1z : x1.g < wr.heap.size := hob1.lt x1.g (OM.mem_blocks.2 (.inl rfl))
              have HPR := Lib.hid hpr
              have HBL := Lib.hid hob1.blk
              have HOB := Lib.hid hob1
              have HZR := Lib.hid hzr
              have HXZ := Lib.hid hx1z
              have HXW := Lib.hid (show w.heap.size ≠ x1.g from by
                have : x1.g = x.g := by rw [HX1.out]
                omega)
              have HY := Lib.hid hy
              have HSX := Lib.hid hsx
              have HLY := Lib.hid hly
              have HD := Lib.hid hd
              have HF := Lib.hid hf
              have HFE := Lib.hid hfe
              clear hy hH1 hsx hob1 hfe hly hd hf hpr hkr hdm hc1 hg1
              go_wp2_with fail
              refine CRr.out.mono ?_
              rintro e w7 ⟨rfl, rfl⟩
              go_upto_region 22 with fail
              go_cut [] (fun wx => LyR wr x1 f wx)
              case first =>
                have KS := Lib.hid (show ∀ W : World, W.heap[w.heap.size]? = wr.heap[w.heap.size]? → W.heap[x1.g]? = wr.heap[x1.g]? → (fun W => W.cell? ⟨w.heap.size, 0, none⟩ = some (.string n) ∧ W.cell? ⟨w.heap.size, 1, none⟩ = some (.int .i64 ow) ∧ W.cell? ⟨w.heap.size, 2, none⟩ = some (.int .i64 bits) ∧ W.cell? ⟨w.heap.size, 4, none⟩ = some (.int .i64 0) ∧ W.cell? ⟨w.heap.size, 5, none⟩ = some (.int .i64 v) ∧ W.cell? ⟨w.heap.size, 6, none⟩ = some (.string ⟨#[]⟩) ∧ W.cell? ⟨w.heap.size, 7, none⟩ = some (.slice none 0 0) ∧ W.cell? ⟨x1.g, 8, none⟩ = some (.slice none 0 0)) W from fun W h h2 => ⟨cell_of_row W _ 0 _ _ _ (h.trans HPR.out), cell_of_row W _ 1 _ _ _ (h.trans HPR.out), cell_of_row W _ 2 _ _ _ (h.trans HPR.out), cell_of_row W _ 4 _ _ _ (h.trans HPR.out), cell_of_row W _ 5 _ _ _ (h.trans HPR.out), cell_of_row W _ 6 _ _ _ (h.trans HPR.out), cell_of_row W _ 7 _ _ _ (h.trans HPR.out), by rw [← HSX.out]; exact cell_of_row W x1.g 8 _ _ _ (h2.trans HBL.out)⟩)
                clear q0 q1 q2 q4 q5 q6 q7 y8
                refine wp_region_heldTo 19 (fun W => W.cell? ⟨w.heap.size, 0, none⟩ = some (.string n) ∧ W.cell? ⟨w.heap.size, 1, none⟩ = some (.int .i64 ow) ∧ W.cell? ⟨w.heap.size, 2, none⟩ = some (.int .i64 bits) ∧ W.cell? ⟨w.heap.size, 4, none⟩ = some (.int .i64 0) ∧ W.cell? ⟨w.heap.size, 5, none⟩ = some (.int .i64 v) ∧ W.cell? ⟨w.heap.size, 6, none⟩ = some (.string ⟨#[]⟩) ∧ W.cell? ⟨w.heap.size, 7, none⟩ = some (.slice none 0 0) ∧ W.cell? ⟨x1.g, 8, none⟩ = some (.slice none 0 0)) (by kernel_rfl) (by kernel_rfl) (KS.out _ rfl rfl) (fun hSucc hHeld => ?_)
                refine heldTo_take (i := 0) (oi := _) (v := (.pointer (some ⟨x1.g, 0, none⟩))) hSucc rfl (by kernel_rfl) (by kernel_rfl) (by kernel_rfl) (by kernel_rfl) rfl (fun _ _ _ h => h) (Or.inl ⟨by rfl, fun W hSw => ?_⟩) (by with_reducible assumption) ?_
                · (try dsimp only at hSw); go_simp
                change heldTo _ _ _ _ _ _ _ _ (Act.put _ (some 109) _) _
                simp only [Act.put, List.setIfInBounds_toArray, List.set_cons_zero, List.set_cons_succ]
                refine heldTo_take (i := 1) (oi := _) (v := (.pointer (some ⟨x1.g, 0, none⟩))) hSucc rfl (by kernel_rfl) (by kernel_rfl) (by kernel_rfl) (by kernel_rfl) rfl (fun _ _ _ h => h) (Or.inl ⟨by rfl, fun W hSw => ?_⟩) (by with_reducible assumption) ?_
                · (try dsimp only at hSw); go_simp
                change heldTo _ _ _ _ _ _ _ _ (Act.put _ (some 110) _) _
                simp only [Act.put, List.setIfInBounds_toArray, List.set_cons_zero, List.set_cons_succ]
                refine heldTo_take (i := 2) (oi := _) (v := (.pointer (some ⟨x1.g, 0, none⟩))) hSucc rfl (by kernel_rfl) (by kernel_rfl) (by kernel_rfl) (by kernel_rfl) rfl (fun _ _ _ h => h) (Or.inl ⟨by rfl, fun W hSw => ?_⟩) (by with_reducible assumption) ?_
                · (try dsimp only at hSw); go_simp
                change heldTo _ _ _ _ _ _ _ _ (Act.put _ (some 111) _) _
                simp only [Act.put, List.setIfInBounds_toArray, List.set_cons_zero, List.set_cons_succ]
                refine heldTo_take (i := 3) (oi := _) (v := (.pointer (some ⟨x1.g, 8, none⟩))) hSucc rfl (by kernel_rfl) (by kernel_rfl) (by kernel_rfl) (by kernel_rfl) rfl (fun _ _ _ h => h) (Or.inl ⟨by rfl, fun W hSw => ?_⟩) (by with_reducible assumption) ?_
                · (try dsimp only at hSw); go_simp
                change heldTo _ _ _ _ _ _ _ _ (Act.put _ (some 112) _) _
                simp only [Act.put, List.setIfInBounds_toArray, List.set_cons_zero, List.set_cons_succ]
                refine heldTo_take (i := 4) (oi := _) (v := (.slice none 0 0)) hSucc rfl (by kernel_rfl) (by kernel_rfl) (by kernel_rfl) (by kernel_rfl) rfl (fun _ _ _ h => h) (Or.inl ⟨by rfl, fun W hSw => ?_⟩) (by with_reducible assumption) ?_
                · (try dsimp only at hSw); go_simp
                change heldTo _ _ _ _ _ _ _ _ (Act.put _ (some 113) _) _
                simp only [Act.put, List.setIfInBounds_toArray, List.set_cons_zero, List.set_cons_succ]
                refine heldTo_take (i := 5) (oi := _) (v := (.pointer (some ⟨w.heap.size, 0, none⟩))) hSucc rfl (by kernel_rfl) (by kernel_rfl) (by kernel_rfl) (by kernel_rfl) rfl (fun _ _ _ h => h) (Or.inl ⟨by rfl, fun W hSw => ?_⟩) (by with_reducible assumption) ?_
                · (try dsimp only at hSw); go_simp
                change heldTo _ _ _ _ _ _ _ _ (Act.put _ (some 114) _) _
                simp only [Act.put, List.setIfInBounds_toArray, List.set_cons_zero, List.set_cons_succ]
                refine heldTo_take (i := 6) (oi := _) (v := (.string n)) hSucc rfl (by kernel_rfl) (by kernel_rfl) (by kernel_rfl) (by kernel_rfl) rfl (fun _ _ _ h => h) (Or.inl ⟨by rfl, fun W hSw => ?_⟩) (by with_reducible assumption) ?_
                · (try dsimp only at hSw); go_simp
                change heldTo _ _ _ _ _ _ _ _ (Act.put _ (some 115) _) _
                simp only [Act.put, List.setIfInBounds_toArray, List.set_cons_zero, List.set_cons_succ]
                refine heldTo_take (i := 7) (oi := _) (v := (.pointer (some ⟨w.heap.size, 1, none⟩))) hSucc rfl (by kernel_rfl) (by kernel_rfl) (by kernel_rfl) (by kernel_rfl) rfl (fun _ _ _ h => h) (Or.inl ⟨by rfl, fun W hSw => ?_⟩) (by with_reducible assumption) ?_
                · (try dsimp only at hSw); go_simp
                change heldTo _ _ _ _ _ _ _ _ (Act.put _ (some 116) _) _
                simp only [Act.put, List.setIfInBounds_toArray, List.set_cons_zero, List.set_cons_succ]
                refine heldTo_take (i := 8) (oi := _) (v := (.int .i64 ow)) hSucc rfl (by kernel_rfl) (by kernel_rfl) (by kernel_rfl) (by kernel_rfl) rfl (fun _ _ _ h => h) (Or.inl ⟨by rfl, fun W hSw => ?_⟩) (by with_reducible assumption) ?_
                · (try dsimp only at hSw); go_simp
                change heldTo _ _ _ _ _ _ _ _ (Act.put _ (some 117) _) _
                simp only [Act.put, List.setIfInBounds_toArray, List.set_cons_zero, List.set_cons_succ]
                refine heldTo_take (i := 9) (oi := _) (v := (.pointer (some ⟨w.heap.size, 2, none⟩))) hSucc rfl (by kernel_rfl) (by kernel_rfl) (by kernel_rfl) (by kernel_rfl) rfl (fun _ _ _ h => h) (Or.inl ⟨by rfl, fun W hSw => ?_⟩) (by with_reducible assumption) ?_
                · (try dsimp only at hSw); go_simp
                change heldTo _ _ _ _ _ _ _ _ (Act.put _ (some 118) _) _
                simp only [Act.put, List.setIfInBounds_toArray, List.set_cons_zero, List.set_cons_succ]
                refine heldTo_take (i := 10) (oi := _) (v := (.int .i64 bits)) hSucc rfl (by kernel_rfl) (by kernel_rfl) (by kernel_rfl) (by kernel_rfl) rfl (fun _ _ _ h => h) (Or.inl ⟨by rfl, fun W hSw => ?_⟩) (by with_reducible assumption) ?_
                · (try dsimp only at hSw); go_simp
                change heldTo _ _ _ _ _ _ _ _ (Act.put _ (some 119) _) _
                simp only [Act.put, List.setIfInBounds_toArray, List.set_cons_zero, List.set_cons_succ]
                refine heldTo_take (i := 11) (oi := _) (v := (.pointer (some ⟨w.heap.size, 4, none⟩))) hSucc rfl (by kernel_rfl) (by kernel_rfl) (by kernel_rfl) (by kernel_rfl) rfl (fun _ _ _ h => h) (Or.inl ⟨by rfl, fun W hSw => ?_⟩) (by with_reducible assumption) ?_
                · (try dsimp only at hSw); go_simp
                change heldTo _ _ _ _ _ _ _ _ (Act.put _ (some 120) _) _
                simp only [Act.put, List.setIfInBounds_toArray, List.set_cons_zero, List.set_cons_succ]
                refine heldTo_take (i := 12) (oi := _) (v := (.agg #[.int .i64 0, .int .i64 v, .string ⟨#[]⟩, .slice none 0 0])) hSucc rfl (by kernel_rfl) (by kernel_rfl) (by kernel_rfl) (by kernel_rfl) rfl (fun _ _ _ h => h) (Or.inl ⟨by rfl, fun W hSw => ?_⟩) (by with_reducible assumption) ?_
                · (try dsimp only at hSw); go_simp
                change heldTo _ _ _ _ _ _ _ _ (Act.put _ (some 121) _) _
                simp only [Act.put, List.setIfInBounds_toArray, List.set_cons_zero, List.set_cons_succ]
                refine heldTo_one (i := 13) (o := _) (by kernel_rfl) rfl (fun K hK => ?_)
                go_simp
                go_at_call 59
                refine (CC.out _).mono ?_
                rintro e w8 ⟨rfl, hb8⟩
                have HB8 := Lib.hid (show Below wr.heap.size wr w8 from ((Below.refl wr.heap.size wr).drew).trans hb8)
                clear hb8 hHeld
                refine hK.out _ _ (KS.out _ (HB8.out.block w.heap.size HZR.out) (HB8.out.block x1.g HXZ.out)) (fun hHeld => ?_)
                clear hK K
                refine heldTo_take (i := 14) (oi := _) (v := (.agg #[.string n, .int .i64 ow, .int .i64 bits, .bool false, .int .i64 0, .int .i64 v, .string ⟨#[]⟩, .slice none 0 0])) hSucc rfl (by kernel_rfl) (by kernel_rfl) (by kernel_rfl) (by kernel_rfl) rfl (fun _ _ _ h => h) (Or.inl ⟨by rfl, fun W hSw => ?_⟩) (by with_reducible assumption) ?_
                · (try dsimp only at hSw); go_simp
                change heldTo _ _ _ _ _ _ _ _ (Act.put _ (some 123) _) _
                simp only [Act.put, List.setIfInBounds_toArray, List.set_cons_zero, List.set_cons_succ]
                refine heldTo_one (i := 15) (o := _) (by kernel_rfl) rfl (fun K hK => ?_)
                go_simp
                clear hHeld
                refine hK.out _ _ (KS.out _ ((HB8.out.alloc HB8.out.size _).block w.heap.size HZR.out) ((HB8.out.alloc HB8.out.size _).block x1.g HXZ.out)) (fun hHeld => ?_)
                clear hK K
                refine heldTo_one (i := 16) (o := _) (by kernel_rfl) rfl (fun K hK => ?_)
                refine step_append_lies _ (by rfl) (.tmp 113) (.tmp 124) 26 (by rfl) wr.heap.size 35 i1 _ 8 96 Tryz.underlying26 hi1 hw0 hw1 hw2 rfl (by decide) (.slice none 0 0) 0 [] (by rfl) (World.ownsRow_nil _ _ _ _) ⟨w8.heap.size, 0, none⟩ 1 1 [.string n, .int .i64 ow, .int .i64 bits, .bool false, .int .i64 0, .int .i64 v, .string ⟨#[]⟩, .slice none 0 0] (by rfl) rfl (news8 _ _ _ _ _ _ _ _ _ _) (one8 _ _ _ _ _ _ _) (by decide) (by decide) (by decide) (by have := HB8.out.size; simp; omega) _ rfl ?_
                intro g9 cap w9 hown9 hg9 hat hlt9
                have hb9 : ∀ b, b < wr.heap.size → w9.heap[b]? = wr.heap[b]? := fun b hb => (hg9.block b (by have := HB8.out.size; simp; omega) (by simp [Value.ownBlock])).trans ((HB8.out.alloc HB8.out.size _).block b hb)
                have hr9 : w9.heap[x1.g]? = some (.cells x1.cells 29 (0, 0)) := (hb9 x1.g HXZ.out).trans HBL.out
                have k9 : w9.cell? ⟨x1.g, 8, none⟩ = some x1.sv := cell_of_row w9 x1.g 8 _ _ _ hr9
                have f9 : w9.frozen? ⟨x1.g, 8, none⟩ = false := frozen_of_row w9 x1.g 8 _ _ hr9
                clear hr9 hHeld
                refine hK.out _ _ (KS.out _ (hb9 _ HZR.out) (hb9 _ HXZ.out)) (fun hHeld => ?_)
                clear hK K
                clear hb9
                refine heldTo_take (i := 17) (oi := _) (v := (.pointer (some ⟨x1.g, 0, none⟩))) hSucc rfl (by kernel_rfl) (by kernel_rfl) (by kernel_rfl) (by kernel_rfl) rfl (fun _ _ _ h => h) (Or.inl ⟨by rfl, fun W hSw => ?_⟩) (by with_reducible assumption) ?_
                · (try dsimp only at hSw); go_simp
                change heldTo _ _ _ _ _ _ _ _ (Act.put _ (some 126) _) _
                simp only [Act.put, List.setIfInBounds_toArray, List.set_cons_zero, List.set_cons_succ]
                refine heldTo_take (i := 18) (oi := _) (v := (.pointer (some ⟨x1.g, 8, none⟩))) hSucc rfl (by kernel_rfl) (by kernel_rfl) (by kernel_rfl) (by kernel_rfl) rfl (fun _ _ _ h => h) (Or.inl ⟨by rfl, fun W hSw => ?_⟩) (by with_reducible assumption) ?_
                · (try dsimp only at hSw); go_simp
                change heldTo _ _ _ _ _ _ _ _ (Act.put _ (some 127) _) _
                simp only [Act.put, List.setIfInBounds_toArray, List.set_cons_zero, List.set_cons_succ]
                refine heldTo_last (o := _) (by kernel_rfl) rfl (fun K hK => ?_)
                go_simp
                refine hK.out _ _ ?_
                clear hK K hHeld
                refine heldTo_done (by kernel_rfl) ?_ _
                all_goals
                  go_wp2_with fail
                  go_meet
                  exact ⟨g9, cap, _, w9, HB8.out.alloc HB8.out.size _, hg9, by rw [HFE.out]; exact hown9, rfl⟩
              case rest =>
                obtain ⟨g9, cap, wb, w9, hbb, hg9, hown9, rfl⟩ := hcut
                have hk8 : (w9.setCell ⟨x1.g, 8, none⟩ (.slice (some ⟨g9, 0, none⟩) 1 cap)).cell? ⟨x1.g, 8, none⟩ = some (.slice (some ⟨g9, 0, none⟩) 1 cap) := cell_of_row _ x1.g 8 _ _ _ (lay_row HOB.out hbb hg9)
                obtain ⟨Tk', hnx⟩ := HLY.out.next HND.out HD.out HF.out HY.out HSX.out (HFL.out f (List.mem_of_getElem? HF.out)) hbb hg9 hown9
                have HNX := Lib.hid hnx
                have CSS := Lib.hid (sortSlots_1 (some ⟨g9, 0, none⟩) 1 cap (w9.setCell ⟨x1.g, 8, none⟩ (.slice (some ⟨g9, 0, none⟩) 1 cap)) (Nat.le_refl _))
                clear hnx hown9 hg9 hbb
                go_wp2_with fail
                refine CSS.out.mono ?_
                rintro e w10 ⟨rfl, rfl⟩
                go_wp2_with fail
                go_roundg j
                case measure => omega
                case rel => exact ⟨i + 1, Tk', by go_num, by omega, HNX.out⟩
            · obtain ⟨_, y0, hy0, hpI, k', hk', hrk, fk, hfk, hfe⟩ : d ≠ o ∧ ∃ y, findT T d = some y ∧ I64 y.o.parent ∧ ∃ k : Nat, k < i ∧ r[k]? = some y.o.parent ∧ ∃ fk, fs[k]? = some fk ∧ f = freshO fk y.o.owner := by
                rcases HSP.out i d f hd hf with ⟨e, _⟩ | e
                · exact absurd e hdo
                · exact e
              have hy : findT Tk d = some y0 := (hly.keep i (Nat.le_refl _) d hd).trans ((HT1N.out d hdo).trans hy0)
              have hsx : y0.sv = .slice none 0 0 := (HSV.out d hdm y0 hy0).2
              obtain ⟨py, hpy, hps⟩ := hly.laid k' hk' y0.o.parent fk hrk hfk
              have hH1 : Tab wr.drew B a m Tk mx := hly.st.ts.tab.keep fun b _ => rfl
              have hobp := hH1.objs py (findT_some hpy).1
              have hfkn : fk.name = n := HFN.out fk (List.mem_of_getElem? hfk)
              have hfkf : FlatS fk := HFL.out fk (List.mem_of_getElem? hfk)
              have hsi : slotI py.o.slots n = some 0 := by rw [hps]; unfold slotI; simp [hfkn]
              obtain ⟨gq, kq, cq, hsvq, hvq⟩ := slotV_some hobp hsi
              obtain ⟨Aq, Cq, hsvA, _, _, _, hcellq⟩ := own_formO hobp.slots
              have hcq : ∀ j u, fk.cells[j]? = some u → wr.cell? ⟨gq, j, none⟩ = some u := by
                intro j u hu
                obtain ⟨g2, e2, hc⟩ := hcellq j u (by rw [hps]; simpa using hu)
                rw [hsvA, e2] at hsvq
                injection hsvq with e3 _ _
                injection e3 with e3
                injection e3 with e3 _ _
                subst e3
                exact hc
              have hobq := hly.st.ts.tab.objs y0 (findT_some hy).1
              have u0 := hcq 0 _ rfl
              have u1 := hcq 1 _ rfl
              have u2 := hcq 2 _ rfl
              have u3 := hcq 3 _ rfl
              have u4 := hcq 4 _ rfl
              have u5 := hcq 5 _ rfl
              have u6 := hcq 6 _ rfl
              have u7 := hcq 7 _ rfl
              have y1 : wr.cell? ⟨y0.g, 1, none⟩ = some (.int .i64 y0.o.parent) := hobq.cell 1
              have y2 : wr.cell? ⟨y0.g, 2, none⟩ = some (.int .i64 y0.o.owner) := hobq.cell 2
              have y8 : wr.cell? ⟨y0.g, 8, none⟩ = some (.slice none 0 0) := by rw [← hsx]; exact hobq.cell 8
              have CRr := Lib.hid (ref_c hly.st.ts.tab (HRI.out d hdm))
              rw [ptrT_some hy] at CRr
              have CRp := Lib.hid (ref_c hH1 hpI)
              rw [ptrT_some hpy] at CRp
              have CSp := Lib.hid (slot_c hobp n)
              rw [hvq] at CSp
              have FR := Lib.hid (show ∀ W, Calls Tryz.prog 67 #[.agg #[.string fk.name, .int .i64 fk.owner, .int .i64 fk.bits, .bool fk.clear, .int .i64 fk.kind, .int .i64 fk.num, .string fk.text, .slice none 0 0], .int .i64 y0.o.owner] W fun e w' => e = .returned (.agg #[.string f.name, .int .i64 f.owner, .int .i64 f.bits, .bool f.clear, .int .i64 f.kind, .int .i64 f.num, .string f.text, .slice none 0 0]) ∧ Below W.heap.size W w' from fun W => by rw [hfe]; exact pfresh_c fk y0.o.owner W hfkf.1 hfkf.2.1)
              obtain ⟨i1, hi1, hw0, hw1, hw2⟩ := info_parts slot_info
              have hzr : w.heap.size < wr.heap.size := (Array.getElem?_eq_some_iff.1 hpr).1
              have hyz : y0.g < wr.heap.size := hobq.lt y0.g (OM.mem_blocks.2 (.inl rfl))
              have hqz : gq < wr.heap.size := (hobp.slots.lt gq (by rw [hsvq]; rfl)).2
              have hyw : w.heap.size ≠ y0.g := by
                rw [hy] at *
                have := (H.out.tab.objs y0 (findT_some hy0).1).lt y0.g (OM.mem_blocks.2 (.inl rfl))
                omega
              have hyq : gq ≠ y0.g := by
                rintro rfl
                have hu := u0
                rw [hobq.cell 0] at hu
                injection hu with hu
                cases hu
              have HPR := Lib.hid hpr
              have HOB := Lib.hid hobq
              have HZR := Lib.hid hzr
              have HYZ := Lib.hid hyz
              have HQZ := Lib.hid hqz
              have HYW := Lib.hid hyw
              have HYQ := Lib.hid hyq
              have HCQ := Lib.hid hcq
              have HY := Lib.hid hy
              have HSX := Lib.hid hsx
              have HLY := Lib.hid hly
              have HD := Lib.hid hd
              have HF := Lib.hid hf
              have KS := Lib.hid (show ∀ W : World, W.heap[w.heap.size]? = wr.heap[w.heap.size]? → W.heap[gq]? = wr.heap[gq]? → W.heap[y0.g]? = wr.heap[y0.g]? → (fun W => W.cell? ⟨w.heap.size, 0, none⟩ = some (.string n) ∧ W.cell? ⟨y0.g, 1, none⟩ = some (.int .i64 y0.o.parent) ∧ W.cell? ⟨y0.g, 2, none⟩ = some (.int .i64 y0.o.owner) ∧ W.cell? ⟨gq, 0, none⟩ = some (.string fk.name) ∧ W.cell? ⟨gq, 1, none⟩ = some (.int .i64 fk.owner) ∧ W.cell? ⟨gq, 2, none⟩ = some (.int .i64 fk.bits) ∧ W.cell? ⟨gq, 3, none⟩ = some (.bool fk.clear) ∧ W.cell? ⟨gq, 4, none⟩ = some (.int .i64 fk.kind) ∧ W.cell? ⟨gq, 5, none⟩ = some (.int .i64 fk.num) ∧ W.cell? ⟨gq, 6, none⟩ = some (.string fk.text) ∧ W.cell? ⟨gq, 7, none⟩ = some (.slice none 0 0) ∧ W.cell? ⟨y0.g, 8, none⟩ = some (.slice none 0 0)) W from fun W h1 h2 h3 => ⟨cell_of_row W _ 0 _ _ _ (h1.trans HPR.out), cell_of_row W _ 1 _ _ _ (h3.trans HOB.out.blk), cell_of_row W _ 2 _ _ _ (h3.trans HOB.out.blk), (World.cell?_of_block h2).trans (HCQ.out 0 _ rfl), (World.cell?_of_block h2).trans (HCQ.out 1 _ rfl), (World.cell?_of_block h2).trans (HCQ.out 2 _ rfl), (World.cell?_of_block h2).trans (HCQ.out 3 _ rfl), (World.cell?_of_block h2).trans (HCQ.out 4 _ rfl), (World.cell?_of_block h2).trans (HCQ.out 5 _ rfl), (World.cell?_of_block h2).trans (HCQ.out 6 _ rfl), (World.cell?_of_block h2).trans (HCQ.out 7 _ rfl), by rw [← HSX.out]; exact cell_of_row W y0.g 8 _ _ _ (h3.trans HOB.out.blk)⟩)
              have hn0 : (d == o) = false := by simpa using hdo
              clear hobp hobq hcq hy hsx hly hd hf hpr hkr hdm hc1 hg1 hcellq hsvA hsvq hvq hpy hps hrk hfk hfe hy0 hH1 hsi hfkn hfkf
              go_wp2_with fail
              refine CRr.out.mono ?_
              rintro e w7 ⟨rfl, rfl⟩
              go_upto_region 23 with fail
              go_cut [] (fun wx => LyR wr y0 f wx)
              case first =>
                clear q0 q1 q2 q4 q5 q6 q7 u0 u1 u2 u3 u4 u5 u6 u7 y1 y2 y8
                refine wp_region_heldTo 25 (fun W => W.cell? ⟨w.heap.size, 0, none⟩ = some (.string n) ∧ W.cell? ⟨y0.g, 1, none⟩ = some (.int .i64 y0.o.parent) ∧ W.cell? ⟨y0.g, 2, none⟩ = some (.int .i64 y0.o.owner) ∧ W.cell? ⟨gq, 0, none⟩ = some (.string fk.name) ∧ W.cell? ⟨gq, 1, none⟩ = some (.int .i64 fk.owner) ∧ W.cell? ⟨gq, 2, none⟩ = some (.int .i64 fk.bits) ∧ W.cell? ⟨gq, 3, none⟩ = some (.bool fk.clear) ∧ W.cell? ⟨gq, 4, none⟩ = some (.int .i64 fk.kind) ∧ W.cell? ⟨gq, 5, none⟩ = some (.int .i64 fk.num) ∧ W.cell? ⟨gq, 6, none⟩ = some (.string fk.text) ∧ W.cell? ⟨gq, 7, none⟩ = some (.slice none 0 0) ∧ W.cell? ⟨y0.g, 8, none⟩ = some (.slice none 0 0)) (by kernel_rfl) (by kernel_rfl) (KS.out _ rfl rfl rfl) (fun hSucc hHeld => ?_)
                refine heldTo_take (i := 0) (oi := _) (v := (.pointer (some ⟨y0.g, 0, none⟩))) hSucc rfl (by kernel_rfl) (by kernel_rfl) (by kernel_rfl) (by kernel_rfl) rfl (fun _ _ _ h => h) (Or.inl ⟨by rfl, fun W hSw => ?_⟩) (by with_reducible assumption) ?_
                · (try dsimp only at hSw); go_simp
                change heldTo _ _ _ _ _ _ _ _ (Act.put _ (some 128) _) _
                simp only [Act.put, List.setIfInBounds_toArray, List.set_cons_zero, List.set_cons_succ]
                refine heldTo_take (i := 1) (oi := _) (v := (.pointer (some ⟨y0.g, 0, none⟩))) hSucc rfl (by kernel_rfl) (by kernel_rfl) (by kernel_rfl) (by kernel_rfl) rfl (fun _ _ _ h => h) (Or.inl ⟨by rfl, fun W hSw => ?_⟩) (by with_reducible assumption) ?_
                · (try dsimp only at hSw); go_simp
                change heldTo _ _ _ _ _ _ _ _ (Act.put _ (some 129) _) _
                simp only [Act.put, List.setIfInBounds_toArray, List.set_cons_zero, List.set_cons_succ]
                refine heldTo_take (i := 2) (oi := _) (v := (.pointer (some ⟨y0.g, 0, none⟩))) hSucc rfl (by kernel_rfl) (by kernel_rfl) (by kernel_rfl) (by kernel_rfl) rfl (fun _ _ _ h => h) (Or.inl ⟨by rfl, fun W hSw => ?_⟩) (by with_reducible assumption) ?_
                · (try dsimp only at hSw); go_simp
                change heldTo _ _ _ _ _ _ _ _ (Act.put _ (some 130) _) _
                simp only [Act.put, List.setIfInBounds_toArray, List.set_cons_zero, List.set_cons_succ]
                refine heldTo_take (i := 3) (oi := _) (v := (.pointer (some ⟨y0.g, 8, none⟩))) hSucc rfl (by kernel_rfl) (by kernel_rfl) (by kernel_rfl) (by kernel_rfl) rfl (fun _ _ _ h => h) (Or.inl ⟨by rfl, fun W hSw => ?_⟩) (by with_reducible assumption) ?_
                · (try dsimp only at hSw); go_simp
                change heldTo _ _ _ _ _ _ _ _ (Act.put _ (some 131) _) _
                simp only [Act.put, List.setIfInBounds_toArray, List.set_cons_zero, List.set_cons_succ]
                refine heldTo_take (i := 4) (oi := _) (v := (.slice none 0 0)) hSucc rfl (by kernel_rfl) (by kernel_rfl) (by kernel_rfl) (by kernel_rfl) rfl (fun _ _ _ h => h) (Or.inl ⟨by rfl, fun W hSw => ?_⟩) (by with_reducible assumption) ?_
                · (try dsimp only at hSw); go_simp
                change heldTo _ _ _ _ _ _ _ _ (Act.put _ (some 132) _) _
                simp only [Act.put, List.setIfInBounds_toArray, List.set_cons_zero, List.set_cons_succ]
                refine heldTo_take (i := 5) (oi := _) (v := (.pointer (some ⟨a, 0, none⟩))) hSucc rfl (by kernel_rfl) (by kernel_rfl) (by kernel_rfl) (by kernel_rfl) rfl (fun _ _ _ h => h) (Or.inl ⟨by rfl, fun W hSw => ?_⟩) (by with_reducible assumption) ?_
                · (try dsimp only at hSw); go_simp
                change heldTo _ _ _ _ _ _ _ _ (Act.put _ (some 133) _) _
                simp only [Act.put, List.setIfInBounds_toArray, List.set_cons_zero, List.set_cons_succ]
                refine heldTo_take (i := 6) (oi := _) (v := (.pointer (some ⟨y0.g, 0, none⟩))) hSucc rfl (by kernel_rfl) (by kernel_rfl) (by kernel_rfl) (by kernel_rfl) rfl (fun _ _ _ h => h) (Or.inl ⟨by rfl, fun W hSw => ?_⟩) (by with_reducible assumption) ?_
                · (try dsimp only at hSw); go_simp
                change heldTo _ _ _ _ _ _ _ _ (Act.put _ (some 134) _) _
                simp only [Act.put, List.setIfInBounds_toArray, List.set_cons_zero, List.set_cons_succ]
                refine heldTo_take (i := 7) (oi := _) (v := (.pointer (some ⟨y0.g, 0, none⟩))) hSucc rfl (by kernel_rfl) (by kernel_rfl) (by kernel_rfl) (by kernel_rfl) rfl (fun _ _ _ h => h) (Or.inl ⟨by rfl, fun W hSw => ?_⟩) (by with_reducible assumption) ?_
                · (try dsimp only at hSw); go_simp
                change heldTo _ _ _ _ _ _ _ _ (Act.put _ (some 135) _) _
                simp only [Act.put, List.setIfInBounds_toArray, List.set_cons_zero, List.set_cons_succ]
                refine heldTo_take (i := 8) (oi := _) (v := (.pointer (some ⟨y0.g, 1, none⟩))) hSucc rfl (by kernel_rfl) (by kernel_rfl) (by kernel_rfl) (by kernel_rfl) rfl (fun _ _ _ h => h) (Or.inl ⟨by rfl, fun W hSw => ?_⟩) (by with_reducible assumption) ?_
                · (try dsimp only at hSw); go_simp
                change heldTo _ _ _ _ _ _ _ _ (Act.put _ (some 136) _) _
                simp only [Act.put, List.setIfInBounds_toArray, List.set_cons_zero, List.set_cons_succ]
                refine heldTo_take (i := 9) (oi := _) (v := (.int .i64 y0.o.parent)) hSucc rfl (by kernel_rfl) (by kernel_rfl) (by kernel_rfl) (by kernel_rfl) rfl (fun _ _ _ h => h) (Or.inl ⟨by rfl, fun W hSw => ?_⟩) (by with_reducible assumption) ?_
                · (try dsimp only at hSw); go_simp
                change heldTo _ _ _ _ _ _ _ _ (Act.put _ (some 137) _) _
                simp only [Act.put, List.setIfInBounds_toArray, List.set_cons_zero, List.set_cons_succ]
                refine heldTo_take (i := 11) (oi := _) (v := (.pointer (some ⟨w.heap.size, 0, none⟩))) hSucc rfl (by kernel_rfl) (by kernel_rfl) (by kernel_rfl) (by kernel_rfl) rfl (fun _ _ _ h => h) (Or.inl ⟨by rfl, fun W hSw => ?_⟩) (by with_reducible assumption) ?_
                · (try dsimp only at hSw); go_simp
                change heldTo _ _ _ _ _ _ _ _ (Act.put _ (some 139) _) _
                simp only [Act.put, List.setIfInBounds_toArray, List.set_cons_zero, List.set_cons_succ]
                refine heldTo_take (i := 12) (oi := _) (v := (.string n)) hSucc rfl (by kernel_rfl) (by kernel_rfl) (by kernel_rfl) (by kernel_rfl) rfl (fun _ _ _ h => h) (Or.inl ⟨by rfl, fun W hSw => ?_⟩) (by with_reducible assumption) ?_
                · (try dsimp only at hSw); go_simp
                change heldTo _ _ _ _ _ _ _ _ (Act.put _ (some 140) _) _
                simp only [Act.put, List.setIfInBounds_toArray, List.set_cons_zero, List.set_cons_succ]
                refine heldTo_take (i := 16) (oi := _) (v := (.pointer (some ⟨y0.g, 0, none⟩))) hSucc rfl (by kernel_rfl) (by kernel_rfl) (by kernel_rfl) (by kernel_rfl) rfl (fun _ _ _ h => h) (Or.inl ⟨by rfl, fun W hSw => ?_⟩) (by with_reducible assumption) ?_
                · (try dsimp only at hSw); go_simp
                change heldTo _ _ _ _ _ _ _ _ (Act.put _ (some 144) _) _
                simp only [Act.put, List.setIfInBounds_toArray, List.set_cons_zero, List.set_cons_succ]
                refine heldTo_take (i := 17) (oi := _) (v := (.pointer (some ⟨y0.g, 0, none⟩))) hSucc rfl (by kernel_rfl) (by kernel_rfl) (by kernel_rfl) (by kernel_rfl) rfl (fun _ _ _ h => h) (Or.inl ⟨by rfl, fun W hSw => ?_⟩) (by with_reducible assumption) ?_
                · (try dsimp only at hSw); go_simp
                change heldTo _ _ _ _ _ _ _ _ (Act.put _ (some 145) _) _
                simp only [Act.put, List.setIfInBounds_toArray, List.set_cons_zero, List.set_cons_succ]
                refine heldTo_take (i := 18) (oi := _) (v := (.pointer (some ⟨y0.g, 2, none⟩))) hSucc rfl (by kernel_rfl) (by kernel_rfl) (by kernel_rfl) (by kernel_rfl) rfl (fun _ _ _ h => h) (Or.inl ⟨by rfl, fun W hSw => ?_⟩) (by with_reducible assumption) ?_
                · (try dsimp only at hSw); go_simp
                change heldTo _ _ _ _ _ _ _ _ (Act.put _ (some 146) _) _
                simp only [Act.put, List.setIfInBounds_toArray, List.set_cons_zero, List.set_cons_succ]
                refine heldTo_take (i := 19) (oi := _) (v := (.int .i64 y0.o.owner)) hSucc rfl (by kernel_rfl) (by kernel_rfl) (by kernel_rfl) (by kernel_rfl) rfl (fun _ _ _ h => h) (Or.inl ⟨by rfl, fun W hSw => ?_⟩) (by with_reducible assumption) ?_
                · (try dsimp only at hSw); go_simp
                change heldTo _ _ _ _ _ _ _ _ (Act.put _ (some 147) _) _
                simp only [Act.put, List.setIfInBounds_toArray, List.set_cons_zero, List.set_cons_succ]
                refine heldTo_one (i := 10) (o := _) (by kernel_rfl) rfl (fun K hK => ?_)
                go_simp
                go_at_call 54
                refine CRp.out.mono ?_
                rintro e w7 ⟨rfl, rfl⟩
                clear hHeld
                refine hK.out _ _ (KS.out _ rfl rfl rfl) (fun hHeld => ?_)
                clear hK K
                refine heldTo_one (i := 13) (o := _) (by kernel_rfl) rfl (fun K hK => ?_)
                go_simp
                go_at_call 62
                refine CSp.out.mono ?_
                rintro e w7 ⟨rfl, rfl⟩
                clear hHeld
                refine hK.out _ _ (KS.out _ rfl rfl rfl) (fun hHeld => ?_)
                clear hK K
                refine heldTo_take (i := 14) (oi := _) (v := (.pointer (some ⟨gq, 0, none⟩))) hSucc rfl (by kernel_rfl) (by kernel_rfl) (by kernel_rfl) (by kernel_rfl) rfl (fun _ _ _ h => h) (Or.inl ⟨by rfl, fun W hSw => ?_⟩) (by with_reducible assumption) ?_
                · (try dsimp only at hSw); go_simp
                change heldTo _ _ _ _ _ _ _ _ (Act.put _ (some 142) _) _
                simp only [Act.put, List.setIfInBounds_toArray, List.set_cons_zero, List.set_cons_succ]
                refine heldTo_take (i := 15) (oi := _) (v := (.agg #[.string fk.name, .int .i64 fk.owner, .int .i64 fk.bits, .bool fk.clear, .int .i64 fk.kind, .int .i64 fk.num, .string fk.text, .slice none 0 0])) hSucc rfl (by kernel_rfl) (by kernel_rfl) (by kernel_rfl) (by kernel_rfl) rfl (fun _ _ _ h => h) (Or.inl ⟨by rfl, fun W hSw => ?_⟩) (by with_reducible assumption) ?_
                · (try dsimp only at hSw); go_simp
                change heldTo _ _ _ _ _ _ _ _ (Act.put _ (some 143) _) _
                simp only [Act.put, List.setIfInBounds_toArray, List.set_cons_zero, List.set_cons_succ]
                refine heldTo_one (i := 20) (o := _) (by kernel_rfl) rfl (fun K hK => ?_)
                go_simp
                go_at_call 67
                refine (FR.out _).mono ?_
                rintro e w8 ⟨rfl, hb8⟩
                have HB8 := Lib.hid (show Below wr.heap.size wr w8 from ((Below.refl wr.heap.size wr).drew).trans hb8)
                clear hb8 hHeld
                refine hK.out _ _ (KS.out _ (HB8.out.block w.heap.size HZR.out) (HB8.out.block gq HQZ.out) (HB8.out.block y0.g HYZ.out)) (fun hHeld => ?_)
                clear hK K
                refine heldTo_one (i := 21) (o := _) (by kernel_rfl) rfl (fun K hK => ?_)
                go_simp
                clear hHeld
                refine hK.out _ _ (KS.out _ ((HB8.out.alloc HB8.out.size _).block w.heap.size HZR.out) ((HB8.out.alloc HB8.out.size _).block gq HQZ.out) ((HB8.out.alloc HB8.out.size _).block y0.g HYZ.out)) (fun hHeld => ?_)
                clear hK K
                refine heldTo_one (i := 22) (o := _) (by kernel_rfl) rfl (fun K hK => ?_)
                refine step_append_lies _ (by rfl) (.tmp 132) (.tmp 149) 26 (by rfl) wr.heap.size 35 i1 _ 8 96 Tryz.underlying26 hi1 hw0 hw1 hw2 rfl (by decide) (.slice none 0 0) 0 [] (by rfl) (World.ownsRow_nil _ _ _ _) ⟨w8.heap.size, 0, none⟩ 1 1 [.string f.name, .int .i64 f.owner, .int .i64 f.bits, .bool f.clear, .int .i64 f.kind, .int .i64 f.num, .string f.text, .slice none 0 0] (by rfl) rfl (news8 _ _ _ _ _ _ _ _ _ _) (one8 _ _ _ _ _ _ _) (by decide) (by decide) (by decide) (by have := HB8.out.size; simp; omega) _ rfl ?_
                intro g9 cap w9 hown9 hg9 hat hlt9
                have hb9 : ∀ b, b < wr.heap.size → w9.heap[b]? = wr.heap[b]? := fun b hb => (hg9.block b (by have := HB8.out.size; simp; omega) (by simp [Value.ownBlock])).trans ((HB8.out.alloc HB8.out.size _).block b hb)
                have hr9 : w9.heap[y0.g]? = some (.cells y0.cells 29 (0, 0)) := (hb9 y0.g HYZ.out).trans HOB.out.blk
                have k9 : w9.cell? ⟨y0.g, 8, none⟩ = some y0.sv := cell_of_row w9 y0.g 8 _ _ _ hr9
                have f9 : w9.frozen? ⟨y0.g, 8, none⟩ = false := frozen_of_row w9 y0.g 8 _ _ hr9
                clear hr9 hHeld
                refine hK.out _ _ (KS.out _ (hb9 _ HZR.out) (hb9 _ HQZ.out) (hb9 _ HYZ.out)) (fun hHeld => ?_)
                clear hK K
                clear hb9
                refine heldTo_take (i := 23) (oi := _) (v := (.pointer (some ⟨y0.g, 0, none⟩))) hSucc rfl (by kernel_rfl) (by kernel_rfl) (by kernel_rfl) (by kernel_rfl) rfl (fun _ _ _ h => h) (Or.inl ⟨by rfl, fun W hSw => ?_⟩) (by with_reducible assumption) ?_
                · (try dsimp only at hSw); go_simp
                change heldTo _ _ _ _ _ _ _ _ (Act.put _ (some 151) _) _
                simp only [Act.put, List.setIfInBounds_toArray, List.set_cons_zero, List.set_cons_succ]
                refine heldTo_take (i := 24) (oi := _) (v := (.pointer (some ⟨y0.g, 8, none⟩))) hSucc rfl (by kernel_rfl) (by kernel_rfl) (by kernel_rfl) (by kernel_rfl) rfl (fun _ _ _ h => h) (Or.inl ⟨by rfl, fun W hSw => ?_⟩) (by with_reducible assumption) ?_
                · (try dsimp only at hSw); go_simp
                change heldTo _ _ _ _ _ _ _ _ (Act.put _ (some 152) _) _
                simp only [Act.put, List.setIfInBounds_toArray, List.set_cons_zero, List.set_cons_succ]
                refine heldTo_last (o := _) (by kernel_rfl) rfl (fun K hK => ?_)
                go_simp
                refine hK.out _ _ ?_
                clear hK K hHeld
                refine heldTo_done (by kernel_rfl) ?_ _
                all_goals
                  go_wp2_with fail
                  go_meet
                  exact ⟨g9, cap, _, w9, HB8.out.alloc HB8.out.size _, hg9, hown9, rfl⟩
              case rest =>
                obtain ⟨g9, cap, wb, w9, hbb, hg9, hown9, rfl⟩ := hcut
                have hk8 : (w9.setCell ⟨y0.g, 8, none⟩ (.slice (some ⟨g9, 0, none⟩) 1 cap)).cell? ⟨y0.g, 8, none⟩ = some (.slice (some ⟨g9, 0, none⟩) 1 cap) := cell_of_row _ y0.g 8 _ _ _ (lay_row HOB.out hbb hg9)
                obtain ⟨Tk', hnx⟩ := HLY.out.next HND.out HD.out HF.out HY.out HSX.out (HFL.out f (List.mem_of_getElem? HF.out)) hbb hg9 hown9
                have HNX := Lib.hid hnx
                have CSS := Lib.hid (sortSlots_1 (some ⟨g9, 0, none⟩) 1 cap (w9.setCell ⟨y0.g, 8, none⟩ (.slice (some ⟨g9, 0, none⟩) 1 cap)) (Nat.le_refl _))
                clear hnx hown9 hg9 hbb
                go_wp2_with fail
                refine CSS.out.mono ?_
                rintro e w10 ⟨rfl, rfl⟩
                go_wp2_with fail
                go_roundg j
                case measure => omega
                case rel => exact ⟨i + 1, Tk', by go_num, by omega, HNX.out⟩
          · obtain rfl : i = r.length := by omega
            have HLY := Lib.hid hly
            clear hly
            go_wp2_with fail
            go_ret
            refine ⟨rfl, Tk, HS.out.trans HLY.out.st, ?_⟩
            have hob := HLY.out.ob
            rw [List.take_of_length_le (by rw [List.length_zip]; omega)] at hob
            rw [hob, HT1.out, obT_rep, HX1.out]
end
end Go.Proofs.YtnphgcbknfmapaaGreatDoor
