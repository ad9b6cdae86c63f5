/- Contracts of the functions that the statement reaches, and the plain mathematics beneath: several texts joined. -/
import Derived.Deep.MidRow
import Derived.Test.YtnphgcbknfmapaaGreatDoorWowAF
import Derived.Test.YtnphgcbknfmapaaGreatDoorWowAG
import Derived.Test.YtnphgcbknfmapaaGreatDoorWowAD
namespace Go.Proofs.YtnphgcbknfmapaaGreatDoor
open Go.RowKit Go.Lib
set_option linter.unusedVariables false

/-- The table as it stands; what the law itself laid beside it. -/
def LS (B : Nat) (w0 w : World) (a m : Nat) (l : List OB) (mx : Int) (K : List (Nat × Obj)) : Prop :=
  ∃ T, TS w B a m T mx ∧ obT T = l ∧ Below B w0 w ∧ ∀ p ∈ K, w.heap[p.1]? = some p.2 ∧ p.1 ∉ a :: m :: blkT T
section
variable {B a m : Nat} {w0 w w' : World} {l l' : List OB} {mx mx' o : Int} {K : List (Nat × Obj)} {x : OB}
theorem TS.baseB {T : List OM} (h : TS w B a m T mx) : B ≤ w.heap.size := by
  have h1 := h.tab.base a (List.mem_cons_self ..)
  have h2 := h.tab.lt a (List.mem_cons_self ..)
  omega
theorem ls_step {T T' : List OM} (ht : TS w B a m T mx) (hb : Below B w0 w) (hK : ∀ p ∈ K, w.heap[p.1]? = some p.2 ∧ p.1 ∉ a :: m :: blkT T) (hs : StS w w' B a m T T' mx mx') (hl : obT T' = l') : LS B w0 w' a m l' mx' K := by
  refine ⟨T', hs.ts, hl, hb.trans (hs.chg.below ht.baseB fun i hi => ht.tab.base i hi), fun p hp => ?_⟩
  obtain ⟨h1, h2⟩ := hK p hp
  have hlt : p.1 < w.heap.size := (Array.getElem?_eq_some_iff.1 h1).1
  refine ⟨(hs.chg.block p.1 hlt h2).trans h1, fun hm => ?_⟩
  rcases List.mem_cons.1 hm with e | hm
  · exact h2 (by rw [e]; exact List.mem_cons_self ..)
  rcases List.mem_cons.1 hm with e | hm
  · exact h2 (by rw [e]; exact List.mem_cons_of_mem _ (List.mem_cons_self ..))
  rcases hs.new p.1 hm with e | e
  · exact h2 (List.mem_cons_of_mem _ (List.mem_cons_of_mem _ e))
  · omega
theorem LS.below (h : LS B w0 w a m l mx K) (hb : Below w.heap.size w w') : LS B w0 w' a m l mx K := by
  obtain ⟨T, ht, hl, h0, hK⟩ := h
  refine ⟨T, ht.keep hb, hl, h0.trans (hb.mono ht.baseB), fun p hp => ?_⟩
  obtain ⟨h1, h2⟩ := hK p hp
  exact ⟨(hb.block p.1 (Array.getElem?_eq_some_iff.1 h1).1).trans h1, h2⟩
/-- Something of the law's own, laid beside the table. -/
theorem LS.push (h : LS B w0 w a m l mx K) {g : Nat} {ob : Obj} (hb : Below w.heap.size w w') (hg : w.heap.size ≤ g) (hr : w'.heap[g]? = some ob) : LS B w0 w' a m l mx ((g, ob) :: K) := by
  obtain ⟨T, ht, hl, h0, hK⟩ := h
  refine ⟨T, ht.keep hb, hl, h0.trans (hb.mono ht.baseB), fun p hp => ?_⟩
  rcases List.mem_cons.1 hp with rfl | hp
  · exact ⟨hr, fun hm => by have := ht.tab.lt g hm; omega⟩
  · obtain ⟨h1, h2⟩ := hK p hp
    exact ⟨(hb.block p.1 (Array.getElem?_eq_some_iff.1 h1).1).trans h1, h2⟩
theorem LS.row {g : Nat} {ob : Obj} (h : LS B w0 w a m l mx K) (hp : (g, ob) ∈ K) : w.heap[g]? = some ob := by
  obtain ⟨T, ht, hl, h0, hK⟩ := h
  exact (hK _ hp).1
theorem LS.base (h : LS B w0 w a m l mx K) : Below B w0 w := by
  obtain ⟨T, ht, hl, h0, hK⟩ := h
  exact h0
theorem info_L (h : LS B w0 w a m l mx K) (ho : I64 o) (hx : getO l o = some x) (n : ByteArray) {i : Nat} {s : SL} (hi : slotI x.slots n = some i) (hs : x.slots[i]? = some s) (ow bits : Int) (how : I64 ow) (hoh : hasO l ow = true) (hb0 : 0 ≤ bits) (hb7 : bits ≤ 7) :
    Calls Tryz.prog 78 #[.pointer (some ⟨a, 0, none⟩), .int .i64 o, .string n, .int .i64 ow, .int .i64 bits] w fun e w' => e = .returned (.int .i64 0) ∧ LS B w0 w' a m (repO l o { x with slots := x.slots.set i { s with owner := ow, bits := bits } }) mx K := by
  obtain ⟨T, ht, rfl, h0, hK⟩ := h
  obtain ⟨y, hy, rfl⟩ := findT_of_getO hx
  refine (info_ok ht ho hy n hi hs ow bits how hoh hb0 hb7).mono ?_
  rintro e w' ⟨rfl, T', hs', hl'⟩
  exact ⟨rfl, ls_step ht h0 hK hs' hl'⟩
end
end Go.Proofs.YtnphgcbknfmapaaGreatDoor
namespace Go.Proofs.YtnphgcbknfmapaaGreatDoor
open Go.RowKit Go.Lib
set_option linter.unusedVariables false
set_option linter.unusedSimpArgs false

theorem slCells_set1 (j : Nat) (hj : j < 8) (u : Value) : ∀ (ss : List SL) (i : Nat) (s s' : SL), ss[i]? = some s → s'.cells = s.cells.set j u → (ss.flatMap SL.cells).set (i * 8 + j) u = (ss.set i s').flatMap SL.cells
  | [], i, s, s', h, _ => by simp at h
  | x :: r, 0, s, s', h, hc => by
    simp only [List.getElem?_cons_zero, Option.some.injEq] at h
    subst h
    rw [List.flatMap_cons, List.set_cons_zero, List.flatMap_cons, hc, Nat.zero_mul, Nat.zero_add, List.set_append_left _ _ (by simp [SL.cells]; omega)]
  | x :: r, i + 1, s, s', h, hc => by
    simp only [List.getElem?_cons_succ] at h
    have ih := slCells_set1 j hj u r i s s' h hc
    have hl : x.cells.length = 8 := rfl
    rw [List.flatMap_cons, List.set_cons_succ, List.flatMap_cons, ← ih, List.set_append_right _ _ (by omega), hl]
    rw [show (i + 1) * 8 + j - 8 = i * 8 + j from by omega]
/-- Another cell of a slot's row. -/
theorem slot_stored {w : World} {B g c n : Nat} {ss : List SL} {i j : Nat} {u : Value} {s s' : SL} (h : w.ownsRow B 35 8 (.slice (some ⟨g, 0, none⟩) n c) n (ss.flatMap SL.cells)) (hj : j < 8) (hs : ss[i]? = some s) (hc : s'.cells = s.cells.set j u) :
    (w.setCell ⟨g, i * 8 + j, none⟩ u).ownsRow B 35 8 (.slice (some ⟨g, 0, none⟩) n c) n ((ss.set i s').flatMap SL.cells) := by
  have h1 := (h.stored (i * 8 + j) u).1
  rwa [slCells_set1 j hj u ss i s s' hs hc] at h1
/-- What a store of a value and of Clear leaves of a slot. -/
def setV (s : SL) (v : Int) (b : Bool) : SL := { s with clear := b, kind := 0, num := v, text := ⟨#[]⟩ }
def putW (w : World) (g k : Nat) (v : Int) (b : Bool) : World := (w.setCells g (k + 4) [.int .i64 0, .int .i64 v, .string ⟨#[]⟩, .slice none 0 0]).setCell ⟨g, k + 3, none⟩ (.bool b)
theorem putW_other {w : World} {g k b : Nat} {v : Int} {c : Bool} (h : b ≠ g) : (putW w g k v c).heap[b]? = w.heap[b]? := (Below.heap_setCell _ _ _ _ h).trans (setCells_other h _ _ _)
theorem put_slotS {w : World} {B a m : Nat} {T : List OM} {mx o : Int} (h : TS w B a m T mx) {x : OM} (hx : findT T o = some x) {i g k c : Nat} {s : SL} (hs : x.o.slots[i]? = some s) (hsv : x.sv = .slice (some ⟨g, 0, none⟩) k c) (v : Int) (b : Bool) :
    StS w (putW w g (i * 8) v b) B a m T (repT T o ⟨{ x.o with slots := x.o.slots.set i (setV s v b) }, x.g, x.dv, x.sv⟩) mx mx := by
  have hxm := (findT_some hx).1
  have hob := h.tab.objs x hxm
  have hnd := h.tab.nodupN hxm
  have hgb : g ∈ x.blocks := OM.mem_blocks.2 (.inr (.inr (by rw [hsv]; rfl)))
  have hfl := h.flat x hxm s (List.mem_of_getElem? hs)
  have hnx : x.g ≠ g := by
    rintro e
    unfold OM.blocks at hnd
    rw [List.nodup_cons] at hnd
    exact hnd.1 (by rw [hsv, e]; simp [Value.ownBlock])
  refine h.rep hx _ rfl rfl ?_ ⟨?_, ?_, ?_⟩ (fun b hb => .inl hb) hnd ?_ ⟨fun e => (h.bare x hxm).1 (by simpa using e), (h.bare x hxm).2⟩
  · unfold putW
    simp only [World.setCells]
    exact ((((Chg.set (S := fun b => b ∈ x.blocks) w (p := ⟨g, i * 8 + 4, none⟩) hgb _).trans (Chg.set (S := fun b => b ∈ x.blocks) _ (p := ⟨g, i * 8 + 4 + 1, none⟩) hgb _)).trans (Chg.set (S := fun b => b ∈ x.blocks) _ (p := ⟨g, i * 8 + 4 + 1 + 1, none⟩) hgb _)).trans (Chg.set (S := fun b => b ∈ x.blocks) _ (p := ⟨g, i * 8 + 4 + 1 + 1 + 1, none⟩) hgb _)).trans (Chg.set (S := fun b => b ∈ x.blocks) _ (p := ⟨g, i * 8 + 3, none⟩) hgb _)
  · exact (putW_other hnx).trans hob.blk
  · refine ownsRow_same hob.defs fun b hb => putW_other ?_
    rintro rfl
    unfold OM.blocks at hnd
    rw [List.nodup_cons, List.nodup_append] at hnd
    exact hnd.2.2.2 b (by rw [hb]; simp) b (by rw [hsv]; simp [Value.ownBlock]) rfl
  · have ho := hob.slots
    rw [hsv] at ho
    obtain ⟨A, C, e, _⟩ := own_formO ho
    injection e with e1 e2 e3
    subst e2
    have hi : i < x.o.slots.length := (List.getElem?_eq_some_iff.1 hs).1
    have h1 := slot_stored (j := 4) (u := .int .i64 0) (s' := { s with kind := 0 }) ho (by omega) hs rfl
    have h2 := slot_stored (i := i) (j := 5) (u := .int .i64 v) (s := { s with kind := 0 }) (s' := { s with kind := 0, num := v }) h1 (by omega) (by simp [hi]) rfl
    have h3 := slot_stored (i := i) (j := 6) (u := .string ⟨#[]⟩) (s := { s with kind := 0, num := v }) (s' := { s with kind := 0, num := v, text := ⟨#[]⟩ }) h2 (by omega) (by simp [hi]) rfl
    have h4 := slot_stored (i := i) (j := 7) (u := .slice none 0 0) (s := { s with kind := 0, num := v, text := ⟨#[]⟩ }) (s' := { s with kind := 0, num := v, text := ⟨#[]⟩ }) h3 (by omega) (by simp [hi]) rfl
    have h5 := slot_stored (i := i) (j := 3) (u := .bool b) (s := { s with kind := 0, num := v, text := ⟨#[]⟩ }) (s' := setV s v b) h4 (by omega) (by simp [hi]) rfl
    simp only [List.set_set] at h5
    show World.ownsRow _ B _ 8 x.sv (x.o.slots.set i (setV s v b)).length _
    rw [List.length_set, hsv]
    unfold putW
    simp only [World.setCells]
    exact h5
  · intro t ht
    rcases List.mem_or_eq_of_mem_set ht with h1 | h1
    · exact h.flat x hxm t h1
    · subst h1
      exact ⟨hfl.1, hfl.2.1, rfl, rfl⟩
section
variable {B a m : Nat} {w0 w w' : World} {l l' : List OB} {mx mx' o : Int} {K : List (Nat × Obj)} {x : OB}
theorem ls_at {T T' : List OM} {W : World} (ht : TS w B a m T mx) (hb : Below B w0 w) (hK : ∀ p ∈ K, w.heap[p.1]? = some p.2 ∧ p.1 ∉ a :: m :: blkT T) (hW : Below w.heap.size w W) (hs : StS W w' B a m T T' mx mx') (hl : obT T' = l') : LS B w0 w' a m l' mx' K :=
  ls_step (ht.keep hW) (hb.trans (hW.mono ht.baseB)) (fun p hp => ⟨(hW.block p.1 (Array.getElem?_eq_some_iff.1 (hK p hp).1).1).trans (hK p hp).1, (hK p hp).2⟩) hs hl
set_option maxRecDepth 100000 in
set_option maxHeartbeats 4000000 in
theorem put_L (h : LS B w0 w a m l mx K) (ho : I64 o) (hx : getO l o = some x) (n : ByteArray) (hbi : biB n = false) {i : Nat} {s : SL} (hi : slotI x.slots n = some i) (hs : x.slots[i]? = some s) (v : Int) :
    Calls Tryz.prog 19 #[.pointer (some ⟨a, 0, none⟩), .int .i64 o, .string n, .agg #[.int .i64 0, .int .i64 v, .string ⟨#[]⟩, .slice none 0 0]] w fun e w' => e = .returned (.int .i64 0) ∧ LS B w0 w' a m (repO l o { x with slots := x.slots.set i (setV s v false) }) mx K := by
  obtain ⟨T, ht, rfl, h0, hK⟩ := h
  obtain ⟨y, hy, rfl⟩ := findT_of_getO hx
  have hym := (findT_some hy).1
  have hob := ht.tab.objs y hym
  obtain ⟨g, k, c, hsv, hv⟩ := slotV_some hob hi
  have hgz : g < w.heap.size := (hob.slots.lt g (by rw [hsv]; rfl)).2
  have hos := hob.slots
  rw [hsv] at hos
  obtain ⟨A, C, e, _⟩ := own_formO hos
  injection e with e1 e2 e3
  subst e2
  have hil : i < y.o.slots.length := (List.getElem?_eq_some_iff.1 hs).1
  obtain ⟨cs, hg⟩ : ∃ cs, w.heap[g]? = some (.cells cs 35 (0, 0)) ∧ i * 8 + 8 ≤ cs.size := by
    rcases hos.2 with ⟨e1, _⟩ | ⟨g', cap', cur, e1, e2, e3, e4, e5, e6, e7⟩
    · cases e1
    · injection e1 with f1 f2 f3
      injection f1 with f1
      injection f1 with f1
      subst f1
      exact ⟨cur, e3, by rw [e6]; omega⟩
  have hb0 : Below w.heap.size w (w.alloc (.cells #[.int .i64 0, .int .i64 v, .string ⟨#[]⟩, .slice none 0 0] 33)) := (Below.refl _ _).alloc (Nat.le_refl _) _
  have CR := Lib.hid (ref_c (ht.tab.below hb0) ho)
  rw [ptrT_some hy] at CR
  have CB := Lib.hid (fun W => pbuiltin_c n W)
  rw [hbi] at CB
  have CF := Lib.hid (fun W (hW : Below w.heap.size w W) => find_some (ht.tab.below hW) ho n hy hi hsv)
  have CV := Lib.hid (show ∀ W, Calls Tryz.prog 58 #[.agg #[.int .i64 0, .int .i64 v, .string ⟨#[]⟩, .slice none 0 0]] W (fun e w' => e = .returned .nilIface ∧ Below W.heap.size W w') from fun W => valid_int v W)
  have CC := Lib.hid (show ∀ W, Calls Tryz.prog 59 #[.agg #[.int .i64 0, .int .i64 v, .string ⟨#[]⟩, .slice none 0 0]] W (fun e w' => e = .returned (.agg #[.int .i64 0, .int .i64 v, .string ⟨#[]⟩, .slice none 0 0]) ∧ Below W.heap.size W w') from fun W => clone_int v W)
  have HS := Lib.hid (fun W (hW : Below w.heap.size w W) => ls_at ht h0 hK hW (put_slotS (ht.keep hW) hy hs hsv v false) (obT_rep T o _))
  have HB0 := Lib.hid hb0
  have HG := Lib.hid hg
  have HGZ := Lib.hid hgz
  clear ht h0 hK hx hy hob hsv hv hos hs hi e1 e3 hb0 hg hym hbi hgz hil
  go_enter Tryz.func19, Tryz.ntmps19
  go_wp2_with fail
  refine CR.out.mono ?_
  rintro e w1 ⟨rfl, rfl⟩
  go_wp2_with fail
  refine (CB.out _).mono ?_
  rintro e w2 ⟨rfl, hb2⟩
  have HB2 := Lib.hid (HB0.out.trans (hb2.mono HB0.out.size))
  have HR2 := Lib.hid ((hb2.block w.heap.size (by simp)).trans (heap_alloc_new w _))
  clear hb2
  go_wp2_with fail
  refine (CF.out _ HB2.out).mono ?_
  rintro e w3 ⟨rfl, rfl⟩
  obtain ⟨p0, p1, p2, p3⟩ : w2.cell? ⟨w.heap.size, 0, none⟩ = some (.int .i64 0) ∧ w2.cell? ⟨w.heap.size, 1, none⟩ = some (.int .i64 v) ∧ w2.cell? ⟨w.heap.size, 2, none⟩ = some (.string ⟨#[]⟩) ∧ w2.cell? ⟨w.heap.size, 3, none⟩ = some (.slice none 0 0) := ⟨cell_of_row w2 w.heap.size 0 _ _ _ HR2.out, cell_of_row w2 w.heap.size 1 _ _ _ HR2.out, cell_of_row w2 w.heap.size 2 _ _ _ HR2.out, cell_of_row w2 w.heap.size 3 _ _ _ HR2.out⟩
  go_wp2_with fail
  refine (CV.out _).mono ?_
  rintro e w4 ⟨rfl, hb4⟩
  have HB4 := Lib.hid (HB2.out.trans (hb4.mono HB2.out.size))
  have HR4 := Lib.hid ((hb4.block w.heap.size (Array.getElem?_eq_some_iff.1 HR2.out).1).trans HR2.out)
  clear hb4 p0 p1 p2 p3
  obtain ⟨p0, p1, p2, p3⟩ : w4.cell? ⟨w.heap.size, 0, none⟩ = some (.int .i64 0) ∧ w4.cell? ⟨w.heap.size, 1, none⟩ = some (.int .i64 v) ∧ w4.cell? ⟨w.heap.size, 2, none⟩ = some (.string ⟨#[]⟩) ∧ w4.cell? ⟨w.heap.size, 3, none⟩ = some (.slice none 0 0) := ⟨cell_of_row w4 w.heap.size 0 _ _ _ HR4.out, cell_of_row w4 w.heap.size 1 _ _ _ HR4.out, cell_of_row w4 w.heap.size 2 _ _ _ HR4.out, cell_of_row w4 w.heap.size 3 _ _ _ HR4.out⟩
  go_wp2_with fail
  refine (CC.out _).mono ?_
  rintro e w5 ⟨rfl, hb5⟩
  have HB5 := Lib.hid (HB4.out.trans (hb5.mono HB4.out.size))
  have hg5 := (HB5.out.block g HGZ.out).trans HG.out.1
  have HT5 := Lib.hid (there_row (o := i * 8 + 4) (n := 4) hg5 (by have := HG.out.2; omega))
  obtain ⟨w6, hw6⟩ : ∃ w6, w6 = w5.setCells g (i * 8 + 4) [.int .i64 0, .int .i64 v, .string ⟨#[]⟩, .slice none 0 0] := ⟨_, rfl⟩
  have HW6 := Lib.hid hw6
  have hth := there_row (o := i * 8 + 3) (n := 1) hg5 (by have := HG.out.2; omega)
  have h63 := (World.there_setCells hth g (i * 8 + 4) [.int .i64 0, .int .i64 v, .string ⟨#[]⟩, .slice none 0 0]) 0 (by omega)
  rw [← hw6, Nat.add_zero] at h63
  obtain ⟨u3, hu3⟩ := Option.isSome_iff_exists.1 h63.1
  have f3 := h63.2
  clear hb5 hg5 hth h63 p0 p1 p2 p3 hw6
  go_wp2_with (refine wpList_store_mid rfl 33 (.tmp 44) (.tmp 42) rfl g (i * 8 + 4) #[.int .i64 0, .int .i64 v, .string ⟨#[]⟩, .slice none 0 0] rfl rfl HT5.out (by kernel_rfl) (by simp [Value.oneCell']) ?_
               rw [show w5.setCells g (i * 8 + 4) (#[.int .i64 0, .int .i64 v, .string ⟨#[]⟩, .slice none 0 0] : Array Value).toList = w6 from HW6.out.symm])
  go_ret
  refine ⟨rfl, ?_⟩
  have := HS.out _ HB5.out
  unfold putW at this
  rw [← HW6.out] at this
  exact this
end
end Go.Proofs.YtnphgcbknfmapaaGreatDoor
