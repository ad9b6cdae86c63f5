/- Contracts of the functions that the statement reaches, and the plain mathematics beneath: several texts joined. -/
import Derived.Test.YtnphgcbknfmapaaGreatDoorPbuAE
import Derived.Test.YtnphgcbknfmapaaGreatDoorPbuAD
import Derived.Test.YtnphgcbknfmapaaGreatDoorPbuAB
namespace Go.Proofs.YtnphgcbknfmapaaGreatDoor
open Go.RowKit Go.Lib
set_option linter.unusedVariables false

set_option maxRecDepth 100000 in
set_option maxHeartbeats 4000000 in
theorem create_so0 {w : World} {B a m : Nat} {T : List OM} {mx ow : Int} (how : ¬ ow = -1) (h : TS w B a m T mx) (hfew : T.length < 512) (hmm : mx + 1 < 1073741824) :
    Calls Tryz.prog 12 #[.pointer (some ⟨a, 0, none⟩), .int .i64 (-1), .int .i64 ow] w fun e w' => e = .returned (.tuple #[.int .i64 (mx + 1), .int .i64 0]) ∧ StS w w' B a m T (T ++ [newS mx (-1) ow w.heap.size [] (.slice none 0 0)]) mx (mx + 1) := by
  have H := Lib.hid h
  have how' : (ow == -1) = false := by simpa using how
  have hmx := h.tab.mxr
  have c0 := h.tab.c0
  have c1 := h.tab.c1
  have f1 := h.tab.fr 1
  have hln := fun ty => h.tab.len ty
  have hal := h.tab.lt a (List.mem_cons_self ..)
  have ht1 := h.tab.raiseS hmm
  have hl := (ht1.alloc (.cells #[.int .i64 (mx + 1), .int .i64 (-1), .int .i64 ow, .int .i64 (-1), .int .i64 0, .int .i64 0, .string ⟨#[]⟩, .slice none 0 0, .slice none 0 0, .slice none 0 0] 29)).look (o := -1) ⟨by omega, by omega⟩
  rw [ptrT_none h.tab.neg] at hl
  have HT1 := Lib.hid ht1
  obtain ⟨w2, hw2⟩ : ∃ w2, w2 = (w.setCell ⟨a, 1, none⟩ (.int .i64 (mx + 1))).alloc (.cells #[.int .i64 (mx + 1), .int .i64 (-1), .int .i64 ow, .int .i64 (-1), .int .i64 0, .int .i64 0, .string ⟨#[]⟩, .slice none 0 0, .slice none 0 0, .slice none 0 0] 29) := ⟨_, rfl⟩
  have HW2 := Lib.hid hw2
  have hz2w : w2.heap.size = w.heap.size + 1 := by rw [hw2]; simp [World.setCell]
  have HZ2 := Lib.hid hz2w
  have hcr : CrL w2 w2 w.heap.size mx (-1) ow [] (.slice none 0 0) := by
    refine ⟨?_, World.ownsRow_nil _ _ _ _, .refl _ _, fun _ => rfl⟩
    rw [hw2]
    have := heap_alloc_new (w.setCell ⟨a, 1, none⟩ (.int .i64 (mx + 1))) (.cells #[.int .i64 (mx + 1), .int .i64 (-1), .int .i64 ow, .int .i64 (-1), .int .i64 0, .int .i64 0, .string ⟨#[]⟩, .slice none 0 0, .slice none 0 0, .slice none 0 0] 29)
    rw [show (w.setCell ⟨a, 1, none⟩ (.int .i64 (mx + 1))).heap.size = w.heap.size from by simp [World.setCell]] at this
    rw [newS_cells how]
    exact this
  have hc2 : Chg (fun b => b = a) w w2 := by rw [hw2]; exact (Chg.set (S := fun b => b = a) w (p := ⟨a, 1, none⟩) rfl _).trans (Chg.new _ _)
  have htr : Tab w2 B a m T (mx + 1) := by rw [hw2]; exact ht1.alloc _
  have HTR := Lib.hid htr
  have HC2 := Lib.hid hc2
  have HCR := Lib.hid hcr
  clear h ht1 hw2 hz2w hcr hc2 htr
  go_enter Tryz.func12, Tryz.ntmps12
  go_wp2_with fail
  rw [← HW2.out]
  have c0' := HTR.out.c0
  have cg : w2.cell? ⟨w.heap.size, 0, none⟩ = some (.int .i64 (mx + 1)) := cell_of_row w2 w.heap.size 0 _ _ _ HCR.out.blk
  have hk1 : I64 (mx + 1) := ⟨by omega, by omega⟩
  clear hl c0 c1 f1 hln
  go_still_tail 9, (by kernel_rfl)
  change wpList _ _ _ _ _ w2.drew
  refine wpList_mapUpdate_own (a := _) (o := _) _ rfl _ _ _ 82 rfl 3 81 tkeyed tmap ptrR m T.length (.map (datT T)) rfl (HTR.out.map.drew) (by unfold maxLen; omega) (.int .i64 (mx + 1)) (.pointer (some ⟨w.heap.size, 0, none⟩)) (.int .i64 (mx + 1)) rfl rfl (tkey_of hk1) (.lit (.int .i64 (w.heap.size : Int))) [] rfl ?_
  intro w5 hown5 hgrow5
  have HS := Lib.hid (create_stepS (p := -1) (ow := ow) H.out (.inl rfl) hfew hmm HZ2.out HC2.out HTR.out HCR.out (by simp) hown5 hgrow5)
  have cg5 : w5.cell? ⟨w.heap.size, 0, none⟩ = some (.int .i64 (mx + 1)) := by
    have hml := H.out.tab.lt m (List.mem_cons_of_mem _ (List.mem_cons_self ..))
    have hb5 : w5.heap[w.heap.size]? = w2.heap[w.heap.size]? := hgrow5.block _ (by show w.heap.size < w2.heap.size; have := HZ2.out; omega) (fun e => by injection e with e; omega)
    exact cell_of_row w5 w.heap.size 0 _ _ _ (hb5.trans HCR.out.blk)
  clear hown5 hgrow5
  go_wp2_with fail
  go_ret2
  exact ⟨rfl, HS.out⟩
theorem OkT.upd {l : List OB} {mx : Int} (h : OkT l mx) (o : Int) (f : OB → OB) (hid : ∀ x, (f x).id = x.id) (hp : ∀ x, (f x).parent = x.parent) (hl : ∀ x, (f x).place = x.place) (hd : ∀ x, (f x).defs = x.defs) (hs : ∀ x, (f x).slots = x.slots) : OkT (updO l o f) mx := by
  refine ⟨h.sort.upd o _ hid, ?_, ?_, acy_keep h.acyP o _ hid hp, acy_keep h.acyL o _ hid hl, ?_, ?_, h.mx⟩
  · intro y hy
    obtain ⟨x, hx, ⟨_, rfl⟩ | ⟨_, rfl⟩⟩ := mem_updO hy
    · rw [hid]; exact h.rng x hx
    · exact h.rng _ hx
  · intro y hy
    obtain ⟨x, hx, ⟨_, rfl⟩ | ⟨_, rfl⟩⟩ := mem_updO hy
    · rw [hd, hs]; exact h.bare x hx
    · exact h.bare _ hx
  · intro y hy
    rw [hasO_upd l o _ hid]
    obtain ⟨x, hx, ⟨_, rfl⟩ | ⟨_, rfl⟩⟩ := mem_updO hy
    · rw [hp]; exact h.par x hx
    · exact h.par _ hx
  · intro y hy
    rw [hasO_upd l o _ hid]
    obtain ⟨x, hx, ⟨_, rfl⟩ | ⟨_, rfl⟩⟩ := mem_updO hy
    · rw [hl]; exact h.plc x hx
    · exact h.plc _ hx
/-- A field of an object set where it lies. -/
theorem TB.set {w : World} {B a m : Nat} {T : List OM} {mx o : Int} {x : OM} (h : TB w B a m T mx) (hx : findT T o = some x) (j : Nat) (u : Value) (f : OB → OB) (hid : ∀ y, (f y).id = y.id) (hd : ∀ y, (f y).defs = y.defs) (hs : ∀ y, (f y).slots = y.slots)
    (hc : x.cells.setIfInBounds j u = ({ x with o := f x.o } : OM).cells) (ok : OkT (updO (obT T) o f) mx) : Stp w (w.setCell ⟨x.g, j, none⟩ u) B a m T (updT T o f) mx mx := by
  have hxm := (findT_some hx).1
  refine ⟨⟨h.tab.store hx j u f hid (hd _) (hs _) hc, by rw [obT_upd]; exact ok, h.bare.upd o _⟩, Chg.set _ (List.mem_cons_of_mem _ (List.mem_cons_of_mem _ (List.mem_flatMap.2 ⟨x, hxm, OM.mem_blocks.2 (.inl rfl)⟩))) _, fun b hb => .inl (by rwa [blkT_upd] at hb)⟩
/-- The table as it stands; what the law itself laid beside it. -/
def LB (B : Nat) (w0 w : World) (a m : Nat) (l : List OB) (mx : Int) (K : List (Nat × Obj)) : Prop :=
  ∃ T, TB w B a m T mx ∧ obT T = l ∧ Below B w0 w ∧ ∀ p ∈ K, w.heap[p.1]? = some p.2 ∧ p.1 ∉ a :: m :: blkT T
section
variable {B a m : Nat} {w0 w w' : World} {l l' : List OB} {mx mx' o : Int} {K : List (Nat × Obj)} {x : OB}
theorem TB.baseB {T : List OM} (h : TB w B a m T mx) : B ≤ w.heap.size := by
  have h1 := h.tab.base a (List.mem_cons_self ..)
  have h2 := h.tab.lt a (List.mem_cons_self ..)
  omega
theorem lb_step {T T' : List OM} (ht : TB w B a m T mx) (hb : Below B w0 w) (hK : ∀ p ∈ K, w.heap[p.1]? = some p.2 ∧ p.1 ∉ a :: m :: blkT T) (hs : Stp w w' B a m T T' mx mx') (hl : obT T' = l') : LB B w0 w' a m l' mx' K := by
  refine ⟨T', hs.tb, hl, hb.trans (hs.chg.below ht.baseB fun i hi => ht.tab.base i hi), fun p hp => ?_⟩
  obtain ⟨h1, h2⟩ := hK p hp
  have hlt : p.1 < w.heap.size := (Array.getElem?_eq_some_iff.1 h1).1
  refine ⟨(hs.chg.block p.1 hlt h2).trans h1, fun hm => ?_⟩
  rcases List.mem_cons.1 hm with e | hm
  · exact h2 (by rw [e]; exact List.mem_cons_self ..)
  rcases List.mem_cons.1 hm with e | hm
  · exact h2 (by rw [e]; exact List.mem_cons_of_mem _ (List.mem_cons_self ..))
  rcases hs.new p.1 hm with e | e
  · exact h2 (List.mem_cons_of_mem _ (List.mem_cons_of_mem _ e))
  · omega
theorem LB.below (h : LB B w0 w a m l mx K) (hb : Below w.heap.size w w') : LB B w0 w' a m l mx K := by
  obtain ⟨T, ht, hl, h0, hK⟩ := h
  refine ⟨T, ht.keep hb, hl, h0.trans (hb.mono ht.baseB), fun p hp => ?_⟩
  obtain ⟨h1, h2⟩ := hK p hp
  exact ⟨(hb.block p.1 (Array.getElem?_eq_some_iff.1 h1).1).trans h1, h2⟩
/-- Something of the law's own, laid beside the table. -/
theorem LB.push (h : LB B w0 w a m l mx K) {g : Nat} {ob : Obj} (hb : Below w.heap.size w w') (hg : w.heap.size ≤ g) (hr : w'.heap[g]? = some ob) : LB B w0 w' a m l mx ((g, ob) :: K) := by
  obtain ⟨T, ht, hl, h0, hK⟩ := h
  refine ⟨T, ht.keep hb, hl, h0.trans (hb.mono ht.baseB), fun p hp => ?_⟩
  rcases List.mem_cons.1 hp with rfl | hp
  · exact ⟨hr, fun hm => by have := ht.tab.lt g hm; omega⟩
  · obtain ⟨h1, h2⟩ := hK p hp
    exact ⟨(hb.block p.1 (Array.getElem?_eq_some_iff.1 h1).1).trans h1, h2⟩
theorem LB.row {g : Nat} {ob : Obj} (h : LB B w0 w a m l mx K) (hp : (g, ob) ∈ K) : w.heap[g]? = some ob := by
  obtain ⟨T, ht, hl, h0, hK⟩ := h
  exact (hK _ hp).1
theorem LB.base (h : LB B w0 w a m l mx K) : Below B w0 w := by
  obtain ⟨T, ht, hl, h0, hK⟩ := h
  exact h0
/-- A table without properties. -/
theorem LS.bare (h : LS B w0 w a m l mx K) (hb : ∀ x ∈ l, x.defs = [] ∧ x.slots = []) : LB B w0 w a m l mx K := by
  obtain ⟨T, ht, rfl, h0, hK⟩ := h
  refine ⟨T, ⟨ht.tab, ?_, ?_⟩, rfl, h0, hK⟩
  · have hm : (obT T).map bareO = obT T := by
      conv => rhs; rw [← List.map_id (obT T)]
      apply List.map_congr_left
      intro x hx
      have := hb x hx
      obtain ⟨id, pa, ow, pl, fl, qu, nm, df, sl⟩ := x
      simp only at this
      obtain ⟨rfl, rfl⟩ := this
      rfl
    have := ht.ok
    unfold OkS at this
    rwa [hm] at this
  · intro x hx
    have h1 := hb x.o (List.mem_map.2 ⟨x, hx, rfl⟩)
    have h2 := ht.bare x hx
    exact ⟨h2.2 h1.1, h2.1 h1.2⟩
theorem createo0_L (h : LS B w0 w a m l mx K) {ow : Int} (how : ¬ ow = -1) (hfew : l.length < 512) (hmm : mx + 1 < 1073741824) :
    Calls Tryz.prog 12 #[.pointer (some ⟨a, 0, none⟩), .int .i64 (-1), .int .i64 ow] w fun e w' => e = .returned (.tuple #[.int .i64 (mx + 1), .int .i64 0]) ∧ LS B w0 w' a m (l ++ [newO mx (-1) ow []]) (mx + 1) K := by
  obtain ⟨T, ht, rfl, h0, hK⟩ := h
  refine (create_so0 how ht (by simpa [obT] using hfew) hmm).mono ?_
  rintro e w' ⟨rfl, hs⟩
  exact ⟨rfl, ls_step ht h0 hK hs (by simp [obT, newS])⟩
set_option maxRecDepth 100000 in
set_option maxHeartbeats 2000000 in
theorem move_L (h : LB B w0 w a m l mx K) {p : Int} (ho : I64 o) (hp : I64 p) {y : OB} (hx : getO l o = some x) (hy : getO l p = some y) (hpl : y.place = -1) (hne : ¬ p = o) (hpn : ¬ p = -1) (hi : o ∉ rowO l OB.place p) :
    Calls Tryz.prog 18 #[.pointer (some ⟨a, 0, none⟩), .int .i64 o, .int .i64 p] w fun e w' => e = .returned (.int .i64 0) ∧ LB B w0 w' a m (updO l o (setL p)) mx K := by
  obtain ⟨T, ht, rfl, h0, hK⟩ := h
  obtain ⟨x', hx', rfl⟩ := findT_of_getO hx
  obtain ⟨y', hy', rfl⟩ := findT_of_getO hy
  have CO := Lib.hid (has_c ht.tab ho)
  rw [hasO_of hx] at CO
  have CP := Lib.hid (has_c ht.tab hp)
  rw [hasO_of hy] at CP
  have c0 := ht.tab.c0
  have hl := ht.tab.look ho
  rw [ptrT_some hx'] at hl
  have hlp := ht.tab.look hp
  rw [ptrT_some hy'] at hlp
  have hxm := (findT_some hx').1
  have hym := (findT_some hy').1
  have y3 : w.cell? ⟨y'.g, 3, none⟩ = some (.int .i64 (-1)) := by rw [← hpl]; exact (ht.tab.objs y' hym).cell 3
  have x3 : w.cell? ⟨x'.g, 3, none⟩ = some (.int .i64 x'.o.place) := (ht.tab.objs x' hxm).cell 3
  have f3 : w.frozen? ⟨x'.g, 3, none⟩ = false := (ht.tab.objs x' hxm).free 3
  have hpb : (p == -1) = false := by simpa using hpn
  have hpo : (p == o) = false := by simpa using hne
  have HS := Lib.hid (ht.set hx' 3 (.int .i64 p) (setL p) (fun _ => rfl) (fun _ => rfl) (fun _ => rfl) rfl (ht.ok.move (.inr (hasO_of hy)) hi))
  have HL := Lib.hid (obT_upd T o (setL p))
  have HT := Lib.hid ht
  have HK := Lib.hid hK
  have H0 := Lib.hid h0
  clear ht hK h0 hx hy hx' hy' hpl hxm hym hi
  go_enter Tryz.func18, Tryz.ntmps18
  go_wp2_with fail
  refine CO.out.mono ?_
  rintro e w1 ⟨rfl, rfl⟩
  go_wp2_with fail
  refine CP.out.mono ?_
  rintro e w1 ⟨rfl, rfl⟩
  go_wp2_with fail
  refine wp_loop_rounds 2 ?_
  rw [rounds_succ]
  go_wp2_with fail
  rw [rounds_succ]
  go_wp2_with fail
  go_ret
  exact ⟨rfl, lb_step HT.out H0.out HK.out HS.out HL.out⟩
end
end Go.Proofs.YtnphgcbknfmapaaGreatDoor
namespace Go.Proofs.YtnphgcbknfmapaaGreatDoor
open Go.RowKit Go.Lib
set_option linter.unusedVariables false
set_option linter.unusedSimpArgs false

def flN : Nat → ByteArray
  | 0 => ⟨#[112, 108, 97, 121, 101, 114]⟩
  | 1 => ⟨#[112, 114, 111, 103, 114, 97, 109, 109, 101, 114]⟩
  | 2 => ⟨#[119, 105, 122, 97, 114, 100]⟩
  | 3 => ⟨#[114]⟩
  | 4 => ⟨#[119]⟩
  | _ => ⟨#[102]⟩
def flB : Nat → Int
  | 0 => 1
  | 1 => 2
  | 2 => 4
  | 3 => 8
  | 4 => 16
  | _ => 32
def setF (f : Int) (x : OB) : OB := { x with flags := f }
def setN (n : ByteArray) (x : OB) : OB := { x with name := n }
def setO (n : Int) (x : OB) : OB := { x with owner := n }
theorem six {i : Nat} (hi : i < 6) : i = 0 ∨ i = 1 ∨ i = 2 ∨ i = 3 ∨ i = 4 ∨ i = 5 := by omega
/-- A name that is none of those of a text or a number. -/
def NotNm (n : ByteArray) : Prop := (n.toList == [108, 111, 99, 97, 116, 105, 111, 110]) = false ∧ (n.toList == [99, 111, 110, 116, 101, 110, 116, 115]) = false ∧ (n.toList == [110, 97, 109, 101]) = false ∧ (n.toList == [111, 119, 110, 101, 114]) = false
theorem flN_not {i : Nat} (hi : i < 6) : NotNm (flN i) := by
  rcases six hi with rfl | rfl | rfl | rfl | rfl | rfl <;> exact ⟨by decide +kernel, by decide +kernel, by decide +kernel, by decide +kernel⟩
theorem flB_bits {i : Nat} (hi : i < 6) : Go.bits .andNot .i64 0 (flB i) = 0 ∧ Go.bits .or .i64 0 (flB i) = flB i ∧ Go.bits .and .i64 0 (flB i) = 0 ∧ Go.bits .and .i64 (flB i) (flB i) = flB i := by
  rcases six hi with rfl | rfl | rfl | rfl | rfl | rfl <;> decide
set_option maxHeartbeats 2000000 in
theorem flag_c (i : Nat) (hi : i < 6) (w : World) : Calls Tryz.prog 101 #[.string (flN i)] w fun e w' => e = .returned (.int .i64 (flB i)) ∧ w = w' := by
  rcases six hi with rfl | rfl | rfl | rfl | rfl | rfl
  all_goals
    clear hi
    simp only [flN, flB]
    go_enter Tryz.func101, Tryz.ntmps101
    go_wp2_with fail
    go_ret
    exact ⟨rfl, rfl⟩
def bI (b : Bool) : Int := if b then 1 else 0
set_option maxHeartbeats 1000000 in
theorem true_b (b : Bool) (w : World) : Calls Tryz.prog 102 #[.agg #[.int .i64 0, .int .i64 (bI b), .string ⟨#[]⟩, .slice none 0 0]] w fun e w' => e = .returned (.bool b) ∧ Below w.heap.size w w' := by
  cases b
  all_goals
    simp only [bI, if_true, if_false, Bool.false_eq_true]
    go_enter Tryz.func102, Tryz.ntmps102
    go_wp2_with fail
    go_ret
    exact ⟨rfl, (Below.refl _ _).alloc (Nat.le_refl _) _⟩
theorem updO_twice (l : List OB) (o : Int) (f g : OB → OB) (hf : ∀ x, (f x).id = x.id) : updO (updO l o f) o g = updO l o fun x => g (f x) := by
  unfold updO
  rw [List.map_map]
  apply List.map_congr_left
  intro x _
  simp only [Function.comp]
  by_cases e : (x.id == o) = true
  · rw [if_pos e, if_pos (by rw [hf]; exact e), if_pos e]
  · rw [if_neg e, if_neg e, if_neg e]
section
variable {w : World} {B a m : Nat} {T : List OM} {mx o : Int} {x : OM}
set_option maxRecDepth 100000 in
set_option maxHeartbeats 4000000 in
theorem put_flag (h : TB w B a m T mx) (hx : findT T o = some x) (hf : x.o.flags = 0) (n : ByteArray) (hn : NotNm n) (q : Int) (CF : ∀ W, Calls Tryz.prog 101 #[.string n] W fun e w' => e = .returned (.int .i64 q) ∧ W = w') (hA : Go.bits .andNot .i64 0 q = 0) (hO : Go.bits .or .i64 0 q = q) (b : Bool) :
    Calls Tryz.prog 56 #[.pointer (some ⟨a, 0, none⟩), .pointer (some ⟨x.g, 0, none⟩), .string n, .agg #[.int .i64 0, .int .i64 (bI b), .string ⟨#[]⟩, .slice none 0 0]] w fun e w' => e = .returned (.int .i64 0) ∧ ∃ T', Stp w w' B a m T T' mx mx ∧ obT T' = updO (obT T) o (setF (if b then q else 0)) := by
  have hxm := (findT_some hx).1
  have hob := h.tab.objs x hxm
  have hxz := hob.lt x.g (OM.mem_blocks.2 (.inl rfl))
  have hne : ¬ x.g = w.heap.size := by omega
  have hne2 : ¬ w.heap.size = x.g := by omega
  obtain ⟨n1, n2, n3, n4⟩ := hn
  have CFL := Lib.hid CF
  have CTR := Lib.hid (true_b b)
  have x4 : w.cell? ⟨x.g, 4, none⟩ = some (.int .i64 0) := by rw [← hf]; exact hob.cell 4
  obtain ⟨w1, hw1⟩ : ∃ w1, w1 = w.alloc (.cells #[.int .i64 0, .int .i64 (bI b), .string ⟨#[]⟩, .slice none 0 0] 33) := ⟨_, rfl⟩
  have hb1 : Below w.heap.size w w1 := by rw [hw1]; exact (Below.refl _ _).alloc (Nat.le_refl _) _
  have hr1 : w1.heap[w.heap.size]? = some (.cells #[.int .i64 0, .int .i64 (bI b), .string ⟨#[]⟩, .slice none 0 0] 33 (0, 0)) := by rw [hw1]; exact heap_alloc_new _ _
  have hx1 : w1.heap[x.g]? = some (.cells x.cells 29 (0, 0)) := (hb1.block x.g hxz).trans hob.blk
  have c4 : w1.cell? ⟨x.g, 4, none⟩ = some (.int .i64 0) := (hb1.cell (p := ⟨x.g, 4, none⟩) hxz).trans x4
  have f4 : w1.frozen? ⟨x.g, 4, none⟩ = false := frozen_of_row w1 x.g 4 _ _ hx1
  have v0 := cell_of_row w1 w.heap.size 0 _ _ _ hr1
  have v1 := cell_of_row w1 w.heap.size 1 _ _ _ hr1
  have v2 := cell_of_row w1 w.heap.size 2 _ _ _ hr1
  have v3 := cell_of_row w1 w.heap.size 3 _ _ _ hr1
  have HS1 := Lib.hid ((h.keep hb1).set hx 4 (.int .i64 0) (setF 0) (fun _ => rfl) (fun _ => rfl) (fun _ => rfl) rfl (h.ok.upd o _ (fun _ => rfl) (fun _ => rfl) (fun _ => rfl) (fun _ => rfl) (fun _ => rfl)))
  have HP1 := Lib.hid (Stp.of_below h hb1)
  have HX1 := Lib.hid hx1
  have HW1 := Lib.hid hw1
  have HX := Lib.hid hx
  have HXM := Lib.hid hxm
  clear h hx hf hob hxm hb1 hr1 x4 hxz CF hx1 hw1
  go_enter Tryz.func56, Tryz.ntmps56
  go_upto_region 19 with fail
  rw [← HW1.out]
  refine wp_region_heldTo 9 (fun W => W.cell? ⟨x.g, 4, none⟩ = some (.int .i64 0)) (by kernel_rfl) (by kernel_rfl) c4 (fun hSucc hHeld => ?_)
  refine heldTo_take (i := 0) (oi := _) (v := (.pointer (some ⟨x.g, 0, none⟩))) hSucc rfl (by kernel_rfl) (by kernel_rfl) (by kernel_rfl) (by kernel_rfl) rfl (fun _ _ _ h => h) (Or.inl ⟨by rfl, fun W hSw => ?_⟩) (by with_reducible assumption) ?_
  · (try dsimp only at hSw); go_simp
  change heldTo _ _ _ _ _ _ _ _ (Act.put _ (some 52) _) _
  simp only [Act.put, List.setIfInBounds_toArray, List.set_cons_zero, List.set_cons_succ]
  refine heldTo_take (i := 1) (oi := _) (v := (.pointer (some ⟨x.g, 0, none⟩))) hSucc rfl (by kernel_rfl) (by kernel_rfl) (by kernel_rfl) (by kernel_rfl) rfl (fun _ _ _ h => h) (Or.inl ⟨by rfl, fun W hSw => ?_⟩) (by with_reducible assumption) ?_
  · (try dsimp only at hSw); go_simp
  change heldTo _ _ _ _ _ _ _ _ (Act.put _ (some 53) _) _
  simp only [Act.put, List.setIfInBounds_toArray, List.set_cons_zero, List.set_cons_succ]
  refine heldTo_take (i := 2) (oi := _) (v := (.pointer (some ⟨x.g, 4, none⟩))) hSucc rfl (by kernel_rfl) (by kernel_rfl) (by kernel_rfl) (by kernel_rfl) rfl (fun _ _ _ h => h) (Or.inl ⟨by rfl, fun W hSw => ?_⟩) (by with_reducible assumption) ?_
  · (try dsimp only at hSw); go_simp
  change heldTo _ _ _ _ _ _ _ _ (Act.put _ (some 54) _) _
  simp only [Act.put, List.setIfInBounds_toArray, List.set_cons_zero, List.set_cons_succ]
  refine heldTo_take (i := 3) (oi := _) (v := (.int .i64 0)) hSucc rfl (by kernel_rfl) (by kernel_rfl) (by kernel_rfl) (by kernel_rfl) rfl (fun _ _ _ h => h) (Or.inl ⟨by rfl, fun W hSw => ?_⟩) (by with_reducible assumption) ?_
  · (try dsimp only at hSw); go_simp
  change heldTo _ _ _ _ _ _ _ _ (Act.put _ (some 55) _) _
  simp only [Act.put, List.setIfInBounds_toArray, List.set_cons_zero, List.set_cons_succ]
  refine heldTo_take (i := 4) (oi := _) (v := (.string n)) hSucc rfl (by kernel_rfl) (by kernel_rfl) (by kernel_rfl) (by kernel_rfl) rfl (fun _ _ _ h => h) (Or.inl ⟨by rfl, fun W hSw => ?_⟩) (by with_reducible assumption) ?_
  · (try dsimp only at hSw); go_simp
  change heldTo _ _ _ _ _ _ _ _ (Act.put _ (some 56) _) _
  simp only [Act.put, List.setIfInBounds_toArray, List.set_cons_zero, List.set_cons_succ]
  refine heldTo_one (i := 5) (o := _) (by kernel_rfl) rfl (fun K hK => ?_)
  go_simp
  go_at_call 101
  refine (CFL.out _).mono ?_
  rintro e w7 ⟨rfl, rfl⟩
  refine hK.out _ _ hHeld (fun hHeld => ?_)
  clear hK K
  refine heldTo_take (i := 6) (oi := _) (v := (.int .i64 0)) hSucc rfl (by kernel_rfl) (by kernel_rfl) (by kernel_rfl) (by kernel_rfl) rfl (fun _ _ _ h => h) (Or.inl ⟨by rfl, fun W hSw => ?_⟩) (by with_reducible assumption) ?_
  · (try dsimp only at hSw); go_simp
  change heldTo _ _ _ _ _ _ _ _ (Act.put _ (some 58) _) _
  simp only [Act.put, List.setIfInBounds_toArray, List.set_cons_zero, List.set_cons_succ]
  refine heldTo_take (i := 7) (oi := _) (v := (.pointer (some ⟨x.g, 0, none⟩))) hSucc rfl (by kernel_rfl) (by kernel_rfl) (by kernel_rfl) (by kernel_rfl) rfl (fun _ _ _ h => h) (Or.inl ⟨by rfl, fun W hSw => ?_⟩) (by with_reducible assumption) ?_
  · (try dsimp only at hSw); go_simp
  change heldTo _ _ _ _ _ _ _ _ (Act.put _ (some 59) _) _
  simp only [Act.put, List.setIfInBounds_toArray, List.set_cons_zero, List.set_cons_succ]
  refine heldTo_take (i := 8) (oi := _) (v := (.pointer (some ⟨x.g, 4, none⟩))) hSucc rfl (by kernel_rfl) (by kernel_rfl) (by kernel_rfl) (by kernel_rfl) rfl (fun _ _ _ h => h) (Or.inl ⟨by rfl, fun W hSw => ?_⟩) (by with_reducible assumption) ?_
  · (try dsimp only at hSw); go_simp
  change heldTo _ _ _ _ _ _ _ _ (Act.put _ (some 60) _) _
  simp only [Act.put, List.setIfInBounds_toArray, List.set_cons_zero, List.set_cons_succ]
  refine heldTo_last (o := _) (by kernel_rfl) rfl (fun K hK => ?_)
  go_simp
  refine hK.out _ _ ?_
  clear hK K hHeld
  refine heldTo_done (by kernel_rfl) ?_ _
  go_wp2_with fail
  refine (CTR.out _).mono ?_
  rintro e w3 ⟨rfl, hb3⟩
  obtain ⟨w2, hw2⟩ : ∃ w2, w2 = w1.setCell ⟨x.g, 4, none⟩ (.int .i64 0) := ⟨_, rfl⟩
  have hx2 : w2.heap[x.g]? = some (.cells (x.cells.setIfInBounds 4 (.int .i64 0)) 29 (0, 0)) := by rw [hw2]; exact heap_setCell_same w1 x.g 4 _ _ _ HX1.out
  rw [← hw2] at hb3 HS1
  replace hb3 : Below w2.heap.size w2 w3 := (Below.refl w2.heap.size w2).drew.trans hb3
  have hx3 := (hb3.block x.g (Array.getElem?_eq_some_iff.1 hx2).1).trans hx2
  have g4 : w3.cell? ⟨x.g, 4, none⟩ = some (.int .i64 0) := cell_of_row w3 x.g 4 _ _ _ hx3
  have fg4 : w3.frozen? ⟨x.g, 4, none⟩ = false := frozen_of_row w3 x.g 4 _ _ hx3
  have HS3 := Lib.hid ((HP1.out.trans HS1.out).behind hb3)
  clear hb3 hx2 hx3 hw2 HS1 HP1 c4 f4 v0 v1 v2 v3
  cases b with
  | false =>
    go_wp2_with fail
    go_ret
    exact ⟨rfl, _, HS3.out, obT_upd T o (setF 0)⟩
  | true =>
    have hx' : findT (updT T o (setF 0)) o = some ⟨setF 0 x.o, x.g, x.dv, x.sv⟩ := by
      rw [findT_upd T o (setF 0) (fun _ => rfl), HX.out]
      have : (x.o.id == o) = true := by simpa using (findT_some HX.out).2
      simp only [Option.map_some, this, if_true]
    have HS4 := Lib.hid ((HS3.out.trans (HS3.out.tb.set hx' 4 (.int .i64 q) (setF q) (fun _ => rfl) (fun _ => rfl) (fun _ => rfl) rfl (HS3.out.tb.ok.upd o _ (fun _ => rfl) (fun _ => rfl) (fun _ => rfl) (fun _ => rfl) (fun _ => rfl)))).behind (Below.refl _ _).drew)
    have HO4 := Lib.hid (show obT (updT (updT T o (setF 0)) o (setF q)) = updO (obT T) o (setF q) from by rw [obT_upd, obT_upd, updO_twice _ _ (setF 0) (setF q) (fun _ => rfl)]; rfl)
    clear HS3 hx'
    go_upto_region 21 with fail
    refine wp_region_heldTo 9 (fun W => W.cell? ⟨x.g, 4, none⟩ = some (.int .i64 0)) (by kernel_rfl) (by kernel_rfl) g4 (fun hSucc hHeld => ?_)
    refine heldTo_take (i := 0) (oi := _) (v := (.pointer (some ⟨x.g, 0, none⟩))) hSucc rfl (by kernel_rfl) (by kernel_rfl) (by kernel_rfl) (by kernel_rfl) rfl (fun _ _ _ h => h) (Or.inl ⟨by rfl, fun W hSw => ?_⟩) (by with_reducible assumption) ?_
    · (try dsimp only at hSw); go_simp
    change heldTo _ _ _ _ _ _ _ _ (Act.put _ (some 63) _) _
    simp only [Act.put, List.setIfInBounds_toArray, List.set_cons_zero, List.set_cons_succ]
    refine heldTo_take (i := 1) (oi := _) (v := (.pointer (some ⟨x.g, 0, none⟩))) hSucc rfl (by kernel_rfl) (by kernel_rfl) (by kernel_rfl) (by kernel_rfl) rfl (fun _ _ _ h => h) (Or.inl ⟨by rfl, fun W hSw => ?_⟩) (by with_reducible assumption) ?_
    · (try dsimp only at hSw); go_simp
    change heldTo _ _ _ _ _ _ _ _ (Act.put _ (some 64) _) _
    simp only [Act.put, List.setIfInBounds_toArray, List.set_cons_zero, List.set_cons_succ]
    refine heldTo_take (i := 2) (oi := _) (v := (.pointer (some ⟨x.g, 4, none⟩))) hSucc rfl (by kernel_rfl) (by kernel_rfl) (by kernel_rfl) (by kernel_rfl) rfl (fun _ _ _ h => h) (Or.inl ⟨by rfl, fun W hSw => ?_⟩) (by with_reducible assumption) ?_
    · (try dsimp only at hSw); go_simp
    change heldTo _ _ _ _ _ _ _ _ (Act.put _ (some 65) _) _
    simp only [Act.put, List.setIfInBounds_toArray, List.set_cons_zero, List.set_cons_succ]
    refine heldTo_take (i := 3) (oi := _) (v := (.int .i64 0)) hSucc rfl (by kernel_rfl) (by kernel_rfl) (by kernel_rfl) (by kernel_rfl) rfl (fun _ _ _ h => h) (Or.inl ⟨by rfl, fun W hSw => ?_⟩) (by with_reducible assumption) ?_
    · (try dsimp only at hSw); go_simp
    change heldTo _ _ _ _ _ _ _ _ (Act.put _ (some 66) _) _
    simp only [Act.put, List.setIfInBounds_toArray, List.set_cons_zero, List.set_cons_succ]
    refine heldTo_take (i := 4) (oi := _) (v := (.string n)) hSucc rfl (by kernel_rfl) (by kernel_rfl) (by kernel_rfl) (by kernel_rfl) rfl (fun _ _ _ h => h) (Or.inl ⟨by rfl, fun W hSw => ?_⟩) (by with_reducible assumption) ?_
    · (try dsimp only at hSw); go_simp
    change heldTo _ _ _ _ _ _ _ _ (Act.put _ (some 67) _) _
    simp only [Act.put, List.setIfInBounds_toArray, List.set_cons_zero, List.set_cons_succ]
    refine heldTo_one (i := 5) (o := _) (by kernel_rfl) rfl (fun K hK => ?_)
    go_simp
    go_at_call 101
    refine (CFL.out _).mono ?_
    rintro e w7 ⟨rfl, rfl⟩
    refine hK.out _ _ hHeld (fun hHeld => ?_)
    clear hK K
    refine heldTo_take (i := 6) (oi := _) (v := (.int .i64 q)) hSucc rfl (by kernel_rfl) (by kernel_rfl) (by kernel_rfl) (by kernel_rfl) rfl (fun _ _ _ h => h) (Or.inl ⟨by rfl, fun W hSw => ?_⟩) (by with_reducible assumption) ?_
    · (try dsimp only at hSw); go_simp
    change heldTo _ _ _ _ _ _ _ _ (Act.put _ (some 69) _) _
    simp only [Act.put, List.setIfInBounds_toArray, List.set_cons_zero, List.set_cons_succ]
    refine heldTo_take (i := 7) (oi := _) (v := (.pointer (some ⟨x.g, 0, none⟩))) hSucc rfl (by kernel_rfl) (by kernel_rfl) (by kernel_rfl) (by kernel_rfl) rfl (fun _ _ _ h => h) (Or.inl ⟨by rfl, fun W hSw => ?_⟩) (by with_reducible assumption) ?_
    · (try dsimp only at hSw); go_simp
    change heldTo _ _ _ _ _ _ _ _ (Act.put _ (some 70) _) _
    simp only [Act.put, List.setIfInBounds_toArray, List.set_cons_zero, List.set_cons_succ]
    refine heldTo_take (i := 8) (oi := _) (v := (.pointer (some ⟨x.g, 4, none⟩))) hSucc rfl (by kernel_rfl) (by kernel_rfl) (by kernel_rfl) (by kernel_rfl) rfl (fun _ _ _ h => h) (Or.inl ⟨by rfl, fun W hSw => ?_⟩) (by with_reducible assumption) ?_
    · (try dsimp only at hSw); go_simp
    change heldTo _ _ _ _ _ _ _ _ (Act.put _ (some 71) _) _
    simp only [Act.put, List.setIfInBounds_toArray, List.set_cons_zero, List.set_cons_succ]
    refine heldTo_last (o := _) (by kernel_rfl) rfl (fun K hK => ?_)
    go_simp
    refine hK.out _ _ ?_
    clear hK K hHeld
    refine heldTo_done (by kernel_rfl) ?_ _
    go_wp2_with fail
    go_ret
    exact ⟨rfl, _, HS4.out, HO4.out⟩
/-- props.Put, out of props.put, for a name that each object has. -/
theorem put_via (h : TB w B a m T mx) (ho : I64 o) (hx : findT T o = some x) (n : ByteArray) (hi : biB n = true) (k v : Int) (s : ByteArray) (c : Int) {R : World → World → Prop} (CP : ∀ W, Below w.heap.size w W → Calls Tryz.prog 56 #[.pointer (some ⟨a, 0, none⟩), .pointer (some ⟨x.g, 0, none⟩), .string n, .agg #[.int .i64 k, .int .i64 v, .string s, .slice none 0 0]] W fun e w' => e = .returned (.int .i64 c) ∧ R W w') :
    Calls Tryz.prog 19 #[.pointer (some ⟨a, 0, none⟩), .int .i64 o, .string n, .agg #[.int .i64 k, .int .i64 v, .string s, .slice none 0 0]] w fun e w' => e = .returned (.int .i64 c) ∧ ∃ W, Below w.heap.size w W ∧ R W w' := by
  have hb0 : Below w.heap.size w (w.alloc (.cells #[.int .i64 k, .int .i64 v, .string s, .slice none 0 0] 33)) := (Below.refl _ _).alloc (Nat.le_refl _) _
  have CR := Lib.hid (ref_c (h.tab.below hb0) ho)
  rw [ptrT_some hx] at CR
  have CB := Lib.hid (fun W => pbuiltin_c n W)
  rw [hi] at CB
  have CPH := Lib.hid CP
  have HB0 := Lib.hid hb0
  clear h hx hb0 CP hi
  go_enter Tryz.func19, Tryz.ntmps19
  go_wp2_with fail
  refine CR.out.mono ?_
  rintro e w1 ⟨rfl, rfl⟩
  go_wp2_with fail
  refine (CB.out _).mono ?_
  rintro e w2 ⟨rfl, hb2⟩
  have hr2 := (hb2.block w.heap.size (by simp)).trans (heap_alloc_new w _)
  have v0 := cell_of_row w2 w.heap.size 0 _ _ _ hr2
  have v1 := cell_of_row w2 w.heap.size 1 _ _ _ hr2
  have v2 := cell_of_row w2 w.heap.size 2 _ _ _ hr2
  have v3 := cell_of_row w2 w.heap.size 3 _ _ _ hr2
  have HB2 := Lib.hid (HB0.out.trans (hb2.mono HB0.out.size))
  clear hb2 hr2 CR CB
  go_wp2_with fail
  refine (CPH.out _ HB2.out).mono ?_
  rintro e w3 ⟨rfl, hr⟩
  have HR := Lib.hid hr
  clear hr
  go_wp2_with fail
  go_ret
  exact ⟨rfl, _, HB2.out, HR.out⟩
set_option maxHeartbeats 2000000 in
theorem put_name (h : TB w B a m T mx) (hx : findT T o = some x) (s : ByteArray) (hs : s.size ≤ 64) (hp : ppB s.data.toList = true) :
    Calls Tryz.prog 56 #[.pointer (some ⟨a, 0, none⟩), .pointer (some ⟨x.g, 0, none⟩), .string ⟨#[110, 97, 109, 101]⟩, .agg #[.int .i64 2, .int .i64 0, .string s, .slice none 0 0]] w fun e w' => e = .returned (.int .i64 0) ∧ ∃ T', Stp w w' B a m T T' mx mx ∧ obT T' = updO (obT T) o (setN s) := by
  have hxm := (findT_some hx).1
  have hob := h.tab.objs x hxm
  have hxz := hob.lt x.g (OM.mem_blocks.2 (.inl rfl))
  have hsi : ¬ (64 : Int) < (s.size : Int) := by omega
  have CV := Lib.hid (valid_str s (by omega) hp)
  have H := Lib.hid h
  have HX := Lib.hid hx
  have HOB := Lib.hid hob
  have HXZ := Lib.hid hxz
  clear h hx hob hxz hp
  go_enter Tryz.func56, Tryz.ntmps56
  go_wp2_with fail
  refine (CV.out _).mono ?_
  rintro e w2 ⟨rfl, hb2⟩
  have hr2 := (hb2.block w.heap.size (by simp)).trans (heap_alloc_new w _)
  have v2 := cell_of_row w2 w.heap.size 2 _ _ _ hr2
  have hbw := ((Below.refl w.heap.size w).alloc (Nat.le_refl _) (.cells #[.int .i64 2, .int .i64 0, .string s, .slice none 0 0] 33)).trans (hb2.mono (by simp))
  have hx2 := (hbw.block x.g HXZ.out).trans HOB.out.blk
  have x6 : w2.cell? ⟨x.g, 6, none⟩ = some (.string x.o.name) := cell_of_row w2 x.g 6 _ _ _ hx2
  have f6 : w2.frozen? ⟨x.g, 6, none⟩ = false := frozen_of_row w2 x.g 6 _ _ hx2
  have HS := Lib.hid ((Stp.of_below H.out hbw).trans ((H.out.keep hbw).set HX.out 6 (.string s) (setN s) (fun _ => rfl) (fun _ => rfl) (fun _ => rfl) rfl (H.out.ok.upd o _ (fun _ => rfl) (fun _ => rfl) (fun _ => rfl) (fun _ => rfl) (fun _ => rfl))))
  clear hb2 hr2 hbw hx2
  go_wp2_with fail
  go_ret
  exact ⟨rfl, _, HS.out, obT_upd T o (setN s)⟩
set_option maxHeartbeats 1000000 in
theorem put_long (x : OM) (a : Nat) (s : ByteArray) (hs : 64 < s.size) (hs2 : s.size ≤ 1000) (w : World) :
    Calls Tryz.prog 56 #[.pointer (some ⟨a, 0, none⟩), .pointer (some ⟨x.g, 0, none⟩), .string ⟨#[110, 97, 109, 101]⟩, .agg #[.int .i64 2, .int .i64 0, .string s, .slice none 0 0]] w fun e w' => e = .returned (.int .i64 13) ∧ Below w.heap.size w w' := by
  have hsi : (64 : Int) < (s.size : Int) := by omega
  go_enter Tryz.func56, Tryz.ntmps56
  go_wp2_with fail
  go_ret
  exact ⟨rfl, (Below.refl _ _).alloc (Nat.le_refl _) _⟩
set_option maxHeartbeats 1000000 in
theorem put_type (x : OM) (a : Nat) (v : Int) (w : World) :
    Calls Tryz.prog 56 #[.pointer (some ⟨a, 0, none⟩), .pointer (some ⟨x.g, 0, none⟩), .string ⟨#[110, 97, 109, 101]⟩, .agg #[.int .i64 0, .int .i64 v, .string ⟨#[]⟩, .slice none 0 0]] w fun e w' => e = .returned (.int .i64 1) ∧ Below w.heap.size w w' := by
  go_enter Tryz.func56, Tryz.ntmps56
  go_wp2_with fail
  go_ret
  exact ⟨rfl, (Below.refl _ _).alloc (Nat.le_refl _) _⟩
set_option maxHeartbeats 1000000 in
theorem put_loc (x : OM) (a : Nat) (v : Int) (w : World) :
    Calls Tryz.prog 56 #[.pointer (some ⟨a, 0, none⟩), .pointer (some ⟨x.g, 0, none⟩), .string ⟨#[108, 111, 99, 97, 116, 105, 111, 110]⟩, .agg #[.int .i64 1, .int .i64 v, .string ⟨#[]⟩, .slice none 0 0]] w fun e w' => e = .returned (.int .i64 3) ∧ Below w.heap.size w w' := by
  go_enter Tryz.func56, Tryz.ntmps56
  go_wp2_with fail
  go_ret
  exact ⟨rfl, (Below.refl _ _).alloc (Nat.le_refl _) _⟩
set_option maxHeartbeats 2000000 in
theorem put_owner (h : TB w B a m T mx) (hx : findT T o = some x) (v : Int) (h0 : 0 ≤ v) (h1 : v ≤ 1000000) (hv : hasO (obT T) v = true) :
    Calls Tryz.prog 56 #[.pointer (some ⟨a, 0, none⟩), .pointer (some ⟨x.g, 0, none⟩), .string ⟨#[111, 119, 110, 101, 114]⟩, .agg #[.int .i64 1, .int .i64 v, .string ⟨#[]⟩, .slice none 0 0]] w fun e w' => e = .returned (.int .i64 0) ∧ ∃ T', Stp w w' B a m T T' mx mx ∧ obT T' = updO (obT T) o (setO v) := by
  have hxm := (findT_some hx).1
  have hob := h.tab.objs x hxm
  have hxz := hob.lt x.g (OM.mem_blocks.2 (.inl rfl))
  have CV := Lib.hid (valid_obj v h0 h1)
  have CH := Lib.hid (fun W (hW : Below w.heap.size w W) => has_c (h.tab.below hW) (o := v) ⟨by omega, by omega⟩)
  rw [hv] at CH
  have H := Lib.hid h
  have HX := Lib.hid hx
  have HOB := Lib.hid hob
  have HXZ := Lib.hid hxz
  clear h hx hob hxz hv
  go_enter Tryz.func56, Tryz.ntmps56
  go_wp2_with fail
  refine (CV.out _).mono ?_
  rintro e w2 ⟨rfl, hb2⟩
  have hr2 := (hb2.block w.heap.size (by simp)).trans (heap_alloc_new w _)
  have v1 := cell_of_row w2 w.heap.size 1 _ _ _ hr2
  have hbw := ((Below.refl w.heap.size w).alloc (Nat.le_refl _) (.cells #[.int .i64 1, .int .i64 v, .string ⟨#[]⟩, .slice none 0 0] 33)).trans (hb2.mono (by simp))
  have HBW := Lib.hid hbw
  have hx2 := (hbw.block x.g HXZ.out).trans HOB.out.blk
  have x2 : w2.cell? ⟨x.g, 2, none⟩ = some (.int .i64 x.o.owner) := cell_of_row w2 x.g 2 _ _ _ hx2
  have f2 : w2.frozen? ⟨x.g, 2, none⟩ = false := frozen_of_row w2 x.g 2 _ _ hx2
  have HS := Lib.hid ((Stp.of_below H.out hbw).trans ((H.out.keep hbw).set HX.out 2 (.int .i64 v) (setO v) (fun _ => rfl) (fun _ => rfl) (fun _ => rfl) rfl (H.out.ok.upd o _ (fun _ => rfl) (fun _ => rfl) (fun _ => rfl) (fun _ => rfl) (fun _ => rfl))))
  clear hb2 hr2 hbw hx2
  go_wp2_with fail
  refine (CH.out _ HBW.out).mono ?_
  rintro e w3 ⟨rfl, rfl⟩
  go_wp2_with fail
  go_ret
  exact ⟨rfl, _, HS.out, obT_upd T o (setO v)⟩
set_option maxHeartbeats 2000000 in
theorem put_nobody (h : TB w B a m T mx) (x : OM) (v : Int) (h0 : 0 ≤ v) (h1 : v ≤ 1000000) (hv : hasO (obT T) v = false) :
    Calls Tryz.prog 56 #[.pointer (some ⟨a, 0, none⟩), .pointer (some ⟨x.g, 0, none⟩), .string ⟨#[111, 119, 110, 101, 114]⟩, .agg #[.int .i64 1, .int .i64 v, .string ⟨#[]⟩, .slice none 0 0]] w fun e w' => e = .returned (.int .i64 13) ∧ Below w.heap.size w w' := by
  have CV := Lib.hid (valid_obj v h0 h1)
  have CH := Lib.hid (fun W (hW : Below w.heap.size w W) => has_c (h.tab.below hW) (o := v) ⟨by omega, by omega⟩)
  rw [hv] at CH
  clear h hv
  go_enter Tryz.func56, Tryz.ntmps56
  go_wp2_with fail
  refine (CV.out _).mono ?_
  rintro e w2 ⟨rfl, hb2⟩
  have hr2 := (hb2.block w.heap.size (by simp)).trans (heap_alloc_new w _)
  have v1 := cell_of_row w2 w.heap.size 1 _ _ _ hr2
  have HBW := Lib.hid (((Below.refl w.heap.size w).alloc (Nat.le_refl _) (.cells #[.int .i64 1, .int .i64 v, .string ⟨#[]⟩, .slice none 0 0] 33)).trans (hb2.mono (by simp)))
  clear hb2 hr2
  go_wp2_with fail
  refine (CH.out _ HBW.out).mono ?_
  rintro e w3 ⟨rfl, rfl⟩
  go_wp2_with fail
  go_ret
  exact ⟨rfl, HBW.out⟩
end
end Go.Proofs.YtnphgcbknfmapaaGreatDoor
namespace Go.Proofs.YtnphgcbknfmapaaGreatDoor
open Go.RowKit Go.Lib
set_option linter.unusedVariables false

theorem Stp.below {w w' : World} {B a m : Nat} {T T' : List OM} {mx mx' : Int} (k : Stp w w' B a m T T' mx mx') (h : TB w B a m T mx) (hB : B ≤ w.heap.size) : Below B w w' := k.chg.below hB fun i hi => h.tab.base i hi
theorem oret_int {k : IntKind} {a b : Int} (h : a = b) : Ending.returned (.int k a) = .returned (.int k b) := by rw [h]
theorem otmod (n : Int) (b : Int) (hb : 0 < b) : (Int.tmod n b < 0 → n % b = Int.tmod n b + b) ∧ (¬ Int.tmod n b < 0 → n % b = Int.tmod n b) ∧ -b < Int.tmod n b ∧ Int.tmod n b < b := by
  have h0 : n % b = (Int.tmod n b) % b := by
    conv => lhs; rw [← Int.tmod_add_mul_tdiv n b]
    rw [Int.add_mul_emod_self_left]
  have ht1 : Int.tmod n b < b := Int.tmod_lt_of_pos n (by omega)
  have ht0 : -b < Int.tmod n b := by
    by_cases h : 0 ≤ n
    · have := Int.tmod_nonneg b h; omega
    · have h1 := Int.tmod_lt_of_pos (-n) hb
      rw [Int.neg_tmod] at h1; omega
  refine ⟨fun h => ?_, fun h => ?_, ht0, ht1⟩
  · rw [h0, ← Int.add_emod_right, Int.emod_eq_of_lt (by omega) (by omega)]
  · rw [h0, Int.emod_eq_of_lt (by omega) (by omega)]
theorem onumber_c (n b : Int) (w : World) (hn : I64 n) (h0 : 0 < b) (h1 : b ≤ 1000000) :
    Calls Tryz.prog 10 #[.int .i64 n, .int .i64 b] w fun e w' => e = .returned (.int .i64 (n % b)) ∧ w = w' := by
  obtain ⟨hn1, hn2⟩ := hn
  obtain ⟨he1, he2, ht0, ht1⟩ := otmod n b h0
  have hbz : (b == 0) = false := by simp; omega
  obtain ⟨r, hr⟩ : ∃ r, r = n % b := ⟨_, rfl⟩
  rw [← hr] at he1 he2 ⊢
  clear hr
  by_cases hneg : Int.tmod n b < 0
  · have hd : decide (Int.tmod n b < 0) = true := decide_eq_true hneg
    have HE := Lib.hid (he1 hneg)
    clear he1 he2
    go_enter Tryz.func10, Tryz.ntmps10
    go_wp2_with fail
    go_ret
    exact ⟨oret_int HE.out.symm, rfl⟩
  · have hd : decide (Int.tmod n b < 0) = false := decide_eq_false hneg
    have HE := Lib.hid (he2 hneg)
    clear he1 he2
    go_enter Tryz.func10, Tryz.ntmps10
    go_wp2_with fail
    go_ret
    exact ⟨oret_int HE.out.symm, rfl⟩
/-- A row of numbers that was handed in. -/
def ArgI (W : World) (A : Option Addr) (l : List Int) : Prop := (∀ x ∈ l, I64 x) ∧ (l = [] ∨ ∃ b o, A = some ⟨b, o, none⟩ ∧ b < W.heap.size ∧ ∀ (j : Nat) (x : Int), l[j]? = some x → W.cell? ⟨b, o + j, none⟩ = some (.int .i64 x))
theorem ArgI.at_ {W w : World} {A : Option Addr} {l : List Int} (h : ArgI W A l) (hb : Below W.heap.size W w) {j : Nat} {x : Int} (hj : l[j]? = some x) : I64 x ∧ ∃ b o, A = some ⟨b, o, none⟩ ∧ w.cell? ⟨b, o + j, none⟩ = some (.int .i64 x) := by
  obtain ⟨h1, h2⟩ := h
  refine ⟨h1 x (List.mem_of_getElem? hj), ?_⟩
  rcases h2 with rfl | ⟨b, o, rfl, hlt, hc⟩
  · simp at hj
  · exact ⟨b, o, rfl, (hb.cell (p := ⟨b, o + j, none⟩) hlt).trans (hc j x hj)⟩
end Go.Proofs.YtnphgcbknfmapaaGreatDoor
