/- Contracts of the functions that the statement reaches, and the plain mathematics beneath: several texts joined. -/
import Derived.Laws.ResultCell
import Derived.Deep.MidRow
import Derived.Laws.OwnMore
import Derived.Test.YtnphgcbknfmapaaDoorPnmAD
namespace Go.Proofs.YtnphgcbknfmapaaDoor
open Go.RowKit Go.Lib
set_option linter.unusedVariables false

theorem squ_add {P : Program} {f : FuncId} {args : Array Value} {w : World} {a n : Nat} {v : Value}
    (h : Calls P f args (w.drewN (a + n)) fun e w' => e = .returned v ∧ w.drewN (a + n) = w') :
    Calls P f args (w.drewN (a + n)) fun e w'' => e = .returned v ∧ ∃ m, w'' = w.drewN (a + m) :=
  h.mono fun _ _ ⟨he, hm⟩ => ⟨he, n, hm.symm⟩
theorem squ_left {P : Program} {f : FuncId} {args : Array Value} {w : World} {n : Nat} {v : Value}
    (h : Calls P f args (w.drewN n) fun e w' => e = .returned v ∧ w.drewN n = w') : Calls P f args (w.drewN n) fun e w'' => e = .returned v ∧ ∃ m, w'' = w.drewN m :=
  h.mono fun _ _ ⟨he, hm⟩ => ⟨he, n, hm.symm⟩
theorem Tab.drewN {w : World} {B a m : Nat} {T : List OM} {mx : Int} (h : Tab w B a m T mx) (k : Nat) : Tab (w.drewN k) B a m T mx := h.keep fun b _ => World.heap_drewN w k ▸ rfl
theorem sbelow_drewN {B : Nat} {w w' : World} (h : Below B w w') (n : Nat) : Below B w (w'.drewN n) := ⟨h.os, h.tape, h.output, h.size, h.block⟩
section
variable {w : World} {B a m : Nat} {T : List OM} {mx o : Int} {x : OM}
set_option maxHeartbeats 4000000 in
set_option maxRecDepth 100000 in
theorem add_n4 (h : Tab w B a m T mx) (ho : I64 o) (hx : findT T o = some x) (n : ByteArray) (ow bits v : Int) (hn : n.size ≤ 140737488351232) (hb : nmB n.data.toList = true) (hi : biB n = false) (hs : slotI x.o.slots n = none)
    {r : List Int} (hr : belowO (obT T) o = some r) (hri : ∀ x ∈ r, I64 x) (hrl : r.length ≤ 1000000) (hT : ∀ d ∈ r, ∃ y, findT T d = some y) (hex : ∃ d ∈ r, ∃ y i, findT T d = some y ∧ slotI y.o.slots n = some i) :
    Calls Tryd.prog 9 #[.pointer (some ⟨a, 0, none⟩), .int .i64 o, addV n ow bits v] w fun e w' => e = .returned (.int .i64 13) ∧ Below w.heap.size w w' := by
  have HEX := Lib.hid hex
  clear hex
  unfold addV
  have hb0 : Below w.heap.size w (w.alloc (.cells #[.string n, .int .i64 ow, .int .i64 bits, .bool false, .int .i64 0, .int .i64 v, .string ⟨#[]⟩, .slice none 0 0] 31)) := (Below.refl _ _).alloc (Nat.le_refl _) _
  have CR := Lib.hid (ref_c (h.below hb0) ho)
  rw [ptrT_some hx] at CR
  have CN := Lib.hid (fun W => oname_c n W hn)
  rw [hb] at CN
  have CB := Lib.hid (fun W => pbuiltin_c n W)
  rw [hi] at CB
  have HB0 := Lib.hid hb0
  have CS := Lib.hid (fun W (hW : Below w.heap.size w W) => slot_c ((h.below hW).objs x (findT_some hx).1) n)
  rw [slotV_none hs] at CS
  have CL := Lib.hid (fun W (hW : Below w.heap.size w W) => pbelow_c (h.below hW) ho hr hri hrl)
  have H := Lib.hid h
  have HT := Lib.hid hT
  have HRI := Lib.hid hri
  clear h hx hb hb0 hi hs hT hri
  go_enter Tryd.func9, Tryd.ntmps9
  go_wp2_with fail
  refine CR.out.mono ?_
  rintro e w1 ⟨rfl, rfl⟩
  go_wp2_with fail
  refine (CN.out _).mono ?_
  rintro e w1 ⟨rfl, rfl⟩
  go_wp2_with fail
  refine (CB.out _).mono ?_
  rintro e w1 ⟨rfl, hb1⟩
  have hb2 := HB0.out.trans (hb1.mono HB0.out.size)
  have hrw1 := (hb1.block w.heap.size (by simp)).trans (heap_alloc_new w _)
  have hq0 : w1.cell? ⟨w.heap.size, 0, none⟩ = some (.string n) := cell_of_row _ w.heap.size 0 _ _ _ hrw1
  have HB1 := Lib.hid hb2
  have HW1 := Lib.hid hrw1
  have HZ1 := Lib.hid (show w.heap.size < w1.heap.size from by have h1 : _ ≤ w1.heap.size := hb1.size; simp at h1; omega)
  clear hb1 hb2 hrw1
  go_wp2_with fail
  refine (CS.out _ HB1.out).mono ?_
  rintro e w2 ⟨rfl, rfl⟩
  go_wp2_with fail
  refine (CL.out _ HB1.out).mono ?_
  rintro e w3 ⟨V, rfl, hrow, hb3⟩
  obtain ⟨A, c, rfl, hnc, hcm, hA, hcell⟩ := own_formO hrow
  have hb4 := HB1.out.trans (hb3.mono HB1.out.size)
  have hrw3 := (hb3.block w.heap.size HZ1.out).trans HW1.out
  have hq3 : w3.cell? ⟨w.heap.size, 0, none⟩ = some (.string n) := cell_of_row _ w.heap.size 0 _ _ _ hrw3
  have HB3 := Lib.hid hb4
  have HW3 := Lib.hid hrw3
  have HCL := Lib.hid hcell
  have HRO := Lib.hid hrow
  have HZ3 := Lib.hid (show w1.heap.size ≤ w3.heap.size from hb3.size)
  have CS3 := Lib.hid (fun (k : Nat) (d : Int) (y : OM) (hy : findT T d = some y) => slot_c (((H.out.below hb4).drewN k).objs y (findT_some hy).1) n)
  have CR3 := Lib.hid (fun (k : Nat) (d : Int) (hd : I64 d) (y : OM) (hy : findT T d = some y) => (show Calls Tryd.prog 18 #[.pointer (some ⟨a, 0, none⟩), .int .i64 d] (w3.drewN k) (fun e w' => e = .returned (.pointer (some ⟨y.g, 0, none⟩)) ∧ w3.drewN k = w') from by rw [← ptrT_some hy]; exact ref_c ((H.out.below hb4).drewN k) hd))
  clear hb3 hb4 hrw3 hrow hcell hq0 CR CN CB CS CL
  unfold maxLen at hcm
  go_wp2_with fail
  go_loopg [42] r.length (fun kk iv wr => ∃ i k : Nat, iv = .int .i64 (i : Int) ∧ i + kk = r.length ∧ w3.drewN k = wr ∧ Hid (∀ j, j < i → ∀ d y, r[j]? = some d → findT T d = some y → slotI y.o.slots n = none))
  case atStart => exact ⟨0, 0, rfl, by omega, rfl, fun j hj => by omega⟩
  case round =>
    obtain ⟨i, k, rfl, hik, rfl, hq⟩ := hrel
    by_cases hi : i < r.length
    · obtain ⟨j, rfl⟩ : ∃ j, gk = j + 1 := ⟨gk - 1, by omega⟩
      obtain ⟨d, hd⟩ : ∃ d, r[i]? = some d := ⟨r[i], List.getElem?_eq_some_iff.2 ⟨hi, rfl⟩⟩
      obtain ⟨g1, rfl, hc1⟩ := HCL.out i (.int .i64 d) (by simp [intsO, hd])
      have hdm := List.mem_of_getElem? hd
      obtain ⟨y, hy⟩ := HT.out d hdm
      have KR := Lib.hid (fun k => CR3.out k d (HRI.out d hdm) y hy)
      have KS := Lib.hid (fun k => CS3.out k d y hy)
      cases hsy : slotI y.o.slots n with
      | some i2 =>
        obtain ⟨p, hp⟩ := slotV_ne ((H.out.below HB3.out).objs y (findT_some hy).1) hsy
        rw [hp] at KS
        clear hd hdm hy hsy hp hq
        go_wp2_with fail
        go_quiet ((first | (go_at_call 18; exact squ_add (KR.out _)) | (go_at_call 20; exact squ_add (KS.out _)) | (go_at_call 18; exact squ_left (KR.out _)) | (go_at_call 20; exact squ_left (KS.out _))))
        go_wp2_with fail
        go_ret
        exact ⟨rfl, sbelow_drewN (sbelow_drewN HB3.out _) _⟩
      | none =>
        rw [slotV_none hsy] at KS
        have HQ2 := Lib.hid (show ∀ j, j < i + 1 → ∀ d y, r[j]? = some d → findT T d = some y → slotI y.o.slots n = none from by
          intro j hj d' y' h1 h2
          rcases Nat.lt_or_ge j i with h3 | h3
          · exact hq.out j h3 d' y' h1 h2
          · obtain rfl : j = i := by omega
            rw [hd] at h1
            injection h1 with h1
            subst h1
            rw [hy] at h2
            injection h2 with h2
            rw [← h2]
            exact hsy)
        clear hd hdm hy hsy hq
        go_wp2_with fail
        go_quiet ((first | (go_at_call 18; exact squ_add (KR.out _)) | (go_at_call 20; exact squ_add (KS.out _)) | (go_at_call 18; exact squ_left (KR.out _)) | (go_at_call 20; exact squ_left (KS.out _))))
        go_wp2_with fail
        go_roundg j
        case measure => omega
        case rel => exact ⟨i + 1, _, by go_num, by omega, rfl, HQ2.out⟩
    · exfalso
      obtain rfl : i = r.length := by omega
      obtain ⟨d, hd, y, i2, hy, hs2⟩ := HEX.out
      obtain ⟨j, hj⟩ := List.getElem?_of_mem hd
      have := hq.out j (List.getElem?_eq_some_iff.1 hj).1 d y hj hy
      rw [hs2] at this
      cases this
end
end Go.Proofs.YtnphgcbknfmapaaDoor
namespace Go.Proofs.YtnphgcbknfmapaaDoor
open Go.RowKit Go.Lib
set_option linter.unusedVariables false

theorem ownsRow_baseN {w : World} {b b' : Nat} {e : TypeId} {size : Nat} {v : Value} {n : Nat} {xs : List Value} (h : w.ownsRow b e size v n xs) (hb : b' ≤ b) : w.ownsRow b' e size v n xs := by
  refine ⟨h.1, ?_⟩
  rcases h.2 with h1 | ⟨g, cap, cur, e1, e2, e3⟩
  · exact .inl h1
  · exact .inr ⟨g, cap, cur, e1, by omega, e3⟩
theorem Tab.nodupN {w : World} {B a m : Nat} {T : List OM} {mx : Int} (h : Tab w B a m T mx) {x : OM} (hx : x ∈ T) : x.blocks.Nodup := by
  have hs := (List.nodup_cons.1 (List.nodup_cons.1 h.sep).2).2
  obtain ⟨p, q, e⟩ := List.append_of_mem hx
  rw [e, blkT_split, List.nodup_append, List.nodup_append] at hs
  exact hs.2.1.1
/-- An object's first property, laid. -/
theorem add_slot {w wb w9 w6 : World} {B a m : Nat} {T : List OM} {mx o : Int} {x : OM} {f : SL} {g9 cap : Nat} (h : TS w B a m T mx) (hx : findT T o = some x) (hbb : Below w.heap.size w wb) (hsv : x.sv = .slice none 0 0)
    (hg : wb.grownBy w9 none) (hown : w9.ownsRow w.heap.size 31 8 (.slice (some ⟨g9, 0, none⟩) 1 cap) 1 f.cells) (hb6 : Below w9.heap.size (w9.setCell ⟨x.g, 8, none⟩ (.slice (some ⟨g9, 0, none⟩) 1 cap)) w6) (hf : FlatS f) :
    StS w w6 B a m T (repT T o ⟨{ x.o with slots := [f] }, x.g, x.dv, .slice (some ⟨g9, 0, none⟩) 1 cap⟩) mx mx := by
  have hxm := (findT_some hx).1
  have hob := h.tab.objs x hxm
  have hg9 := hown.lt g9 rfl
  have hxlt := hob.lt
  have hxg : x.g < w.heap.size := hxlt x.g (OM.mem_blocks.2 (.inl rfl))
  have hzb := hbb.size
  have hz9 := hg.size
  have hBw : B ≤ w.heap.size := by
    have h1 := h.tab.base a (List.mem_cons_self ..)
    have h2 := h.tab.lt a (List.mem_cons_self ..)
    omega
  have k9 : ∀ b, b < w.heap.size → w9.heap[b]? = w.heap[b]? := fun b hb => (hg.block b (by omega) (by simp)).trans (hbb.block b hb)
  have k6 : ∀ b, b < w9.heap.size → b ≠ x.g → w6.heap[b]? = w9.heap[b]? := fun b hb hn => (hb6.block b hb).trans (Below.heap_setCell _ _ _ _ hn)
  have hx9 : x.g < w9.heap.size := by omega
  have hne9 : g9 ≠ x.g := by omega
  have hb6x : w6.heap[x.g]? = _ := hb6.block x.g hx9
  refine h.rep hx _ rfl rfl ?_ ⟨?_, ?_, ?_⟩ ?_ ?_ (by intro s hs; rw [List.mem_singleton] at hs; rw [hs]; exact hf) ⟨fun e => absurd e (by simp), (h.bare x hxm).2⟩
  · refine ⟨?_, ?_, ?_, ?_, ?_⟩
    · exact (hb6.os.trans hg.os).trans hbb.os
    · exact (hb6.tape.trans hg.tape).trans hbb.tape
    · exact (hb6.output.trans hg.output).trans hbb.output
    · have := hb6.size; simp [World.setCell] at this; omega
    · intro k hk hn
      rw [k6 k (by omega) (fun e => hn (OM.mem_blocks.2 (.inl e)))]
      exact k9 k hk
  · show w6.heap[x.g]? = _
    rw [hb6x, heap_setCell_same w9 x.g 8 _ _ _ ((k9 x.g hxg).trans hob.blk)]
    rfl
  · refine ownsRow_same hob.defs fun b hb => ?_
    have hbx := hxlt b (OM.mem_blocks.2 (.inr (.inl hb)))
    have hne : b ≠ x.g := by
      rintro rfl
      have := h.tab.nodupN hxm
      unfold OM.blocks at this
      rw [List.nodup_cons] at this
      exact this.1 (by simp [hb])
    rw [k6 b (by omega) hne]
    exact k9 b hbx
  · have : [f].flatMap SL.cells = f.cells := by simp
    show w6.ownsRow B _ 8 _ 1 ([f].flatMap SL.cells)
    rw [this]
    exact ownsRow_baseN (ownsRow_same hown fun b hb => by
      injection hb with hb
      subst hb
      exact k6 _ hg9.2 hne9) hBw
  · intro b hb
    rcases OM.mem_blocks.1 hb with h1 | h1 | h1
    · exact .inl (OM.mem_blocks.2 (.inl h1))
    · exact .inl (OM.mem_blocks.2 (.inr (.inl h1)))
    · injection h1 with h1
      rw [← h1]
      exact .inr hg9.1
  · have h0 := h.tab.nodupN hxm
    unfold OM.blocks at h0 ⊢
    rw [hsv, show (Value.slice none 0 0).ownBlock = none from rfl, Option.toList_none, List.append_nil] at h0
    rw [show (Value.slice (some ⟨g9, 0, none⟩) 1 cap).ownBlock = some g9 from rfl, Option.toList_some]
    rw [List.nodup_cons] at h0
    rw [List.nodup_cons, List.nodup_append]
    refine ⟨?_, h0.2, by simp, ?_⟩
    · intro e
      rcases List.mem_append.1 e with e | e
      · exact h0.1 e
      · rw [List.mem_singleton] at e
        exact hne9 e.symm
    · intro b hb c hc e
      rw [List.mem_singleton] at hc
      have := hxlt b (OM.mem_blocks.2 (.inr (.inl (by simpa using hb))))
      omega
theorem slot_one (f : SL) : (#[.string f.name, .int .i64 f.owner, .int .i64 f.bits, .bool f.clear, .int .i64 f.kind, .int .i64 f.num, .string f.text, .slice none 0 0] : Array Value).all (·.oneCell') = true := by simp [Value.oneCell']
theorem sbelow_setRow {B g : Nat} {w w' : World} (h : Below B w w') (hg : B ≤ g) (cs : Array Value) : Below B w (w'.setRow g cs) :=
  ⟨h.os, h.tape, h.output, by simpa [World.setRow] using h.size, fun k hk => (setRow_other w' g k cs (by omega)).trans (h.block k hk)⟩
set_option maxHeartbeats 1000000 in
theorem pfresh_c (s : SL) (ow : Int) (w : World) (h0 : 0 ≤ s.bits) (h1 : s.bits ≤ 7) :
    Calls Tryd.prog 25 #[s.val, .int .i64 ow] w fun e w' => e = .returned (freshO s ow).val ∧ Below w.heap.size w w' := by
  have C := Lib.hid (fun W => fresh_c s ow W h0 h1)
  generalize freshO s ow = f at C ⊢
  unfold SL.val at C ⊢
  go_enter Tryd.func25, Tryd.ntmps25
  go_wp2_with fail
  refine (C.out _).mono ?_
  rintro e w' ⟨rfl, hb⟩
  have hz : w'.heap[w.heap.size + 1]? = some (.cells #[.string ⟨#[]⟩, .int .i64 0, .int .i64 0, .bool false, .int .i64 0, .int .i64 0, .string ⟨#[]⟩, .slice none 0 0] 31 (0, 0)) := (hb.block (w.heap.size + 1) (by simp)).trans (heap_alloc2_new _ _ _)
  have hbw : Below w.heap.size w w' := (((Below.refl _ _).alloc (Nat.le_refl _) _).alloc (by simp) _).trans (hb.mono (by simp; omega))
  have HZ := Lib.hid hz
  have HROW := Lib.hid (setRow_heap w' (w.heap.size + 1) _ #[.string f.name, .int .i64 f.owner, .int .i64 f.bits, .bool f.clear, .int .i64 f.kind, .int .i64 f.num, .string f.text, .slice none 0 0] _ _ hz)
  have HBR := Lib.hid (sbelow_setRow hbw (g := w.heap.size + 1) (Nat.le_succ _) #[.string f.name, .int .i64 f.owner, .int .i64 f.bits, .bool f.clear, .int .i64 f.kind, .int .i64 f.num, .string f.text, .slice none 0 0])
  clear hb hz hbw
  go_wp2_with (refine wpList_store_row rfl 31 (.tmp 4) (.tmp 7) rfl (w.heap.size + 1) #[.string f.name, .int .i64 f.owner, .int .i64 f.bits, .bool f.clear, .int .i64 f.kind, .int .i64 f.num, .string f.text, .slice none 0 0] rfl rfl _ _ HZ.out (by kernel_rfl) rfl (slot_one f) ?_)
  exact bodyPost_ret (results_cell_row (P := Tryd.prog) rfl _ _ (w.heap.size + 1) _ _ _ _ rfl HROW.out Tryd.underlying31 rfl (by kernel_rfl)) rfl ⟨rfl, HBR.out⟩
end Go.Proofs.YtnphgcbknfmapaaDoor
namespace Go.Proofs.YtnphgcbknfmapaaDoor
open Go.RowKit Go.Lib
set_option linter.unusedVariables false

def layO (l : List OB) (d : Int) (f : SL) : List OB := updO l d fun y => { y with slots := [f] }
def layAll (l : List OB) (ps : List (Int × SL)) : List OB := ps.foldl (fun l p => layO l p.1 p.2) l
theorem layAll_snoc (l : List OB) (ps : List (Int × SL)) (d : Int) (f : SL) : layAll l (ps ++ [(d, f)]) = layO (layAll l ps) d f := by
  unfold layAll
  rw [List.foldl_append]
  rfl
theorem rep_lay {l : List OB} (hs : SortO l) {d : Int} {x : OB} (hx : getO l d = some x) (f : SL) : repO l d { x with slots := [f] } = layO l d f := by
  unfold repO layO updO
  apply List.map_congr_left
  intro y hy
  by_cases e : y.id = d
  · have b : (y.id == d) = true := by simpa using e
    have h2 := getO_of_mem hs hy
    rw [e, hx] at h2
    injection h2 with h2
    rw [b, if_pos rfl, if_pos rfl, h2]
  · have b : (y.id == d) = false := by simpa using e
    rw [b]
    rfl
theorem findT_rep_ne {T : List OM} {d k : Int} {x' : OM} (hid : x'.o.id = d) (h : k ≠ d) : findT (repT T d x') k = findT T k := by
  unfold findT repT
  induction T with
  | nil => rfl
  | cons y r ih =>
    rw [List.map_cons, List.find?_cons, List.find?_cons, ih]
    by_cases e : y.o.id = d
    · have b1 : (y.o.id == d) = true := by simpa using e
      have b2 : (x'.o.id == k) = false := by simp; omega
      have b3 : (y.o.id == k) = false := by simp; omega
      simp only [b1, if_true, b2, b3]
    · have b1 : (y.o.id == d) = false := by simpa using e
      simp only [b1, if_false, Bool.false_eq_true]
theorem findT_rep_eq {T : List OM} {d : Int} {x x' : OM} (hid : x'.o.id = d) (h : findT T d = some x) : findT (repT T d x') d = some x' := by
  unfold findT at h ⊢
  unfold repT
  induction T with
  | nil => cases h
  | cons y r ih =>
    rw [List.find?_cons] at h
    rw [List.map_cons, List.find?_cons]
    by_cases e : y.o.id = d
    · have b1 : (y.o.id == d) = true := by simpa using e
      have b2 : (x'.o.id == d) = true := by simpa using hid
      simp only [b1, if_true, b2]
    · have b1 : (y.o.id == d) = false := by simpa using e
      rw [b1] at h
      simp only [b1, if_false, Bool.false_eq_true]
      exact ih h
/-- What a round of Add leaves ahead of the sort: one property laid. -/
def LyR (wr : World) (y : OM) (f : SL) (wx : World) : Prop :=
  ∃ g9 cap wb w9, Below wr.heap.size wr wb ∧ wb.grownBy w9 none ∧ w9.ownsRow wr.heap.size 31 8 (.slice (some ⟨g9, 0, none⟩) 1 cap) 1 f.cells ∧ wx = w9.setCell ⟨y.g, 8, none⟩ (.slice (some ⟨g9, 0, none⟩) 1 cap)
theorem lay_row {wr wb w9 : World} {y : OM} {B g9 cap : Nat} (hob : ObjAt wr B y) (hbb : Below wr.heap.size wr wb) (hg : wb.grownBy w9 none) :
    (w9.setCell ⟨y.g, 8, none⟩ (.slice (some ⟨g9, 0, none⟩) 1 cap)).heap[y.g]? = some (.cells (y.cells.setIfInBounds 8 (.slice (some ⟨g9, 0, none⟩) 1 cap)) 52 (0, 0)) := by
  have hxg : y.g < wr.heap.size := hob.lt y.g (OM.mem_blocks.2 (.inl rfl))
  have hzb := hbb.size
  exact heap_setCell_same w9 y.g 8 _ _ _ (((hg.block y.g (by omega) (by simp)).trans (hbb.block y.g hxg)).trans hob.blk)
/-- How far the properties are laid. -/
structure LyI (w6 wr : World) (B a m : Nat) (T1 Tk : List OM) (mx : Int) (r : List Int) (fs : List SL) (i : Nat) : Prop where
  st : StS w6 wr B a m T1 Tk mx mx
  ob : obT Tk = layAll (obT T1) ((r.zip fs).take i)
  keep : ∀ j, i ≤ j → ∀ d, r[j]? = some d → findT Tk d = findT T1 d
  laid : ∀ k, k < i → ∀ d f, r[k]? = some d → fs[k]? = some f → ∃ y, findT Tk d = some y ∧ y.o.slots = [f]
theorem LyI.start {w6 : World} {B a m : Nat} {T1 : List OM} {mx : Int} {r : List Int} {fs : List SL} (h : TS w6 B a m T1 mx) : LyI w6 w6 B a m T1 T1 mx r fs 0 :=
  ⟨.refl h, rfl, fun _ _ _ _ => rfl, fun k hk => by omega⟩
theorem LyI.next {w6 wr wb w9 : World} {B a m : Nat} {T1 Tk : List OM} {mx : Int} {r : List Int} {fs : List SL} {i g9 cap : Nat} (h : LyI w6 wr B a m T1 Tk mx r fs i) (hn : r.Nodup) {d : Int} (hd : r[i]? = some d) {f : SL} (hf : fs[i]? = some f) {y : OM} (hy : findT Tk d = some y)
    (hsv : y.sv = .slice none 0 0) (hfl : FlatS f) (hbb : Below wr.heap.size wr wb) (hg : wb.grownBy w9 none) (hown : w9.ownsRow wr.heap.size 31 8 (.slice (some ⟨g9, 0, none⟩) 1 cap) 1 f.cells) :
    ∃ Tk', LyI w6 (w9.setCell ⟨y.g, 8, none⟩ (.slice (some ⟨g9, 0, none⟩) 1 cap)) B a m T1 Tk' mx r fs (i + 1) := by
  have hst := add_slot h.st.ts hy hbb hsv hg hown (by rw [show w9.heap.size = (w9.setCell ⟨y.g, 8, none⟩ (.slice (some ⟨g9, 0, none⟩) 1 cap)).heap.size from by simp [World.setCell]]; exact Below.refl _ _) hfl
  have hyo := (findT_some hy).2
  have hz : (r.zip fs)[i]? = some (d, f) := by rw [List.getElem?_zip_eq_some]; exact ⟨hd, hf⟩
  have hne : ∀ k e, k ≠ i → r[k]? = some e → e ≠ d := by
    rintro k e hk he rfl
    have h1 := List.getElem?_eq_some_iff.1 he
    have h2 := List.getElem?_eq_some_iff.1 hd
    exact hk ((List.getElem_inj (h₀ := h1.1) (h₁ := h2.1) hn).1 (h1.2.trans h2.2.symm))
  refine ⟨_, h.st.trans hst, ?_, ?_, ?_⟩
  · rw [obT_rep, rep_lay h.st.ts.tab.sort (by rw [getO_obT, hy]; rfl), List.take_add_one, hz, Option.toList_some, layAll_snoc, h.ob]
  · intro j hj e he
    refine (findT_rep_ne ?_ (hne j e (by omega) he)).trans (h.keep j (by omega) e he)
    exact hyo
  · intro k hk e f' he hf'
    by_cases hki : k = i
    · subst hki
      rw [hd] at he
      rw [hf] at hf'
      injection he with he
      injection hf' with hf'
      subst he
      subst hf'
      exact ⟨_, findT_rep_eq hyo hy, rfl⟩
    · obtain ⟨y', h1, h2⟩ := h.laid k (by omega) e f' he hf'
      refine ⟨y', (findT_rep_ne ?_ (hne k e hki he)).trans h1, h2⟩
      exact hyo
end Go.Proofs.YtnphgcbknfmapaaDoor
namespace Go.Proofs.YtnphgcbknfmapaaDoor
open Go.RowKit Go.Lib
set_option linter.unusedVariables false

theorem results_rowP {P : Program} {fn : Func} {p u : Tmp} {ty : TypeId} (h : fn.results = #[.cell p ty, .tmp u]) (tmps : Array Value) (w : World) (g : Nat) (t : TypeId) (cs : Array Value) (fr : Nat × Nat) (d : TypeDesc)
    (hp : tmps.getD p undef = .pointer (some ⟨g, 0, none⟩)) (hg : w.heap[g]? = some (.cells cs t fr))
    (hu : P.underlying ty = some d) (hd : (match d with | .struct _ | .array _ _ => true | _ => false) = true) (hi : (P.info? ty).map (·.size) = some cs.size) :
    (results fn tmps).run P w = .ok (.tuple #[.agg cs, tmps.getD u undef]) w := by
  rw [results_cell_tmp h, hp]
  simp [asAddr, run_loadVar_row w g t ty cs fr d hg hu hd hi, Result.andThen]
/-- The slot of a name. -/
def slO (y : OB) (n : ByteArray) : Option SL := (slotI y.slots n).bind fun i => y.slots[i]?
/-- The slot that tells a property's value, up a row of objects; none: there is none. -/
def gvO (l : List OB) (n : ByteArray) : List Int → Option SL
  | [] => none
  | d :: r => match (getO l d).bind fun y => slO y n with
    | none => none
    | some s => if s.clear then gvO l n r else some s
/-- What Get answers. -/
def gvV : Option SL → Value
  | some s => .tuple #[.agg #[.int .i64 0, .int .i64 s.num, .string ⟨#[]⟩, .slice none 0 0], .int .i64 0]
  | none => .tuple #[.agg #[.int .i64 0, .int .i64 0, .string ⟨#[]⟩, .slice none 0 0], .int .i64 4]
theorem abv_has (l : List OB) : ∀ (n : Nat) (o d : Int), d ∈ abvO l n o → ∃ x, getO l d = some x
  | 0, o, d, h => by simp [abvO] at h
  | n + 1, o, d, h => by
    rw [abvO] at h
    cases hg : getO l o with
    | none => rw [hg] at h; cases h
    | some x =>
      rw [hg] at h
      rcases List.mem_cons.1 h with rfl | h
      · exact ⟨x, by rw [getO_id hg]; exact hg⟩
      · exact abv_has l n x.parent d h
theorem findT_of_getO {T : List OM} {d : Int} {x : OB} (h : getO (obT T) d = some x) : ∃ y, findT T d = some y ∧ y.o = x := by
  rw [getO_obT] at h
  cases hf : findT T d with
  | none => rw [hf] at h; cases h
  | some y => rw [hf] at h; injection h with h; exact ⟨y, rfl, h⟩
theorem slotI_at {ss : List SL} {n : ByteArray} {i : Nat} (h : slotI ss n = some i) : ∃ s, ss[i]? = some s := by
  obtain ⟨⟨s, hs, _⟩, _⟩ := slotI_some h
  exact ⟨s, hs⟩
set_option maxRecDepth 100000 in
set_option maxHeartbeats 4000000 in
theorem get_l {w : World} {B a m : Nat} {T : List OM} {mx o : Int} (h : TS w B a m T mx) (ho : I64 o) {x : OM} (hx : findT T o = some x) (hpi : ParI T) (n : ByteArray) (hi : biB n = false) {q : Option SL} (hq : gvO (obT T) n (aboveO (obT T) o) = q) :
    Calls Tryd.prog 14 #[.pointer (some ⟨a, 0, none⟩), .int .i64 o, .string n] w fun e w' => e = .returned (gvV q) ∧ Below w.heap.size w w' := by
  have HB0 := Lib.hid ((Below.refl w.heap.size w).alloc (Nat.le_refl _) (.cells #[.int .i64 0, .int .i64 0, .string ⟨#[]⟩, .slice none 0 0] 29))
  have CR := Lib.hid (ref_c (h.tab.below HB0.out) ho)
  rw [ptrT_some hx] at CR
  have CB := Lib.hid (fun W => pbuiltin_c n W)
  rw [hi] at CB
  have CA := Lib.hid (fun W (hW : Below w.heap.size w W) => above_c (h.tab.below hW) ho hpi)
  obtain ⟨r, hr⟩ : ∃ r, r = aboveO (obT T) o := ⟨_, rfl⟩
  have hrm : ∀ d ∈ r, ∃ x, getO (obT T) d = some x := fun d hd => abv_has _ _ _ _ (by rw [hr] at hd; exact hd)
  have hrl : r.length ≤ 1000000 := by
    have h1 := abv_len (obT T) ((obT T).length + 1) o
    have h2 : (obT T).length = T.length := by simp [obT]
    have h3 := h.tab.few
    rw [hr]
    unfold aboveO
    omega
  rw [← hr] at hq CA
  have H := Lib.hid h
  have HQ := Lib.hid hq
  have HRM := Lib.hid hrm
  clear h hx hi hq hrm hr hpi
  go_enter Tryd.func14, Tryd.ntmps14
  go_wp2_with fail
  refine CR.out.mono ?_
  rintro e w1 ⟨rfl, rfl⟩
  go_wp2_with fail
  refine (CB.out _).mono ?_
  rintro e w1 ⟨rfl, hb1⟩
  have HB1 := Lib.hid (HB0.out.trans (hb1.mono HB0.out.size))
  have HW1 := Lib.hid ((hb1.block w.heap.size (by simp)).trans (heap_alloc_new w _))
  have HZ1 := Lib.hid (show w.heap.size < w1.heap.size from by have h1 : _ ≤ w1.heap.size := hb1.size; simp at h1; omega)
  clear hb1
  go_wp2_with fail
  refine (CA.out _ HB1.out).mono ?_
  rintro e w3 ⟨V, rfl, hrow, hb3⟩
  obtain ⟨A, c, rfl, hnc, hcm, hA, hcell⟩ := own_formO hrow
  have HB3 := Lib.hid (HB1.out.trans (hb3.mono HB1.out.size))
  have HW3 := Lib.hid ((hb3.block w.heap.size HZ1.out).trans HW1.out)
  have HCL := Lib.hid hcell
  have HZ3 := Lib.hid (show w.heap.size < w3.heap.size from by have := HZ1.out; have := hb3.size; omega)
  have HT3 := Lib.hid (H.out.tab.below HB3.out)
  clear hb3 hrow hcell CR CB CA
  unfold maxLen at hcm
  go_wp2_with fail
  go_loopg [30] r.length (fun kk iv wr => ∃ i : Nat, iv = .int .i64 (i : Int) ∧ i + kk = r.length ∧ w3 = wr ∧ Hid (gvO (obT T) n (r.drop i) = q))
  case atStart => exact ⟨0, rfl, by omega, rfl, by rw [List.drop_zero]; exact HQ.out⟩
  case round =>
    obtain ⟨i, rfl, hik, rfl, hgq⟩ := hrel
    by_cases hi : i < r.length
    · obtain ⟨j, rfl⟩ : ∃ j, gk = j + 1 := ⟨gk - 1, by omega⟩
      obtain ⟨d, hd⟩ : ∃ d, r[i]? = some d := ⟨r[i], List.getElem?_eq_some_iff.2 ⟨hi, rfl⟩⟩
      obtain ⟨g1, rfl, hc1⟩ := HCL.out i (.int .i64 d) (by simp [intsO, hd])
      obtain ⟨xo, hxo⟩ := HRM.out d (List.mem_of_getElem? hd)
      obtain ⟨y, hy, hyo⟩ := findT_of_getO hxo
      have hym := (findT_some hy).1
      have hdI : I64 d := by
        have h1 := H.out.tab.rng y hym
        have h2 := H.out.tab.mxr
        have h3 := (findT_some hy).2
        exact ⟨by omega, by omega⟩
      have hob := HT3.out.objs y hym
      have KR := Lib.hid (ref_c HT3.out hdI)
      rw [ptrT_some hy] at KR
      have KS := Lib.hid (slot_c hob n)
      have hgq' := hgq.out
      rw [show r.drop i = d :: r.drop (i + 1) from by rw [List.drop_eq_getElem_cons hi]; congr 1; have := List.getElem?_eq_some_iff.1 hd; exact this.2, gvO, hxo, Option.bind_some, ← hyo] at hgq'
      cases hsi : slotI y.o.slots n with
      | none =>
        rw [slotV_none hsi] at KS
        have hqn : q = none := by
          unfold slO at hgq'
          rw [hsi] at hgq'
          exact hgq'.symm
        subst hqn
        have HROW := Lib.hid (setRow_heap w3 w.heap.size _ #[.int .i64 0, .int .i64 0, .string ⟨#[]⟩, .slice none 0 0] _ _ HW3.out)
        have HBR := Lib.hid (sbelow_setRow HB3.out (g := w.heap.size) (Nat.le_refl _) #[.int .i64 0, .int .i64 0, .string ⟨#[]⟩, .slice none 0 0])
        clear hgq hgq' hd hxo hy hyo hym hob hsi
        go_wp2_with fail
        refine KR.out.mono ?_
        rintro e w7 ⟨rfl, rfl⟩
        go_wp2_with fail
        refine KS.out.mono ?_
        rintro e w7 ⟨rfl, rfl⟩
        go_wp2_with (refine wpList_store_row rfl 29 (.tmp 6) (.tmp 52) rfl w.heap.size #[.int .i64 0, .int .i64 0, .string ⟨#[]⟩, .slice none 0 0] rfl rfl _ _ HW3.out (by kernel_rfl) rfl (by simp [Value.oneCell']) ?_)
        exact bodyPost_ret (results_rowP (P := Tryd.prog) rfl _ _ w.heap.size _ _ _ _ rfl HROW.out Tryd.underlying29 rfl (by kernel_rfl)) rfl ⟨rfl, HBR.out⟩
      | some k =>
        obtain ⟨s, hs⟩ := slotI_at hsi
        obtain ⟨g2, k2, c2, hsv, hv⟩ := slotV_some hob hsi
        rw [hv] at KS
        have hfl := H.out.flat y hym s (List.mem_of_getElem? hs)
        obtain ⟨A2, C2, hsvA, _, _, _, hcell2⟩ := own_formO hob.slots
        have hc2 : ∀ j, j < 8 → ∀ u, s.cells[j]? = some u → w3.cell? ⟨g2, k * 8 + j, none⟩ = some u := by
          intro j hj u hu
          obtain ⟨g3, e3, hc⟩ := hcell2 (k * 8 + j) u (by rw [slCells_at _ _ _ j hs hj]; exact hu)
          rw [hsvA, e3] at hsv
          injection hsv with e4 _ _
          injection e4 with e4
          injection e4 with e4 _ _
          subst e4
          exact hc
        have u3 := hc2 3 (by omega) _ rfl
        have u4 := hc2 4 (by omega) _ rfl
        have u5 := hc2 5 (by omega) _ rfl
        have u6 := hc2 6 (by omega) _ rfl
        have u7 := hc2 7 (by omega) _ rfl
        rw [hfl.2.2.1] at u4
        rw [hfl.2.2.2] at u6
        unfold slO at hgq'
        rw [hsi, Option.bind_some, hs] at hgq'
        dsimp only at hgq'
        cases hcl : s.clear with
        | true =>
          rw [hcl] at u3 hgq'
          have HG := Lib.hid (show gvO (obT T) n (r.drop (i + 1)) = q from hgq')
          clear hgq hgq' hd hxo hy hyo hym hob hsi hs hsv hv hfl hsvA hcell2 hc2 hcl u4 u5 u6 u7
          go_wp2_with fail
          refine KR.out.mono ?_
          rintro e w7 ⟨rfl, rfl⟩
          go_wp2_with fail
          refine KS.out.mono ?_
          rintro e w7 ⟨rfl, rfl⟩
          go_wp2_with fail
          go_roundg j
          case measure => omega
          case rel => exact ⟨i + 1, by go_num, by omega, rfl, HG.out⟩
        | false =>
          rw [hcl] at u3 hgq'
          have hqs : q = some s := by simpa using hgq'.symm
          subst hqs
          have CC := Lib.hid (show ∀ W, Calls Tryd.prog 24 #[.agg #[.int .i64 0, .int .i64 s.num, .string ⟨#[]⟩, .slice none 0 0]] W (fun e w' => e = .returned (.agg #[.int .i64 0, .int .i64 s.num, .string ⟨#[]⟩, .slice none 0 0]) ∧ Below W.heap.size W w') from fun W => clone_int s.num W)
          clear hgq hgq' hd hxo hy hyo hym hob hsi hs hsv hv hfl hsvA hcell2 hc2 hcl
          go_wp2_with fail
          refine KR.out.mono ?_
          rintro e w7 ⟨rfl, rfl⟩
          go_wp2_with fail
          refine KS.out.mono ?_
          rintro e w7 ⟨rfl, rfl⟩
          go_wp2_with fail
          refine (CC.out _).mono ?_
          rintro e w7 ⟨rfl, hb7⟩
          have HW7 := Lib.hid ((hb7.block w.heap.size HZ3.out).trans HW3.out)
          have HB7 := Lib.hid (HB3.out.trans (hb7.mono HB3.out.size))
          have HROW := Lib.hid (setRow_heap w7 w.heap.size _ #[.int .i64 0, .int .i64 s.num, .string ⟨#[]⟩, .slice none 0 0] _ _ HW7.out)
          have HBR := Lib.hid (sbelow_setRow HB7.out (g := w.heap.size) (Nat.le_refl _) #[.int .i64 0, .int .i64 s.num, .string ⟨#[]⟩, .slice none 0 0])
          clear hb7
          go_wp2_with (refine wpList_store_row rfl 29 (.tmp 6) (.tmp 50) rfl w.heap.size #[.int .i64 0, .int .i64 s.num, .string ⟨#[]⟩, .slice none 0 0] rfl rfl _ _ HW7.out (by kernel_rfl) rfl (by simp [Value.oneCell']) ?_)
          exact bodyPost_ret (results_rowP (P := Tryd.prog) rfl _ _ w.heap.size _ _ _ _ rfl HROW.out Tryd.underlying29 rfl (by kernel_rfl)) rfl ⟨rfl, HBR.out⟩
    · obtain rfl : i = r.length := by omega
      have hqn : q = none := by
        have := hgq.out
        rw [List.drop_length] at this
        exact this.symm
      subst hqn
      have HROW := Lib.hid (setRow_heap w3 w.heap.size _ #[.int .i64 0, .int .i64 0, .string ⟨#[]⟩, .slice none 0 0] _ _ HW3.out)
      have HBR := Lib.hid (sbelow_setRow HB3.out (g := w.heap.size) (Nat.le_refl _) #[.int .i64 0, .int .i64 0, .string ⟨#[]⟩, .slice none 0 0])
      clear hgq
      go_wp2_with (refine wpList_store_row rfl 29 (.tmp 6) (.tmp 52) rfl w.heap.size #[.int .i64 0, .int .i64 0, .string ⟨#[]⟩, .slice none 0 0] rfl rfl _ _ HW3.out (by kernel_rfl) rfl (by simp [Value.oneCell']) ?_)
      exact bodyPost_ret (results_rowP (P := Tryd.prog) rfl _ _ w.heap.size _ _ _ _ rfl HROW.out Tryd.underlying29 rfl (by kernel_rfl)) rfl ⟨rfl, HBR.out⟩
end Go.Proofs.YtnphgcbknfmapaaDoor
namespace Go.Proofs.YtnphgcbknfmapaaDoor
open Go.RowKit Go.Lib
set_option linter.unusedVariables false

end Go.Proofs.YtnphgcbknfmapaaDoor
namespace Go.Proofs.YtnphgcbknfmapaaDoor
open Go.RowKit Go.Lib
set_option linter.unusedVariables false

section
variable {w : World} {B a m : Nat} {T : List OM} {mx o : Int} {x : OM}
end
end Go.Proofs.YtnphgcbknfmapaaDoor
namespace Go.Proofs.YtnphgcbknfmapaaDoor
open Go.RowKit Go.Lib
set_option linter.unusedVariables false

/-- The table as it stands; what the law itself laid beside it. -/
def LS (B : Nat) (w0 w : World) (a m : Nat) (l : List OB) (mx : Int) (K : List (Nat × Obj)) : Prop :=
  ∃ T, TS w B a m T mx ∧ obT T = l ∧ Below B w0 w ∧ ∀ p ∈ K, w.heap[p.1]? = some p.2 ∧ p.1 ∉ a :: m :: blkT T
section
variable {B a m : Nat} {w0 w w' : World} {l l' : List OB} {mx mx' o : Int} {K : List (Nat × Obj)} {x : OB}
theorem TS.baseB {T : List OM} (h : TS w B a m T mx) : B ≤ w.heap.size := by
  have h1 := h.tab.base a (List.mem_cons_self ..)
  have h2 := h.tab.lt a (List.mem_cons_self ..)
  omega
theorem ls_step {T T' : List OM} (ht : TS w B a m T mx) (hb : Below B w0 w) (hK : ∀ p ∈ K, w.heap[p.1]? = some p.2 ∧ p.1 ∉ a :: m :: blkT T) (hs : StS w w' B a m T T' mx mx') (hl : obT T' = l') : LS B w0 w' a m l' mx' K := by
  refine ⟨T', hs.ts, hl, hb.trans (hs.chg.below ht.baseB fun i hi => ht.tab.base i hi), fun p hp => ?_⟩
  obtain ⟨h1, h2⟩ := hK p hp
  have hlt : p.1 < w.heap.size := (Array.getElem?_eq_some_iff.1 h1).1
  refine ⟨(hs.chg.block p.1 hlt h2).trans h1, fun hm => ?_⟩
  rcases List.mem_cons.1 hm with e | hm
  · exact h2 (by rw [e]; exact List.mem_cons_self ..)
  rcases List.mem_cons.1 hm with e | hm
  · exact h2 (by rw [e]; exact List.mem_cons_of_mem _ (List.mem_cons_self ..))
  rcases hs.new p.1 hm with e | e
  · exact h2 (List.mem_cons_of_mem _ (List.mem_cons_of_mem _ e))
  · omega
theorem LS.below (h : LS B w0 w a m l mx K) (hb : Below w.heap.size w w') : LS B w0 w' a m l mx K := by
  obtain ⟨T, ht, hl, h0, hK⟩ := h
  refine ⟨T, ht.keep hb, hl, h0.trans (hb.mono ht.baseB), fun p hp => ?_⟩
  obtain ⟨h1, h2⟩ := hK p hp
  exact ⟨(hb.block p.1 (Array.getElem?_eq_some_iff.1 h1).1).trans h1, h2⟩
/-- Something of the law's own, laid beside the table. -/
theorem LS.push (h : LS B w0 w a m l mx K) {g : Nat} {ob : Obj} (hb : Below w.heap.size w w') (hg : w.heap.size ≤ g) (hr : w'.heap[g]? = some ob) : LS B w0 w' a m l mx ((g, ob) :: K) := by
  obtain ⟨T, ht, hl, h0, hK⟩ := h
  refine ⟨T, ht.keep hb, hl, h0.trans (hb.mono ht.baseB), fun p hp => ?_⟩
  rcases List.mem_cons.1 hp with rfl | hp
  · exact ⟨hr, fun hm => by have := ht.tab.lt g hm; omega⟩
  · obtain ⟨h1, h2⟩ := hK p hp
    exact ⟨(hb.block p.1 (Array.getElem?_eq_some_iff.1 h1).1).trans h1, h2⟩
theorem LS.row {g : Nat} {ob : Obj} (h : LS B w0 w a m l mx K) (hp : (g, ob) ∈ K) : w.heap[g]? = some ob := by
  obtain ⟨T, ht, hl, h0, hK⟩ := h
  exact (hK _ hp).1
theorem LS.base (h : LS B w0 w a m l mx K) : Below B w0 w := by
  obtain ⟨T, ht, hl, h0, hK⟩ := h
  exact h0
theorem new_L (w : World) : Calls Tryd.prog 6 #[] w fun e w' => e = .returned (.pointer (some ⟨w.heap.size + 1, 0, none⟩)) ∧ LS w.heap.size w w' (w.heap.size + 1) w.heap.size [] (-1) [] := by
  refine (new_c w).mono ?_
  rintro e w' ⟨rfl, ht, hb⟩
  refine ⟨rfl, [], ⟨ht, ?_, by simp, by simp⟩, rfl, hb, by simp⟩
  exact OkT.nil
theorem create0_L (h : LS B w0 w a m l mx K) (hfew : l.length < 512) (hmm : mx + 1 < 1073741824) :
    Calls Tryd.prog 7 #[.pointer (some ⟨a, 0, none⟩), .int .i64 (-1), .int .i64 (-1)] w fun e w' => e = .returned (.tuple #[.int .i64 (mx + 1), .int .i64 0]) ∧ LS B w0 w' a m (l ++ [newO mx (-1) (-1) []]) (mx + 1) K := by
  obtain ⟨T, ht, rfl, h0, hK⟩ := h
  refine (create_s0 ht (by simpa [obT] using hfew) hmm).mono ?_
  rintro e w' ⟨rfl, hs⟩
  exact ⟨rfl, ls_step ht h0 hK hs (by simp [obT, newS])⟩
theorem create_L (h : LS B w0 w a m l mx K) {p : Int} (hp : I64 p) (hx : getO l p = some x) (hfew : l.length < 512) (hmm : mx + 1 < 1073741824) (hsl : x.slots.length ≤ 1000) :
    Calls Tryd.prog 7 #[.pointer (some ⟨a, 0, none⟩), .int .i64 p, .int .i64 (-1)] w fun e w' => e = .returned (.tuple #[.int .i64 (mx + 1), .int .i64 0]) ∧ LS B w0 w' a m (l ++ [newO mx p (-1) (x.slots.map fun s => freshO s (mx + 1))]) (mx + 1) K := by
  obtain ⟨T, ht, rfl, h0, hK⟩ := h
  obtain ⟨y, hy, rfl⟩ := findT_of_getO hx
  refine (create_s ht hp hy (by simpa [obT] using hfew) hmm hsl).mono ?_
  rintro e w' ⟨rfl, sv, hs⟩
  exact ⟨rfl, ls_step ht h0 hK hs (by simp [obT, newS])⟩
theorem get_L (h : LS B w0 w a m l mx K) (ho : I64 o) (hx : hasO l o = true) (hpi : ∀ x ∈ l, I64 x.parent) (n : ByteArray) (hi : biB n = false) {q : Option SL} (hq : gvO l n (aboveO l o) = q) :
    Calls Tryd.prog 14 #[.pointer (some ⟨a, 0, none⟩), .int .i64 o, .string n] w fun e w' => e = .returned (gvV q) ∧ LS B w0 w' a m l mx K := by
  have H := h
  obtain ⟨T, ht, rfl, h0, hK⟩ := h
  unfold hasO at hx
  obtain ⟨x, hx⟩ := Option.isSome_iff_exists.1 hx
  obtain ⟨y, hy, rfl⟩ := findT_of_getO hx
  refine (get_l ht ho hy (fun z hz => hpi z.o (List.mem_map.2 ⟨z, hz, rfl⟩)) n hi hq).mono ?_
  rintro e w' ⟨rfl, hb⟩
  exact ⟨rfl, H.below hb⟩
theorem addn1_L (h : LS B w0 w a m l mx K) (ho : I64 o) (hx : getO l o = some x) (n : ByteArray) (ow bits v : Int) (hn : n.size ≤ 140737488351232) (hb : nmB n.data.toList = false) :
    Calls Tryd.prog 9 #[.pointer (some ⟨a, 0, none⟩), .int .i64 o, addV n ow bits v] w fun e w' => e = .returned (.int .i64 13) ∧ LS B w0 w' a m l mx K := by
  have H := h
  obtain ⟨T, ht, rfl, h0, hK⟩ := h
  obtain ⟨y, hy, rfl⟩ := findT_of_getO hx
  refine (add_n1 ht.tab ho hy n ow bits v hn hb).mono ?_
  rintro e w' ⟨rfl, hb⟩
  exact ⟨rfl, H.below hb⟩
theorem addn2_L (h : LS B w0 w a m l mx K) (ho : I64 o) (hx : getO l o = some x) (n : ByteArray) (ow bits v : Int) (hn : n.size ≤ 140737488351232) (hb : nmB n.data.toList = true) (hi : biB n = true) :
    Calls Tryd.prog 9 #[.pointer (some ⟨a, 0, none⟩), .int .i64 o, addV n ow bits v] w fun e w' => e = .returned (.int .i64 13) ∧ LS B w0 w' a m l mx K := by
  have H := h
  obtain ⟨T, ht, rfl, h0, hK⟩ := h
  obtain ⟨y, hy, rfl⟩ := findT_of_getO hx
  refine (add_n2 ht.tab ho hy n ow bits v hn hb hi).mono ?_
  rintro e w' ⟨rfl, hb⟩
  exact ⟨rfl, H.below hb⟩
theorem addn3_L (h : LS B w0 w a m l mx K) (ho : I64 o) (hx : getO l o = some x) (n : ByteArray) (ow bits v : Int) (hn : n.size ≤ 140737488351232) (hb : nmB n.data.toList = true) (hi : biB n = false) {i : Nat} (hs : slotI x.slots n = some i) :
    Calls Tryd.prog 9 #[.pointer (some ⟨a, 0, none⟩), .int .i64 o, addV n ow bits v] w fun e w' => e = .returned (.int .i64 13) ∧ LS B w0 w' a m l mx K := by
  have H := h
  obtain ⟨T, ht, rfl, h0, hK⟩ := h
  obtain ⟨y, hy, rfl⟩ := findT_of_getO hx
  refine (add_n3 ht.tab ho hy n ow bits v hn hb hi hs).mono ?_
  rintro e w' ⟨rfl, hb⟩
  exact ⟨rfl, H.below hb⟩
theorem addn4_L (h : LS B w0 w a m l mx K) (ho : I64 o) (hx : getO l o = some x) (n : ByteArray) (ow bits v : Int) (hn : n.size ≤ 140737488351232) (hb : nmB n.data.toList = true) (hi : biB n = false) (hs : slotI x.slots n = none)
    {r : List Int} (hr : belowO l o = some r) (hri : ∀ x ∈ r, I64 x) (hrl : r.length ≤ 1000000) (hT : ∀ d ∈ r, ∃ y, getO l d = some y) (hex : ∃ d ∈ r, ∃ y i, getO l d = some y ∧ slotI y.slots n = some i) :
    Calls Tryd.prog 9 #[.pointer (some ⟨a, 0, none⟩), .int .i64 o, addV n ow bits v] w fun e w' => e = .returned (.int .i64 13) ∧ LS B w0 w' a m l mx K := by
  have H := h
  obtain ⟨T, ht, rfl, h0, hK⟩ := h
  obtain ⟨y, hy, rfl⟩ := findT_of_getO hx
  refine (add_n4 ht.tab ho hy n ow bits v hn hb hi hs hr hri hrl (fun d hd => ?_) ?_).mono ?_
  · obtain ⟨z, hz⟩ := hT d hd
    obtain ⟨z', h1, -⟩ := findT_of_getO hz
    exact ⟨z', h1⟩
  · obtain ⟨d, hd, z, i, hz, hi⟩ := hex
    obtain ⟨z', h1, rfl⟩ := findT_of_getO hz
    exact ⟨d, hd, z', i, h1, hi⟩
  · rintro e w' ⟨rfl, hb⟩
    exact ⟨rfl, H.below hb⟩
end
end Go.Proofs.YtnphgcbknfmapaaDoor
