/- Contracts of the functions that the statement reaches, and the plain mathematics beneath: several texts joined. -/
import Derived.Laws.ResultCell
import Derived.Laws.OwnMore
import Derived.Test.YtnphgcbknfmapaaDoorPowAD
namespace Go.Proofs.YtnphgcbknfmapaaDoor
open Go.RowKit Go.Lib
set_option linter.unusedVariables false

theorem newS_cells {mx p ow : Int} (how : ¬ ow = -1) (g : Nat) (l : List SL) (V : Value) : (newS mx p ow g l V).cells = #[.int .i64 (mx + 1), .int .i64 p, .int .i64 ow, .int .i64 (-1), .int .i64 0, .int .i64 0, .string ⟨#[]⟩, .slice none 0 0, V, .slice none 0 0] := by
  unfold OM.cells newS newO
  rw [if_neg how]
set_option maxRecDepth 100000 in
set_option maxHeartbeats 4000000 in
theorem create_so {w : World} {B a m : Nat} {T : List OM} {mx p : Int} {ow : Int} {x : OM} (how : ¬ ow = -1) (h : TS w B a m T mx) (hp : I64 p) (hx : findT T p = some x) (hfew : T.length < 512) (hmm : mx + 1 < 1073741824) (hsl : x.o.slots.length ≤ 1000) :
    Calls Tryd.prog 7 #[.pointer (some ⟨a, 0, none⟩), .int .i64 p, .int .i64 ow] w fun e w' => e = .returned (.tuple #[.int .i64 (mx + 1), .int .i64 0]) ∧ ∃ sv, StS w w' B a m T (T ++ [newS mx p ow w.heap.size (x.o.slots.map fun s => freshO s ow) sv]) mx (mx + 1) := by
  have H := Lib.hid h
  have hmx := h.tab.mxr
  have hhp : hasO (obT T) p = true := by unfold hasO; rw [getO_obT, hx]; rfl
  have hpn' : ¬ p = -1 := by
    rintro rfl
    rw [h.tab.neg] at hx
    cases hx
  have hpn : ((p == -1) = false) := by simpa using hpn'
  have CP := Lib.hid (has_c h.tab hp)
  rw [hhp] at CP
  have c0 := h.tab.c0
  have c1 := h.tab.c1
  have f1 := h.tab.fr 1
  have hln := fun ty => h.tab.len ty
  have hal := h.tab.lt a (List.mem_cons_self ..)
  have ht1 := h.tab.raiseS hmm
  have hl := (ht1.alloc (.cells #[.int .i64 (mx + 1), .int .i64 p, .int .i64 ow, .int .i64 (-1), .int .i64 0, .int .i64 0, .string ⟨#[]⟩, .slice none 0 0, .slice none 0 0, .slice none 0 0] 52)).look hp
  rw [ptrT_some hx] at hl
  have HT1 := Lib.hid ht1
  have hxm := (findT_some hx).1
  have how' : (ow == -1) = false := by simpa using how
  have HHP := Lib.hid hhp
  obtain ⟨A, c, hsv, hnc, hcm, hA, hcell⟩ := own_formO (h.tab.objs x hxm).slots
  have hx8 : ((w.setCell ⟨a, 1, none⟩ (.int .i64 (mx + 1))).alloc (.cells #[.int .i64 (mx + 1), .int .i64 p, .int .i64 ow, .int .i64 (-1), .int .i64 0, .int .i64 0, .string ⟨#[]⟩, .slice none 0 0, .slice none 0 0, .slice none 0 0] 52)).cell? ⟨x.g, 8, none⟩ = some (.slice A x.o.slots.length c) := by
    rw [← hsv]
    exact ((HT1.out.alloc _).objs x hxm).cell 8
  obtain ⟨i0, hi0, hz0, hz1, hz2⟩ := info_parts slot_info
  have HCL := Lib.hid hcell
  have HFL := Lib.hid (h.flat x hxm)
  have HA := Lib.hid (fun g (e : A = some ⟨g, 0, none⟩) => h.tab.lt g (List.mem_cons_of_mem _ (List.mem_cons_of_mem _ (List.mem_flatMap.2 ⟨x, hxm, OM.mem_blocks.2 (.inr (.inr (by rw [hsv, e]; rfl)))⟩))))
  obtain ⟨w2, hw2⟩ : ∃ w2, w2 = (w.setCell ⟨a, 1, none⟩ (.int .i64 (mx + 1))).alloc (.cells #[.int .i64 (mx + 1), .int .i64 p, .int .i64 ow, .int .i64 (-1), .int .i64 0, .int .i64 0, .string ⟨#[]⟩, .slice none 0 0, .slice none 0 0, .slice none 0 0] 52) := ⟨_, rfl⟩
  have HW2 := Lib.hid hw2
  have hz2w : w2.heap.size = w.heap.size + 1 := by rw [hw2]; simp [World.setCell]
  have HZ2 := Lib.hid hz2w
  have hgB : ∀ g, A = some ⟨g, 0, none⟩ → ∀ j, w2.cell? ⟨g, j, none⟩ = w.cell? ⟨g, j, none⟩ := by
    intro g e j
    have hne : g ≠ a := by
      rintro rfl
      have hs := H.out.tab.sep
      rw [List.nodup_cons] at hs
      exact hs.1 (List.mem_cons_of_mem _ (List.mem_flatMap.2 ⟨x, hxm, OM.mem_blocks.2 (.inr (.inr (by rw [hsv, e]; rfl)))⟩))
    rw [hw2]
    refine World.cell?_of_block ?_
    exact (Below.heap_alloc _ _ _ (by have := HA.out g e; simpa [World.setCell] using this)).trans (Below.heap_setCell _ _ _ _ hne)
  have HGB := Lib.hid hgB
  have hcr0 : CrL w2 w2 w.heap.size mx p ow [] (.slice none 0 0) := by
    refine ⟨?_, World.ownsRow_nil _ _ _ _, .refl _ _, fun _ => rfl⟩
    rw [hw2]
    have := heap_alloc_new (w.setCell ⟨a, 1, none⟩ (.int .i64 (mx + 1))) (.cells #[.int .i64 (mx + 1), .int .i64 p, .int .i64 ow, .int .i64 (-1), .int .i64 0, .int .i64 0, .string ⟨#[]⟩, .slice none 0 0, .slice none 0 0, .slice none 0 0] 52)
    rw [show (w.setCell ⟨a, 1, none⟩ (.int .i64 (mx + 1))).heap.size = w.heap.size from by simp [World.setCell]] at this
    rw [newS_cells how]
    exact this
  have HC0 := Lib.hid hcr0
  clear hx hhp h ht1 hcell hw2 hz2w hgB hcr0
  go_enter Tryd.func7, Tryd.ntmps7
  go_wp2_with fail
  refine CP.out.mono ?_
  rintro e w1 ⟨rfl, rfl⟩
  go_wp2_with fail
  rw [← HW2.out]
  go_loopg [70] x.o.slots.length (fun kk iv wr => ∃ (i : Nat) (V : Value), iv = .int .i64 (i : Int) ∧ i + kk = x.o.slots.length ∧ CrL w2 wr w.heap.size mx p ow ((x.o.slots.take i).map fun s => freshO s ow) V)
  case atStart => exact ⟨0, _, rfl, by omega, HC0.out⟩
  case round =>
    obtain ⟨i, V, rfl, hik, hcr⟩ := hrel
    by_cases hi : i < x.o.slots.length
    · obtain ⟨j, rfl⟩ : ∃ j, gk = j + 1 := ⟨gk - 1, by omega⟩
      obtain ⟨s, hs⟩ : ∃ s, x.o.slots[i]? = some s := ⟨x.o.slots[i], List.getElem?_eq_some_iff.2 ⟨hi, rfl⟩⟩
      have hfl := HFL.out s (List.mem_of_getElem? hs)
      have hcs := fun j (hj : j < 8) (u : Value) (hu : s.cells[j]? = some u) => HCL.out (i * 8 + j) u (by rw [slCells_at _ _ _ j hs hj]; exact hu)
      obtain ⟨g1, rfl, _⟩ := hcs 0 (by omega) _ rfl
      have hrd : ∀ j, j < 8 → ∀ u, s.cells[j]? = some u → wr.cell? ⟨g1, i * 8 + j, none⟩ = some u := by
        intro j hj u hu
        obtain ⟨g2, e, hc⟩ := hcs j hj u hu
        injection e with e
        injection e with e
        subst e
        have h1 := HA.out g1 rfl
        have h2 : w2.cell? ⟨g1, i * 8 + j, none⟩ = some u := (HGB.out g1 rfl _).trans hc
        rw [← h2]
        exact World.cell?_of_block (hcr.chg.block g1 (by rw [HZ2.out]; omega) (by omega))
      have r0 := hrd 0 (by omega) _ rfl
      rw [Nat.add_zero] at r0
      have r1 := hrd 1 (by omega) _ rfl
      have r2 := hrd 2 (by omega) _ rfl
      have r3 := hrd 3 (by omega) _ rfl
      have r4 := hrd 4 (by omega) _ rfl
      have r5 := hrd 5 (by omega) _ rfl
      have r6 := hrd 6 (by omega) _ rfl
      have r7 := hrd 7 (by omega) _ rfl
      have q2 : wr.cell? ⟨w.heap.size, 2, none⟩ = some (.int .i64 ow) := by rw [cell_of_row wr w.heap.size 2 _ _ _ hcr.blk, newS_cells how]; rfl
      have q8 : wr.cell? ⟨w.heap.size, 8, none⟩ = some V := cell_of_row wr w.heap.size 8 _ _ _ hcr.blk
      obtain ⟨l, hl⟩ : ∃ l, l = (x.o.slots.take i).map fun s => freshO s ow := ⟨_, rfl⟩
      have hll : l.length = i := by rw [hl, List.length_map, List.length_take]; omega
      obtain ⟨f, hf⟩ : ∃ f, f = freshO s ow := ⟨_, rfl⟩
      have hnext : l ++ [f] = (x.o.slots.take (i + 1)).map fun s => freshO s ow := by
        rw [hl, hf, List.take_add_one, hs, List.map_append]
        rfl
      rw [← hl] at hcr
      have FR := Lib.hid (show ∀ W, Calls Tryd.prog 16 #[.agg #[.string s.name, .int .i64 s.owner, .int .i64 s.bits, .bool s.clear, .int .i64 s.kind, .int .i64 s.num, .string s.text, .slice none 0 0], .int .i64 ow] W fun e w' => e = .returned (.agg #[.string f.name, .int .i64 f.owner, .int .i64 f.bits, .bool f.clear, .int .i64 f.kind, .int .i64 f.num, .string f.text, .slice none 0 0]) ∧ Below W.heap.size W w' from fun W => by rw [hf]; exact fresh_c s ow W hfl.1 hfl.2.1)
      have hown := hcr.own
      rw [hll] at hown
      have hzr : w.heap.size < wr.heap.size := by have := hcr.chg.size; rw [HZ2.out] at this; omega
      have HCR := Lib.hid hcr
      have HLL := Lib.hid hll
      have HNX := Lib.hid hnext
      obtain ⟨wx, hwx⟩ : ∃ wx, wx = wr.alloc (.cells #[.string s.name, .int .i64 s.owner, .int .i64 s.bits, .bool s.clear, .int .i64 s.kind, .int .i64 s.num, .string s.text, .slice none 0 0] 31) := ⟨_, rfl⟩
      have hbx : Below wr.heap.size wr wx := by rw [hwx]; exact (Below.refl _ _).alloc (Nat.le_refl _) _
      have hxz : wx.heap.size = wr.heap.size + 1 := by rw [hwx]; simp
      have hgx : wx.heap[wr.heap.size]? = some (.cells #[.string s.name, .int .i64 s.owner, .int .i64 s.bits, .bool s.clear, .int .i64 s.kind, .int .i64 s.num, .string s.text, .slice none 0 0] 31 (0, 0)) := by rw [hwx]; exact heap_alloc_new wr _
      have y0 := cell_of_row wx wr.heap.size 0 _ _ _ hgx
      have y1 := cell_of_row wx wr.heap.size 1 _ _ _ hgx
      have y2 := cell_of_row wx wr.heap.size 2 _ _ _ hgx
      have y3 := cell_of_row wx wr.heap.size 3 _ _ _ hgx
      have y4 := cell_of_row wx wr.heap.size 4 _ _ _ hgx
      have y5 := cell_of_row wx wr.heap.size 5 _ _ _ hgx
      have y6 := cell_of_row wx wr.heap.size 6 _ _ _ hgx
      have y7 := cell_of_row wx wr.heap.size 7 _ _ _ hgx
      have x2 : wx.cell? ⟨w.heap.size, 2, none⟩ = some (.int .i64 ow) := (hbx.cell (p := ⟨w.heap.size, 2, none⟩) hzr).trans q2
      have x8 : wx.cell? ⟨w.heap.size, 8, none⟩ = some V := (hbx.cell (p := ⟨w.heap.size, 8, none⟩) hzr).trans q8
      have HBX := Lib.hid hbx
      have HXZ := Lib.hid hxz
      have HWX := Lib.hid hwx
      have HOW := Lib.hid hown
      have HZR := Lib.hid hzr
      have HIC := Lib.hid (show i < 1000 from by omega)
      clear hcr hs hrd hcs hf hl hown hbx hxz hgx hfl hll hnext hwx
      go_wp2_with fail
      rw [← HWX.out]
      clear r0 r1 r2 r3 r4 r5 r6 r7 q2 q8
      go_region_law
        (first
          | (refine step_append_lies _ (by rfl) (.tmp 78) (.tmp 85) 49 (by rfl) (w.heap.size + 1) 31 i0 _ 8 96 Tryd.underlying49 hi0 hz0 hz1 hz2 rfl (by decide) V i (l.flatMap SL.cells) (by rfl) (OW8.out.alloc _) ⟨w8.heap.size, 0, none⟩ 1 1 [.string f.name, .int .i64 f.owner, .int .i64 f.bits, .bool f.clear, .int .i64 f.kind, .int .i64 f.num, .string f.text, .slice none 0 0] (by rfl) rfl (news8 _ _ _ _ _ _ _ _ _ _) (one8 _ _ _ _ _ _ _) (by decide) (by unfold maxLen; have := HIC.out; omega) (by have := HIC.out; omega) (by have := HZ8.out; simp; omega) _ rfl ?_
             intro g9 cap w9 hown9 hg9 hat hlt9
             have hr9 := HCR.out.at9 HZ2.out (BW8.out.alloc (by have := BW8.out.size; exact this) _) hg9
             have f9 : w9.frozen? ⟨w.heap.size, 8, none⟩ = false := frozen_of_row w9 _ 8 _ _ hr9
             have k9 : w9.cell? ⟨w.heap.size, 8, none⟩ = some V := cell_of_row w9 _ 8 _ _ _ hr9
             clear hr9)
          | (go_simp; go_at_call 16; refine (FR.out _).mono ?_
             rintro e w8 ⟨rfl, hb8⟩
             have HB8 := Lib.hid hb8
             have HZ8 := Lib.hid (show w.heap.size + 1 ≤ w8.heap.size from by have h1 : wx.heap.size ≤ w8.heap.size := hb8.size; have := HXZ.out; have := HZR.out; omega)
             have BW8 := Lib.hid (show Below wr.heap.size wr w8 from (HBX.out.drew).trans (hb8.mono HBX.out.drew.size))
             have OW8 := Lib.hid (show w8.ownsRow (w.heap.size + 1) 31 8 V i (l.flatMap SL.cells) from ownsRow_same HOW.out fun b hb => BW8.out.block b (HOW.out.lt b hb).2)
             have z8 : w8.cell? ⟨w.heap.size, 8, none⟩ = some V := cell_of_row w8 _ 8 _ _ _ ((BW8.out.block _ HZR.out).trans HCR.out.blk)
             have z8a : ∀ o, (w8.alloc o).cell? ⟨w.heap.size, 8, none⟩ = some V := fun o => (((Below.refl w8.heap.size w8).alloc (Nat.le_refl _) o).cell (p := ⟨w.heap.size, 8, none⟩) (by have := HZ8.out; show w.heap.size < _; omega)).trans z8
             clear hb8))
      all_goals
        go_wp2_with fail
        go_roundg j
        case measure => omega
        case rel => exact ⟨i + 1, _, by go_num, by omega, by rw [← HNX.out]; exact HCR.out.next HZ2.out (BW8.out.alloc (by have := BW8.out.size; exact this) _) HLL.out.symm hown9 hg9⟩
    · obtain rfl : i = x.o.slots.length := by omega
      rw [List.take_length] at hcr
      have hc2 : Chg (fun b => b = a) w w2 := by rw [HW2.out]; exact (Chg.set (S := fun b => b = a) w (p := ⟨a, 1, none⟩) rfl _).trans (Chg.new _ _)
      have ht2 : Tab w2 B a m T (mx + 1) := by rw [HW2.out]; exact HT1.out.alloc _
      have htr : Tab wr B a m T (mx + 1) := ht2.chg hcr.chg (fun b hb e => by have := H.out.tab.lt b hb; omega)
      have c0' := htr.c0
      have cg : wr.cell? ⟨w.heap.size, 0, none⟩ = some (.int .i64 (mx + 1)) := cell_of_row wr w.heap.size 0 _ _ _ hcr.blk
      have hzr := hcr.chg.size
      have HZR := Lib.hid hzr
      have HTR := Lib.hid htr
      have HC2 := Lib.hid hc2
      have HCR := Lib.hid hcr
      have hk1 : I64 (mx + 1) := ⟨by omega, by omega⟩
      clear hcr hc2 ht2 htr hzr hl c0 c1 f1 hln
      go_wp2_with fail
      go_still_tail 9, (by kernel_rfl)
      change wpList _ _ _ _ _ wr.drew
      refine wpList_mapUpdate_own (a := _) (o := _) _ rfl _ _ _ 43 rfl 3 47 tkeyed tmap ptrR m T.length (.map (datT T)) rfl (HTR.out.map.drew) (by unfold maxLen; omega) (.int .i64 (mx + 1)) (.pointer (some ⟨w.heap.size, 0, none⟩)) (.int .i64 (mx + 1)) rfl rfl (tkey_of hk1) (.lit (.int .i64 (w.heap.size : Int))) [] rfl ?_
      intro w5 hown5 hgrow5
      have HS := Lib.hid (create_stepS (p := p) (ow := ow) H.out (.inr HHP.out) hfew hmm HZ2.out HC2.out HTR.out HCR.out (by
        intro s hs
        obtain ⟨s', hs', rfl⟩ := List.mem_map.1 hs
        exact (HFL.out s' hs').fresh _) hown5 hgrow5)
      have cg5 : w5.cell? ⟨w.heap.size, 0, none⟩ = some (.int .i64 (mx + 1)) := by
        have hml := H.out.tab.lt m (List.mem_cons_of_mem _ (List.mem_cons_self ..))
        have hb5 : w5.heap[w.heap.size]? = wr.heap[w.heap.size]? := hgrow5.block _ (by show w.heap.size < wr.heap.size; have := HZR.out; have := HZ2.out; omega) (fun e => by injection e with e; omega)
        exact cell_of_row w5 w.heap.size 0 _ _ _ (hb5.trans HCR.out.blk)
      clear hown5 hgrow5
      go_wp2_with fail
      go_ret2
      exact ⟨rfl, _, HS.out⟩
end Go.Proofs.YtnphgcbknfmapaaDoor
namespace Go.Proofs.YtnphgcbknfmapaaDoor
open Go.RowKit Go.Lib
set_option linter.unusedVariables false

set_option maxRecDepth 100000 in
set_option maxHeartbeats 4000000 in
theorem create_s0 {w : World} {B a m : Nat} {T : List OM} {mx : Int} (h : TS w B a m T mx) (hfew : T.length < 512) (hmm : mx + 1 < 1073741824) :
    Calls Tryd.prog 7 #[.pointer (some ⟨a, 0, none⟩), .int .i64 (-1), .int .i64 (-1)] w fun e w' => e = .returned (.tuple #[.int .i64 (mx + 1), .int .i64 0]) ∧ StS w w' B a m T (T ++ [newS mx (-1) (-1) w.heap.size [] (.slice none 0 0)]) mx (mx + 1) := by
  have H := Lib.hid h
  have hmx := h.tab.mxr
  have c0 := h.tab.c0
  have c1 := h.tab.c1
  have f1 := h.tab.fr 1
  have hln := fun ty => h.tab.len ty
  have hal := h.tab.lt a (List.mem_cons_self ..)
  have ht1 := h.tab.raiseS hmm
  have hl := (ht1.alloc (.cells #[.int .i64 (mx + 1), .int .i64 (-1), .int .i64 (mx + 1), .int .i64 (-1), .int .i64 0, .int .i64 0, .string ⟨#[]⟩, .slice none 0 0, .slice none 0 0, .slice none 0 0] 52)).look (o := -1) ⟨by omega, by omega⟩
  rw [ptrT_none h.tab.neg] at hl
  have HT1 := Lib.hid ht1
  obtain ⟨w2, hw2⟩ : ∃ w2, w2 = (w.setCell ⟨a, 1, none⟩ (.int .i64 (mx + 1))).alloc (.cells #[.int .i64 (mx + 1), .int .i64 (-1), .int .i64 (mx + 1), .int .i64 (-1), .int .i64 0, .int .i64 0, .string ⟨#[]⟩, .slice none 0 0, .slice none 0 0, .slice none 0 0] 52) := ⟨_, rfl⟩
  have HW2 := Lib.hid hw2
  have hz2w : w2.heap.size = w.heap.size + 1 := by rw [hw2]; simp [World.setCell]
  have HZ2 := Lib.hid hz2w
  have hcr : CrL w2 w2 w.heap.size mx (-1) (-1) [] (.slice none 0 0) := by
    refine ⟨?_, World.ownsRow_nil _ _ _ _, .refl _ _, fun _ => rfl⟩
    rw [hw2]
    have := heap_alloc_new (w.setCell ⟨a, 1, none⟩ (.int .i64 (mx + 1))) (.cells #[.int .i64 (mx + 1), .int .i64 (-1), .int .i64 (mx + 1), .int .i64 (-1), .int .i64 0, .int .i64 0, .string ⟨#[]⟩, .slice none 0 0, .slice none 0 0, .slice none 0 0] 52)
    rw [show (w.setCell ⟨a, 1, none⟩ (.int .i64 (mx + 1))).heap.size = w.heap.size from by simp [World.setCell]] at this
    exact this
  have hc2 : Chg (fun b => b = a) w w2 := by rw [hw2]; exact (Chg.set (S := fun b => b = a) w (p := ⟨a, 1, none⟩) rfl _).trans (Chg.new _ _)
  have htr : Tab w2 B a m T (mx + 1) := by rw [hw2]; exact ht1.alloc _
  have HTR := Lib.hid htr
  have HC2 := Lib.hid hc2
  have HCR := Lib.hid hcr
  clear h ht1 hw2 hz2w hcr hc2 htr
  go_enter Tryd.func7, Tryd.ntmps7
  go_wp2_with fail
  rw [← HW2.out]
  have c0' := HTR.out.c0
  have cg : w2.cell? ⟨w.heap.size, 0, none⟩ = some (.int .i64 (mx + 1)) := cell_of_row w2 w.heap.size 0 _ _ _ HCR.out.blk
  have hk1 : I64 (mx + 1) := ⟨by omega, by omega⟩
  clear hl c0 c1 f1 hln
  go_still_tail 9, (by kernel_rfl)
  change wpList _ _ _ _ _ w2.drew
  refine wpList_mapUpdate_own (a := _) (o := _) _ rfl _ _ _ 43 rfl 3 47 tkeyed tmap ptrR m T.length (.map (datT T)) rfl (HTR.out.map.drew) (by unfold maxLen; omega) (.int .i64 (mx + 1)) (.pointer (some ⟨w.heap.size, 0, none⟩)) (.int .i64 (mx + 1)) rfl rfl (tkey_of hk1) (.lit (.int .i64 (w.heap.size : Int))) [] rfl ?_
  intro w5 hown5 hgrow5
  have HS := Lib.hid (create_stepS (p := -1) (ow := -1) H.out (.inl rfl) hfew hmm HZ2.out HC2.out HTR.out HCR.out (by simp) hown5 hgrow5)
  have cg5 : w5.cell? ⟨w.heap.size, 0, none⟩ = some (.int .i64 (mx + 1)) := by
    have hml := H.out.tab.lt m (List.mem_cons_of_mem _ (List.mem_cons_self ..))
    have hb5 : w5.heap[w.heap.size]? = w2.heap[w.heap.size]? := hgrow5.block _ (by show w.heap.size < w2.heap.size; have := HZ2.out; omega) (fun e => by injection e with e; omega)
    exact cell_of_row w5 w.heap.size 0 _ _ _ (hb5.trans HCR.out.blk)
  clear hown5 hgrow5
  go_wp2_with fail
  go_ret2
  exact ⟨rfl, HS.out⟩
set_option maxHeartbeats 1000000 in
theorem pbelow_c {w : World} {B a m : Nat} {T : List OM} {mx o : Int} (h : Tab w B a m T mx) (ho : I64 o) {r : List Int} (hr : belowO (obT T) o = some r) (hri : ∀ x ∈ r, I64 x) (hrl : r.length ≤ 1000000) :
    Calls Tryd.prog 21 #[.pointer (some ⟨a, 0, none⟩), .int .i64 o] w fun e w' => ∃ v, e = .returned v ∧ w'.ownsRow w.heap.size 3 1 v r.length (intsO r) ∧ Below w.heap.size w w' := by
  have C := Lib.hid (below_c h ho hr hri hrl)
  clear h hr
  go_enter Tryd.func21, Tryd.ntmps21
  go_wp2_with fail
  refine C.out.mono ?_
  rintro e w' ⟨v, rfl, hrow, hb⟩
  have HR := Lib.hid hrow
  have HB := Lib.hid hb
  clear hrow hb
  go_wp2_with fail
  go_ret
  exact ⟨v, rfl, HR.out, HB.out⟩
end Go.Proofs.YtnphgcbknfmapaaDoor
namespace Go.Proofs.YtnphgcbknfmapaaDoor
open Go.RowKit Go.Lib
set_option linter.unusedVariables false

/-- The argument of Add: a property whose value is a number. -/
def addV (n : ByteArray) (ow bits v : Int) : Value := .agg #[.string n, .int .i64 ow, .int .i64 bits, .bool false, .int .i64 0, .int .i64 v, .string ⟨#[]⟩, .slice none 0 0]
section
variable {w : World} {B a m : Nat} {T : List OM} {mx o : Int} {x : OM}
end
end Go.Proofs.YtnphgcbknfmapaaDoor
namespace Go.Proofs.YtnphgcbknfmapaaDoor
open Go.RowKit Go.Lib
set_option linter.unusedVariables false

theorem squ_add {P : Program} {f : FuncId} {args : Array Value} {w : World} {a n : Nat} {v : Value}
    (h : Calls P f args (w.drewN (a + n)) fun e w' => e = .returned v ∧ w.drewN (a + n) = w') :
    Calls P f args (w.drewN (a + n)) fun e w'' => e = .returned v ∧ ∃ m, w'' = w.drewN (a + m) :=
  h.mono fun _ _ ⟨he, hm⟩ => ⟨he, n, hm.symm⟩
theorem squ_left {P : Program} {f : FuncId} {args : Array Value} {w : World} {n : Nat} {v : Value}
    (h : Calls P f args (w.drewN n) fun e w' => e = .returned v ∧ w.drewN n = w') : Calls P f args (w.drewN n) fun e w'' => e = .returned v ∧ ∃ m, w'' = w.drewN m :=
  h.mono fun _ _ ⟨he, hm⟩ => ⟨he, n, hm.symm⟩
theorem Tab.drewN {w : World} {B a m : Nat} {T : List OM} {mx : Int} (h : Tab w B a m T mx) (k : Nat) : Tab (w.drewN k) B a m T mx := h.keep fun b _ => World.heap_drewN w k ▸ rfl
theorem sbelow_drewN {B : Nat} {w w' : World} (h : Below B w w') (n : Nat) : Below B w (w'.drewN n) := ⟨h.os, h.tape, h.output, h.size, h.block⟩
section
variable {w : World} {B a m : Nat} {T : List OM} {mx o : Int} {x : OM}
end
end Go.Proofs.YtnphgcbknfmapaaDoor
namespace Go.Proofs.YtnphgcbknfmapaaDoor
open Go.RowKit Go.Lib
set_option linter.unusedVariables false

theorem ownsRow_baseN {w : World} {b b' : Nat} {e : TypeId} {size : Nat} {v : Value} {n : Nat} {xs : List Value} (h : w.ownsRow b e size v n xs) (hb : b' ≤ b) : w.ownsRow b' e size v n xs := by
  refine ⟨h.1, ?_⟩
  rcases h.2 with h1 | ⟨g, cap, cur, e1, e2, e3⟩
  · exact .inl h1
  · exact .inr ⟨g, cap, cur, e1, by omega, e3⟩
theorem Tab.nodupN {w : World} {B a m : Nat} {T : List OM} {mx : Int} (h : Tab w B a m T mx) {x : OM} (hx : x ∈ T) : x.blocks.Nodup := by
  have hs := (List.nodup_cons.1 (List.nodup_cons.1 h.sep).2).2
  obtain ⟨p, q, e⟩ := List.append_of_mem hx
  rw [e, blkT_split, List.nodup_append, List.nodup_append] at hs
  exact hs.2.1.1
/-- An object's first property, laid. -/
theorem add_slot {w wb w9 w6 : World} {B a m : Nat} {T : List OM} {mx o : Int} {x : OM} {f : SL} {g9 cap : Nat} (h : TS w B a m T mx) (hx : findT T o = some x) (hbb : Below w.heap.size w wb) (hsv : x.sv = .slice none 0 0)
    (hg : wb.grownBy w9 none) (hown : w9.ownsRow w.heap.size 31 8 (.slice (some ⟨g9, 0, none⟩) 1 cap) 1 f.cells) (hb6 : Below w9.heap.size (w9.setCell ⟨x.g, 8, none⟩ (.slice (some ⟨g9, 0, none⟩) 1 cap)) w6) (hf : FlatS f) :
    StS w w6 B a m T (repT T o ⟨{ x.o with slots := [f] }, x.g, x.dv, .slice (some ⟨g9, 0, none⟩) 1 cap⟩) mx mx := by
  have hxm := (findT_some hx).1
  have hob := h.tab.objs x hxm
  have hg9 := hown.lt g9 rfl
  have hxlt := hob.lt
  have hxg : x.g < w.heap.size := hxlt x.g (OM.mem_blocks.2 (.inl rfl))
  have hzb := hbb.size
  have hz9 := hg.size
  have hBw : B ≤ w.heap.size := by
    have h1 := h.tab.base a (List.mem_cons_self ..)
    have h2 := h.tab.lt a (List.mem_cons_self ..)
    omega
  have k9 : ∀ b, b < w.heap.size → w9.heap[b]? = w.heap[b]? := fun b hb => (hg.block b (by omega) (by simp)).trans (hbb.block b hb)
  have k6 : ∀ b, b < w9.heap.size → b ≠ x.g → w6.heap[b]? = w9.heap[b]? := fun b hb hn => (hb6.block b hb).trans (Below.heap_setCell _ _ _ _ hn)
  have hx9 : x.g < w9.heap.size := by omega
  have hne9 : g9 ≠ x.g := by omega
  have hb6x : w6.heap[x.g]? = _ := hb6.block x.g hx9
  refine h.rep hx _ rfl rfl ?_ ⟨?_, ?_, ?_⟩ ?_ ?_ (by intro s hs; rw [List.mem_singleton] at hs; rw [hs]; exact hf) ⟨fun e => absurd e (by simp), (h.bare x hxm).2⟩
  · refine ⟨?_, ?_, ?_, ?_, ?_⟩
    · exact (hb6.os.trans hg.os).trans hbb.os
    · exact (hb6.tape.trans hg.tape).trans hbb.tape
    · exact (hb6.output.trans hg.output).trans hbb.output
    · have := hb6.size; simp [World.setCell] at this; omega
    · intro k hk hn
      rw [k6 k (by omega) (fun e => hn (OM.mem_blocks.2 (.inl e)))]
      exact k9 k hk
  · show w6.heap[x.g]? = _
    rw [hb6x, heap_setCell_same w9 x.g 8 _ _ _ ((k9 x.g hxg).trans hob.blk)]
    rfl
  · refine ownsRow_same hob.defs fun b hb => ?_
    have hbx := hxlt b (OM.mem_blocks.2 (.inr (.inl hb)))
    have hne : b ≠ x.g := by
      rintro rfl
      have := h.tab.nodupN hxm
      unfold OM.blocks at this
      rw [List.nodup_cons] at this
      exact this.1 (by simp [hb])
    rw [k6 b (by omega) hne]
    exact k9 b hbx
  · have : [f].flatMap SL.cells = f.cells := by simp
    show w6.ownsRow B _ 8 _ 1 ([f].flatMap SL.cells)
    rw [this]
    exact ownsRow_baseN (ownsRow_same hown fun b hb => by
      injection hb with hb
      subst hb
      exact k6 _ hg9.2 hne9) hBw
  · intro b hb
    rcases OM.mem_blocks.1 hb with h1 | h1 | h1
    · exact .inl (OM.mem_blocks.2 (.inl h1))
    · exact .inl (OM.mem_blocks.2 (.inr (.inl h1)))
    · injection h1 with h1
      rw [← h1]
      exact .inr hg9.1
  · have h0 := h.tab.nodupN hxm
    unfold OM.blocks at h0 ⊢
    rw [hsv, show (Value.slice none 0 0).ownBlock = none from rfl, Option.toList_none, List.append_nil] at h0
    rw [show (Value.slice (some ⟨g9, 0, none⟩) 1 cap).ownBlock = some g9 from rfl, Option.toList_some]
    rw [List.nodup_cons] at h0
    rw [List.nodup_cons, List.nodup_append]
    refine ⟨?_, h0.2, by simp, ?_⟩
    · intro e
      rcases List.mem_append.1 e with e | e
      · exact h0.1 e
      · rw [List.mem_singleton] at e
        exact hne9 e.symm
    · intro b hb c hc e
      rw [List.mem_singleton] at hc
      have := hxlt b (OM.mem_blocks.2 (.inr (.inl (by simpa using hb))))
      omega
theorem slot_one (f : SL) : (#[.string f.name, .int .i64 f.owner, .int .i64 f.bits, .bool f.clear, .int .i64 f.kind, .int .i64 f.num, .string f.text, .slice none 0 0] : Array Value).all (·.oneCell') = true := by simp [Value.oneCell']
theorem sbelow_setRow {B g : Nat} {w w' : World} (h : Below B w w') (hg : B ≤ g) (cs : Array Value) : Below B w (w'.setRow g cs) :=
  ⟨h.os, h.tape, h.output, by simpa [World.setRow] using h.size, fun k hk => (setRow_other w' g k cs (by omega)).trans (h.block k hk)⟩
set_option maxHeartbeats 1000000 in
theorem pfresh_c (s : SL) (ow : Int) (w : World) (h0 : 0 ≤ s.bits) (h1 : s.bits ≤ 7) :
    Calls Tryd.prog 25 #[s.val, .int .i64 ow] w fun e w' => e = .returned (freshO s ow).val ∧ Below w.heap.size w w' := by
  have C := Lib.hid (fun W => fresh_c s ow W h0 h1)
  generalize freshO s ow = f at C ⊢
  unfold SL.val at C ⊢
  go_enter Tryd.func25, Tryd.ntmps25
  go_wp2_with fail
  refine (C.out _).mono ?_
  rintro e w' ⟨rfl, hb⟩
  have hz : w'.heap[w.heap.size + 1]? = some (.cells #[.string ⟨#[]⟩, .int .i64 0, .int .i64 0, .bool false, .int .i64 0, .int .i64 0, .string ⟨#[]⟩, .slice none 0 0] 31 (0, 0)) := (hb.block (w.heap.size + 1) (by simp)).trans (heap_alloc2_new _ _ _)
  have hbw : Below w.heap.size w w' := (((Below.refl _ _).alloc (Nat.le_refl _) _).alloc (by simp) _).trans (hb.mono (by simp; omega))
  have HZ := Lib.hid hz
  have HROW := Lib.hid (setRow_heap w' (w.heap.size + 1) _ #[.string f.name, .int .i64 f.owner, .int .i64 f.bits, .bool f.clear, .int .i64 f.kind, .int .i64 f.num, .string f.text, .slice none 0 0] _ _ hz)
  have HBR := Lib.hid (sbelow_setRow hbw (g := w.heap.size + 1) (Nat.le_succ _) #[.string f.name, .int .i64 f.owner, .int .i64 f.bits, .bool f.clear, .int .i64 f.kind, .int .i64 f.num, .string f.text, .slice none 0 0])
  clear hb hz hbw
  go_wp2_with (refine wpList_store_row rfl 31 (.tmp 4) (.tmp 7) rfl (w.heap.size + 1) #[.string f.name, .int .i64 f.owner, .int .i64 f.bits, .bool f.clear, .int .i64 f.kind, .int .i64 f.num, .string f.text, .slice none 0 0] rfl rfl _ _ HZ.out (by kernel_rfl) rfl (slot_one f) ?_)
  exact bodyPost_ret (results_cell_row (P := Tryd.prog) rfl _ _ (w.heap.size + 1) _ _ _ _ rfl HROW.out Tryd.underlying31 rfl (by kernel_rfl)) rfl ⟨rfl, HBR.out⟩
end Go.Proofs.YtnphgcbknfmapaaDoor
namespace Go.Proofs.YtnphgcbknfmapaaDoor
open Go.RowKit Go.Lib
set_option linter.unusedVariables false

def layO (l : List OB) (d : Int) (f : SL) : List OB := updO l d fun y => { y with slots := [f] }
def layAll (l : List OB) (ps : List (Int × SL)) : List OB := ps.foldl (fun l p => layO l p.1 p.2) l
theorem layAll_snoc (l : List OB) (ps : List (Int × SL)) (d : Int) (f : SL) : layAll l (ps ++ [(d, f)]) = layO (layAll l ps) d f := by
  unfold layAll
  rw [List.foldl_append]
  rfl
theorem rep_lay {l : List OB} (hs : SortO l) {d : Int} {x : OB} (hx : getO l d = some x) (f : SL) : repO l d { x with slots := [f] } = layO l d f := by
  unfold repO layO updO
  apply List.map_congr_left
  intro y hy
  by_cases e : y.id = d
  · have b : (y.id == d) = true := by simpa using e
    have h2 := getO_of_mem hs hy
    rw [e, hx] at h2
    injection h2 with h2
    rw [b, if_pos rfl, if_pos rfl, h2]
  · have b : (y.id == d) = false := by simpa using e
    rw [b]
    rfl
theorem findT_rep_ne {T : List OM} {d k : Int} {x' : OM} (hid : x'.o.id = d) (h : k ≠ d) : findT (repT T d x') k = findT T k := by
  unfold findT repT
  induction T with
  | nil => rfl
  | cons y r ih =>
    rw [List.map_cons, List.find?_cons, List.find?_cons, ih]
    by_cases e : y.o.id = d
    · have b1 : (y.o.id == d) = true := by simpa using e
      have b2 : (x'.o.id == k) = false := by simp; omega
      have b3 : (y.o.id == k) = false := by simp; omega
      simp only [b1, if_true, b2, b3]
    · have b1 : (y.o.id == d) = false := by simpa using e
      simp only [b1, if_false, Bool.false_eq_true]
theorem findT_rep_eq {T : List OM} {d : Int} {x x' : OM} (hid : x'.o.id = d) (h : findT T d = some x) : findT (repT T d x') d = some x' := by
  unfold findT at h ⊢
  unfold repT
  induction T with
  | nil => cases h
  | cons y r ih =>
    rw [List.find?_cons] at h
    rw [List.map_cons, List.find?_cons]
    by_cases e : y.o.id = d
    · have b1 : (y.o.id == d) = true := by simpa using e
      have b2 : (x'.o.id == d) = true := by simpa using hid
      simp only [b1, if_true, b2]
    · have b1 : (y.o.id == d) = false := by simpa using e
      rw [b1] at h
      simp only [b1, if_false, Bool.false_eq_true]
      exact ih h
/-- What a round of Add leaves ahead of the sort: one property laid. -/
def LyR (wr : World) (y : OM) (f : SL) (wx : World) : Prop :=
  ∃ g9 cap wb w9, Below wr.heap.size wr wb ∧ wb.grownBy w9 none ∧ w9.ownsRow wr.heap.size 31 8 (.slice (some ⟨g9, 0, none⟩) 1 cap) 1 f.cells ∧ wx = w9.setCell ⟨y.g, 8, none⟩ (.slice (some ⟨g9, 0, none⟩) 1 cap)
theorem lay_row {wr wb w9 : World} {y : OM} {B g9 cap : Nat} (hob : ObjAt wr B y) (hbb : Below wr.heap.size wr wb) (hg : wb.grownBy w9 none) :
    (w9.setCell ⟨y.g, 8, none⟩ (.slice (some ⟨g9, 0, none⟩) 1 cap)).heap[y.g]? = some (.cells (y.cells.setIfInBounds 8 (.slice (some ⟨g9, 0, none⟩) 1 cap)) 52 (0, 0)) := by
  have hxg : y.g < wr.heap.size := hob.lt y.g (OM.mem_blocks.2 (.inl rfl))
  have hzb := hbb.size
  exact heap_setCell_same w9 y.g 8 _ _ _ (((hg.block y.g (by omega) (by simp)).trans (hbb.block y.g hxg)).trans hob.blk)
/-- How far the properties are laid. -/
structure LyI (w6 wr : World) (B a m : Nat) (T1 Tk : List OM) (mx : Int) (r : List Int) (fs : List SL) (i : Nat) : Prop where
  st : StS w6 wr B a m T1 Tk mx mx
  ob : obT Tk = layAll (obT T1) ((r.zip fs).take i)
  keep : ∀ j, i ≤ j → ∀ d, r[j]? = some d → findT Tk d = findT T1 d
  laid : ∀ k, k < i → ∀ d f, r[k]? = some d → fs[k]? = some f → ∃ y, findT Tk d = some y ∧ y.o.slots = [f]
theorem LyI.start {w6 : World} {B a m : Nat} {T1 : List OM} {mx : Int} {r : List Int} {fs : List SL} (h : TS w6 B a m T1 mx) : LyI w6 w6 B a m T1 T1 mx r fs 0 :=
  ⟨.refl h, rfl, fun _ _ _ _ => rfl, fun k hk => by omega⟩
theorem LyI.next {w6 wr wb w9 : World} {B a m : Nat} {T1 Tk : List OM} {mx : Int} {r : List Int} {fs : List SL} {i g9 cap : Nat} (h : LyI w6 wr B a m T1 Tk mx r fs i) (hn : r.Nodup) {d : Int} (hd : r[i]? = some d) {f : SL} (hf : fs[i]? = some f) {y : OM} (hy : findT Tk d = some y)
    (hsv : y.sv = .slice none 0 0) (hfl : FlatS f) (hbb : Below wr.heap.size wr wb) (hg : wb.grownBy w9 none) (hown : w9.ownsRow wr.heap.size 31 8 (.slice (some ⟨g9, 0, none⟩) 1 cap) 1 f.cells) :
    ∃ Tk', LyI w6 (w9.setCell ⟨y.g, 8, none⟩ (.slice (some ⟨g9, 0, none⟩) 1 cap)) B a m T1 Tk' mx r fs (i + 1) := by
  have hst := add_slot h.st.ts hy hbb hsv hg hown (by rw [show w9.heap.size = (w9.setCell ⟨y.g, 8, none⟩ (.slice (some ⟨g9, 0, none⟩) 1 cap)).heap.size from by simp [World.setCell]]; exact Below.refl _ _) hfl
  have hyo := (findT_some hy).2
  have hz : (r.zip fs)[i]? = some (d, f) := by rw [List.getElem?_zip_eq_some]; exact ⟨hd, hf⟩
  have hne : ∀ k e, k ≠ i → r[k]? = some e → e ≠ d := by
    rintro k e hk he rfl
    have h1 := List.getElem?_eq_some_iff.1 he
    have h2 := List.getElem?_eq_some_iff.1 hd
    exact hk ((List.getElem_inj (h₀ := h1.1) (h₁ := h2.1) hn).1 (h1.2.trans h2.2.symm))
  refine ⟨_, h.st.trans hst, ?_, ?_, ?_⟩
  · rw [obT_rep, rep_lay h.st.ts.tab.sort (by rw [getO_obT, hy]; rfl), List.take_add_one, hz, Option.toList_some, layAll_snoc, h.ob]
  · intro j hj e he
    refine (findT_rep_ne ?_ (hne j e (by omega) he)).trans (h.keep j (by omega) e he)
    exact hyo
  · intro k hk e f' he hf'
    by_cases hki : k = i
    · subst hki
      rw [hd] at he
      rw [hf] at hf'
      injection he with he
      injection hf' with hf'
      subst he
      subst hf'
      exact ⟨_, findT_rep_eq hyo hy, rfl⟩
    · obtain ⟨y', h1, h2⟩ := h.laid k (by omega) e f' he hf'
      refine ⟨y', (findT_rep_ne ?_ (hne k e hki he)).trans h1, h2⟩
      exact hyo
end Go.Proofs.YtnphgcbknfmapaaDoor
namespace Go.Proofs.YtnphgcbknfmapaaDoor
open Go.RowKit Go.Lib
set_option linter.unusedVariables false

theorem results_rowP {P : Program} {fn : Func} {p u : Tmp} {ty : TypeId} (h : fn.results = #[.cell p ty, .tmp u]) (tmps : Array Value) (w : World) (g : Nat) (t : TypeId) (cs : Array Value) (fr : Nat × Nat) (d : TypeDesc)
    (hp : tmps.getD p undef = .pointer (some ⟨g, 0, none⟩)) (hg : w.heap[g]? = some (.cells cs t fr))
    (hu : P.underlying ty = some d) (hd : (match d with | .struct _ | .array _ _ => true | _ => false) = true) (hi : (P.info? ty).map (·.size) = some cs.size) :
    (results fn tmps).run P w = .ok (.tuple #[.agg cs, tmps.getD u undef]) w := by
  rw [results_cell_tmp h, hp]
  simp [asAddr, run_loadVar_row w g t ty cs fr d hg hu hd hi, Result.andThen]
/-- The slot of a name. -/
def slO (y : OB) (n : ByteArray) : Option SL := (slotI y.slots n).bind fun i => y.slots[i]?
/-- The slot that tells a property's value, up a row of objects; none: there is none. -/
def gvO (l : List OB) (n : ByteArray) : List Int → Option SL
  | [] => none
  | d :: r => match (getO l d).bind fun y => slO y n with
    | none => none
    | some s => if s.clear then gvO l n r else some s
/-- What Get answers. -/
def gvV : Option SL → Value
  | some s => .tuple #[.agg #[.int .i64 0, .int .i64 s.num, .string ⟨#[]⟩, .slice none 0 0], .int .i64 0]
  | none => .tuple #[.agg #[.int .i64 0, .int .i64 0, .string ⟨#[]⟩, .slice none 0 0], .int .i64 4]
theorem abv_has (l : List OB) : ∀ (n : Nat) (o d : Int), d ∈ abvO l n o → ∃ x, getO l d = some x
  | 0, o, d, h => by simp [abvO] at h
  | n + 1, o, d, h => by
    rw [abvO] at h
    cases hg : getO l o with
    | none => rw [hg] at h; cases h
    | some x =>
      rw [hg] at h
      rcases List.mem_cons.1 h with rfl | h
      · exact ⟨x, by rw [getO_id hg]; exact hg⟩
      · exact abv_has l n x.parent d h
theorem findT_of_getO {T : List OM} {d : Int} {x : OB} (h : getO (obT T) d = some x) : ∃ y, findT T d = some y ∧ y.o = x := by
  rw [getO_obT] at h
  cases hf : findT T d with
  | none => rw [hf] at h; cases h
  | some y => rw [hf] at h; injection h with h; exact ⟨y, rfl, h⟩
theorem slotI_at {ss : List SL} {n : ByteArray} {i : Nat} (h : slotI ss n = some i) : ∃ s, ss[i]? = some s := by
  obtain ⟨⟨s, hs, _⟩, _⟩ := slotI_some h
  exact ⟨s, hs⟩
set_option maxRecDepth 100000 in
set_option maxHeartbeats 4000000 in
theorem get_l {w : World} {B a m : Nat} {T : List OM} {mx o : Int} (h : TS w B a m T mx) (ho : I64 o) {x : OM} (hx : findT T o = some x) (hpi : ParI T) (n : ByteArray) (hi : biB n = false) {q : Option SL} (hq : gvO (obT T) n (aboveO (obT T) o) = q) :
    Calls Tryd.prog 14 #[.pointer (some ⟨a, 0, none⟩), .int .i64 o, .string n] w fun e w' => e = .returned (gvV q) ∧ Below w.heap.size w w' := by
  have HB0 := Lib.hid ((Below.refl w.heap.size w).alloc (Nat.le_refl _) (.cells #[.int .i64 0, .int .i64 0, .string ⟨#[]⟩, .slice none 0 0] 29))
  have CR := Lib.hid (ref_c (h.tab.below HB0.out) ho)
  rw [ptrT_some hx] at CR
  have CB := Lib.hid (fun W => pbuiltin_c n W)
  rw [hi] at CB
  have CA := Lib.hid (fun W (hW : Below w.heap.size w W) => above_c (h.tab.below hW) ho hpi)
  obtain ⟨r, hr⟩ : ∃ r, r = aboveO (obT T) o := ⟨_, rfl⟩
  have hrm : ∀ d ∈ r, ∃ x, getO (obT T) d = some x := fun d hd => abv_has _ _ _ _ (by rw [hr] at hd; exact hd)
  have hrl : r.length ≤ 1000000 := by
    have h1 := abv_len (obT T) ((obT T).length + 1) o
    have h2 : (obT T).length = T.length := by simp [obT]
    have h3 := h.tab.few
    rw [hr]
    unfold aboveO
    omega
  rw [← hr] at hq CA
  have H := Lib.hid h
  have HQ := Lib.hid hq
  have HRM := Lib.hid hrm
  clear h hx hi hq hrm hr hpi
  go_enter Tryd.func14, Tryd.ntmps14
  go_wp2_with fail
  refine CR.out.mono ?_
  rintro e w1 ⟨rfl, rfl⟩
  go_wp2_with fail
  refine (CB.out _).mono ?_
  rintro e w1 ⟨rfl, hb1⟩
  have HB1 := Lib.hid (HB0.out.trans (hb1.mono HB0.out.size))
  have HW1 := Lib.hid ((hb1.block w.heap.size (by simp)).trans (heap_alloc_new w _))
  have HZ1 := Lib.hid (show w.heap.size < w1.heap.size from by have h1 : _ ≤ w1.heap.size := hb1.size; simp at h1; omega)
  clear hb1
  go_wp2_with fail
  refine (CA.out _ HB1.out).mono ?_
  rintro e w3 ⟨V, rfl, hrow, hb3⟩
  obtain ⟨A, c, rfl, hnc, hcm, hA, hcell⟩ := own_formO hrow
  have HB3 := Lib.hid (HB1.out.trans (hb3.mono HB1.out.size))
  have HW3 := Lib.hid ((hb3.block w.heap.size HZ1.out).trans HW1.out)
  have HCL := Lib.hid hcell
  have HZ3 := Lib.hid (show w.heap.size < w3.heap.size from by have := HZ1.out; have := hb3.size; omega)
  have HT3 := Lib.hid (H.out.tab.below HB3.out)
  clear hb3 hrow hcell CR CB CA
  unfold maxLen at hcm
  go_wp2_with fail
  go_loopg [30] r.length (fun kk iv wr => ∃ i : Nat, iv = .int .i64 (i : Int) ∧ i + kk = r.length ∧ w3 = wr ∧ Hid (gvO (obT T) n (r.drop i) = q))
  case atStart => exact ⟨0, rfl, by omega, rfl, by rw [List.drop_zero]; exact HQ.out⟩
  case round =>
    obtain ⟨i, rfl, hik, rfl, hgq⟩ := hrel
    by_cases hi : i < r.length
    · obtain ⟨j, rfl⟩ : ∃ j, gk = j + 1 := ⟨gk - 1, by omega⟩
      obtain ⟨d, hd⟩ : ∃ d, r[i]? = some d := ⟨r[i], List.getElem?_eq_some_iff.2 ⟨hi, rfl⟩⟩
      obtain ⟨g1, rfl, hc1⟩ := HCL.out i (.int .i64 d) (by simp [intsO, hd])
      obtain ⟨xo, hxo⟩ := HRM.out d (List.mem_of_getElem? hd)
      obtain ⟨y, hy, hyo⟩ := findT_of_getO hxo
      have hym := (findT_some hy).1
      have hdI : I64 d := by
        have h1 := H.out.tab.rng y hym
        have h2 := H.out.tab.mxr
        have h3 := (findT_some hy).2
        exact ⟨by omega, by omega⟩
      have hob := HT3.out.objs y hym
      have KR := Lib.hid (ref_c HT3.out hdI)
      rw [ptrT_some hy] at KR
      have KS := Lib.hid (slot_c hob n)
      have hgq' := hgq.out
      rw [show r.drop i = d :: r.drop (i + 1) from by rw [List.drop_eq_getElem_cons hi]; congr 1; have := List.getElem?_eq_some_iff.1 hd; exact this.2, gvO, hxo, Option.bind_some, ← hyo] at hgq'
      cases hsi : slotI y.o.slots n with
      | none =>
        rw [slotV_none hsi] at KS
        have hqn : q = none := by
          unfold slO at hgq'
          rw [hsi] at hgq'
          exact hgq'.symm
        subst hqn
        have HROW := Lib.hid (setRow_heap w3 w.heap.size _ #[.int .i64 0, .int .i64 0, .string ⟨#[]⟩, .slice none 0 0] _ _ HW3.out)
        have HBR := Lib.hid (sbelow_setRow HB3.out (g := w.heap.size) (Nat.le_refl _) #[.int .i64 0, .int .i64 0, .string ⟨#[]⟩, .slice none 0 0])
        clear hgq hgq' hd hxo hy hyo hym hob hsi
        go_wp2_with fail
        refine KR.out.mono ?_
        rintro e w7 ⟨rfl, rfl⟩
        go_wp2_with fail
        refine KS.out.mono ?_
        rintro e w7 ⟨rfl, rfl⟩
        go_wp2_with (refine wpList_store_row rfl 29 (.tmp 6) (.tmp 52) rfl w.heap.size #[.int .i64 0, .int .i64 0, .string ⟨#[]⟩, .slice none 0 0] rfl rfl _ _ HW3.out (by kernel_rfl) rfl (by simp [Value.oneCell']) ?_)
        exact bodyPost_ret (results_rowP (P := Tryd.prog) rfl _ _ w.heap.size _ _ _ _ rfl HROW.out Tryd.underlying29 rfl (by kernel_rfl)) rfl ⟨rfl, HBR.out⟩
      | some k =>
        obtain ⟨s, hs⟩ := slotI_at hsi
        obtain ⟨g2, k2, c2, hsv, hv⟩ := slotV_some hob hsi
        rw [hv] at KS
        have hfl := H.out.flat y hym s (List.mem_of_getElem? hs)
        obtain ⟨A2, C2, hsvA, _, _, _, hcell2⟩ := own_formO hob.slots
        have hc2 : ∀ j, j < 8 → ∀ u, s.cells[j]? = some u → w3.cell? ⟨g2, k * 8 + j, none⟩ = some u := by
          intro j hj u hu
          obtain ⟨g3, e3, hc⟩ := hcell2 (k * 8 + j) u (by rw [slCells_at _ _ _ j hs hj]; exact hu)
          rw [hsvA, e3] at hsv
          injection hsv with e4 _ _
          injection e4 with e4
          injection e4 with e4 _ _
          subst e4
          exact hc
        have u3 := hc2 3 (by omega) _ rfl
        have u4 := hc2 4 (by omega) _ rfl
        have u5 := hc2 5 (by omega) _ rfl
        have u6 := hc2 6 (by omega) _ rfl
        have u7 := hc2 7 (by omega) _ rfl
        rw [hfl.2.2.1] at u4
        rw [hfl.2.2.2] at u6
        unfold slO at hgq'
        rw [hsi, Option.bind_some, hs] at hgq'
        dsimp only at hgq'
        cases hcl : s.clear with
        | true =>
          rw [hcl] at u3 hgq'
          have HG := Lib.hid (show gvO (obT T) n (r.drop (i + 1)) = q from hgq')
          clear hgq hgq' hd hxo hy hyo hym hob hsi hs hsv hv hfl hsvA hcell2 hc2 hcl u4 u5 u6 u7
          go_wp2_with fail
          refine KR.out.mono ?_
          rintro e w7 ⟨rfl, rfl⟩
          go_wp2_with fail
          refine KS.out.mono ?_
          rintro e w7 ⟨rfl, rfl⟩
          go_wp2_with fail
          go_roundg j
          case measure => omega
          case rel => exact ⟨i + 1, by go_num, by omega, rfl, HG.out⟩
        | false =>
          rw [hcl] at u3 hgq'
          have hqs : q = some s := by simpa using hgq'.symm
          subst hqs
          have CC := Lib.hid (show ∀ W, Calls Tryd.prog 24 #[.agg #[.int .i64 0, .int .i64 s.num, .string ⟨#[]⟩, .slice none 0 0]] W (fun e w' => e = .returned (.agg #[.int .i64 0, .int .i64 s.num, .string ⟨#[]⟩, .slice none 0 0]) ∧ Below W.heap.size W w') from fun W => clone_int s.num W)
          clear hgq hgq' hd hxo hy hyo hym hob hsi hs hsv hv hfl hsvA hcell2 hc2 hcl
          go_wp2_with fail
          refine KR.out.mono ?_
          rintro e w7 ⟨rfl, rfl⟩
          go_wp2_with fail
          refine KS.out.mono ?_
          rintro e w7 ⟨rfl, rfl⟩
          go_wp2_with fail
          refine (CC.out _).mono ?_
          rintro e w7 ⟨rfl, hb7⟩
          have HW7 := Lib.hid ((hb7.block w.heap.size HZ3.out).trans HW3.out)
          have HB7 := Lib.hid (HB3.out.trans (hb7.mono HB3.out.size))
          have HROW := Lib.hid (setRow_heap w7 w.heap.size _ #[.int .i64 0, .int .i64 s.num, .string ⟨#[]⟩, .slice none 0 0] _ _ HW7.out)
          have HBR := Lib.hid (sbelow_setRow HB7.out (g := w.heap.size) (Nat.le_refl _) #[.int .i64 0, .int .i64 s.num, .string ⟨#[]⟩, .slice none 0 0])
          clear hb7
          go_wp2_with (refine wpList_store_row rfl 29 (.tmp 6) (.tmp 50) rfl w.heap.size #[.int .i64 0, .int .i64 s.num, .string ⟨#[]⟩, .slice none 0 0] rfl rfl _ _ HW7.out (by kernel_rfl) rfl (by simp [Value.oneCell']) ?_)
          exact bodyPost_ret (results_rowP (P := Tryd.prog) rfl _ _ w.heap.size _ _ _ _ rfl HROW.out Tryd.underlying29 rfl (by kernel_rfl)) rfl ⟨rfl, HBR.out⟩
    · obtain rfl : i = r.length := by omega
      have hqn : q = none := by
        have := hgq.out
        rw [List.drop_length] at this
        exact this.symm
      subst hqn
      have HROW := Lib.hid (setRow_heap w3 w.heap.size _ #[.int .i64 0, .int .i64 0, .string ⟨#[]⟩, .slice none 0 0] _ _ HW3.out)
      have HBR := Lib.hid (sbelow_setRow HB3.out (g := w.heap.size) (Nat.le_refl _) #[.int .i64 0, .int .i64 0, .string ⟨#[]⟩, .slice none 0 0])
      clear hgq
      go_wp2_with (refine wpList_store_row rfl 29 (.tmp 6) (.tmp 52) rfl w.heap.size #[.int .i64 0, .int .i64 0, .string ⟨#[]⟩, .slice none 0 0] rfl rfl _ _ HW3.out (by kernel_rfl) rfl (by simp [Value.oneCell']) ?_)
      exact bodyPost_ret (results_rowP (P := Tryd.prog) rfl _ _ w.heap.size _ _ _ _ rfl HROW.out Tryd.underlying29 rfl (by kernel_rfl)) rfl ⟨rfl, HBR.out⟩
end Go.Proofs.YtnphgcbknfmapaaDoor
namespace Go.Proofs.YtnphgcbknfmapaaDoor
open Go.RowKit Go.Lib
set_option linter.unusedVariables false

theorem slCells_set2 (A C : Value) : ∀ (ss : List SL) (i : Nat) (s s' : SL), ss[i]? = some s → s'.cells = (s.cells.set 1 A).set 2 C → ((ss.flatMap SL.cells).set (i * 8 + 1) A).set (i * 8 + 2) C = (ss.set i s').flatMap SL.cells
  | [], i, s, s', h, _ => by simp at h
  | x :: r, 0, s, s', h, hc => by
    simp only [List.getElem?_cons_zero, Option.some.injEq] at h
    subst h
    rw [List.flatMap_cons, List.set_cons_zero, List.flatMap_cons, hc, Nat.zero_mul, Nat.zero_add, Nat.zero_add, List.set_append_left _ _ (by simp [SL.cells]), List.set_append_left _ _ (by simp [SL.cells])]
  | x :: r, i + 1, s, s', h, hc => by
    simp only [List.getElem?_cons_succ] at h
    have ih := slCells_set2 A C r i s s' h hc
    have hl : x.cells.length = 8 := rfl
    rw [List.flatMap_cons, List.set_cons_succ, List.flatMap_cons, ← ih, List.set_append_right _ _ (by omega), List.set_append_right _ _ (by omega), hl]
    rw [show (i + 1) * 8 + 1 - 8 = i * 8 + 1 from by omega, show (i + 1) * 8 + 2 - 8 = i * 8 + 2 from by omega]
/-- A slot's owner and bits, set where it lies. -/
theorem info_slot {w : World} {B a m : Nat} {T : List OM} {mx o : Int} (h : TS w B a m T mx) {x : OM} (hx : findT T o = some x) {i g k c : Nat} {s : SL} (hs : x.o.slots[i]? = some s) (hsv : x.sv = .slice (some ⟨g, 0, none⟩) k c) (ow bits : Int) (hb0 : 0 ≤ bits) (hb7 : bits ≤ 7) :
    StS w ((w.setCell ⟨g, i * 8 + 1, none⟩ (.int .i64 ow)).setCell ⟨g, i * 8 + 2, none⟩ (.int .i64 bits)) B a m T (repT T o ⟨{ x.o with slots := x.o.slots.set i { s with owner := ow, bits := bits } }, x.g, x.dv, x.sv⟩) mx mx := by
  have hxm := (findT_some hx).1
  have hob := h.tab.objs x hxm
  have hnd := h.tab.nodupN hxm
  have hgb : g ∈ x.blocks := OM.mem_blocks.2 (.inr (.inr (by rw [hsv]; rfl)))
  have hfl := h.flat x hxm s (List.mem_of_getElem? hs)
  have hnx : x.g ≠ g := by
    rintro e
    unfold OM.blocks at hnd
    rw [List.nodup_cons] at hnd
    exact hnd.1 (by rw [hsv, e]; simp [Value.ownBlock])
  have hk : ∀ b, b ≠ g → ((w.setCell ⟨g, i * 8 + 1, none⟩ (.int .i64 ow)).setCell ⟨g, i * 8 + 2, none⟩ (.int .i64 bits)).heap[b]? = w.heap[b]? := fun b hb => (Below.heap_setCell _ _ _ _ hb).trans (Below.heap_setCell _ _ _ _ hb)
  refine h.rep hx _ rfl rfl ?_ ⟨?_, ?_, ?_⟩ (fun b hb => .inl hb) hnd ?_ ⟨fun e => (h.bare x hxm).1 (by simpa using e), (h.bare x hxm).2⟩
  · exact (Chg.set (S := fun b => b ∈ x.blocks) w (p := ⟨g, i * 8 + 1, none⟩) hgb _).trans (Chg.set (S := fun b => b ∈ x.blocks) _ (p := ⟨g, i * 8 + 2, none⟩) hgb _)
  · exact (hk x.g hnx).trans hob.blk
  · refine ownsRow_same hob.defs fun b hb => hk b ?_
    rintro rfl
    unfold OM.blocks at hnd
    rw [List.nodup_cons, List.nodup_append] at hnd
    exact hnd.2.2.2 b (by rw [hb]; simp) b (by rw [hsv]; simp [Value.ownBlock]) rfl
  · have ho := hob.slots
    rw [hsv] at ho
    obtain ⟨A, C, e, _⟩ := own_formO ho
    injection e with e1 e2 e3
    subst e2
    have h1 := ((ho.stored (i * 8 + 1) (.int .i64 ow)).1.stored (i * 8 + 2) (.int .i64 bits)).1
    rw [slCells_set2 _ _ _ _ s { s with owner := ow, bits := bits } hs rfl] at h1
    show World.ownsRow _ B _ 8 x.sv (x.o.slots.set i { s with owner := ow, bits := bits }).length _
    rw [List.length_set, hsv]
    exact h1
  · intro t ht
    rcases List.mem_or_eq_of_mem_set ht with h1 | h1
    · exact h.flat x hxm t h1
    · subst h1
      exact ⟨hb0, hb7, hfl.2.2.1, hfl.2.2.2⟩
section
variable {w : World} {B a m : Nat} {T : List OM} {mx o : Int} {x : OM}
set_option maxHeartbeats 1000000 in
theorem info_nf (h : Tab w B a m T mx) (ho : I64 o) (hx : findT T o = some x) (n : ByteArray) (hi : slotI x.o.slots n = none) (ow bits : Int) :
    Calls Tryd.prog 12 #[.pointer (some ⟨a, 0, none⟩), .int .i64 o, .string n, .int .i64 ow, .int .i64 bits] w fun e w' => e = .returned (.int .i64 4) ∧ w = w' := by
  have CF := Lib.hid (find_none h ho n hx hi)
  clear h hx hi
  go_enter Tryd.func12, Tryd.ntmps12
  go_wp2_with fail
  refine CF.out.mono ?_
  rintro e w1 ⟨rfl, rfl⟩
  go_wp2_with fail
  go_ret
  exact ⟨rfl, rfl⟩
set_option maxHeartbeats 1000000 in
theorem info_no (h : Tab w B a m T mx) (ho : I64 o) (hx : findT T o = some x) (n : ByteArray) {i : Nat} (hi : slotI x.o.slots n = some i) (ow bits : Int) (how : I64 ow) (hoh : hasO (obT T) ow = false) :
    Calls Tryd.prog 12 #[.pointer (some ⟨a, 0, none⟩), .int .i64 o, .string n, .int .i64 ow, .int .i64 bits] w fun e w' => e = .returned (.int .i64 13) ∧ w = w' := by
  obtain ⟨g, k, c, hsv, hv⟩ := slotV_some (h.objs x (findT_some hx).1) hi
  have CF := Lib.hid (find_some h ho n hx hi hsv)
  have CH := Lib.hid (has_c h how)
  rw [hoh] at CH
  clear h hx hi hsv hv
  go_enter Tryd.func12, Tryd.ntmps12
  go_wp2_with fail
  refine CF.out.mono ?_
  rintro e w1 ⟨rfl, rfl⟩
  go_wp2_with fail
  refine CH.out.mono ?_
  rintro e w1 ⟨rfl, rfl⟩
  go_wp2_with fail
  go_ret
  exact ⟨rfl, rfl⟩
set_option maxHeartbeats 1000000 in
theorem info_big (h : Tab w B a m T mx) (ho : I64 o) (hx : findT T o = some x) (n : ByteArray) {i : Nat} (hi : slotI x.o.slots n = some i) (ow bits : Int) (how : I64 ow) (hoh : hasO (obT T) ow = true) (hb0 : 0 ≤ bits) (hb7 : 7 < bits) :
    Calls Tryd.prog 12 #[.pointer (some ⟨a, 0, none⟩), .int .i64 o, .string n, .int .i64 ow, .int .i64 bits] w fun e w' => e = .returned (.int .i64 13) ∧ w = w' := by
  obtain ⟨g, k, c, hsv, hv⟩ := slotV_some (h.objs x (findT_some hx).1) hi
  have CF := Lib.hid (find_some h ho n hx hi hsv)
  have CH := Lib.hid (has_c h how)
  rw [hoh] at CH
  have b0 : ¬ bits < 0 := by omega
  clear h hx hi hsv hv
  go_enter Tryd.func12, Tryd.ntmps12
  go_wp2_with fail
  refine CF.out.mono ?_
  rintro e w1 ⟨rfl, rfl⟩
  go_wp2_with fail
  refine CH.out.mono ?_
  rintro e w1 ⟨rfl, rfl⟩
  go_wp2_with fail
  go_ret
  exact ⟨rfl, rfl⟩
set_option maxHeartbeats 2000000 in
theorem info_ok (h : TS w B a m T mx) (ho : I64 o) (hx : findT T o = some x) (n : ByteArray) {i : Nat} {s : SL} (hi : slotI x.o.slots n = some i) (hs : x.o.slots[i]? = some s) (ow bits : Int) (how : I64 ow) (hoh : hasO (obT T) ow = true) (hb0 : 0 ≤ bits) (hb7 : bits ≤ 7) :
    Calls Tryd.prog 12 #[.pointer (some ⟨a, 0, none⟩), .int .i64 o, .string n, .int .i64 ow, .int .i64 bits] w fun e w' => e = .returned (.int .i64 0) ∧ ∃ T', StS w w' B a m T T' mx mx ∧ obT T' = repO (obT T) o { x.o with slots := x.o.slots.set i { s with owner := ow, bits := bits } } := by
  have hob := h.tab.objs x (findT_some hx).1
  obtain ⟨g, k, c, hsv, hv⟩ := slotV_some hob hi
  have CF := Lib.hid (find_some h.tab ho n hx hi hsv)
  have CH := Lib.hid (has_c h.tab how)
  rw [hoh] at CH
  have HS := Lib.hid (info_slot h hx hs hsv ow bits hb0 hb7)
  obtain ⟨A2, C2, hsvA, _, _, _, hcell2⟩ := own_formO hob.slots
  have hc2 : ∀ j, j < 8 → ∀ u, s.cells[j]? = some u → w.cell? ⟨g, i * 8 + j, none⟩ = some u := by
    intro j hj u hu
    obtain ⟨g3, e3, hc⟩ := hcell2 (i * 8 + j) u (by rw [slCells_at _ _ _ j hs hj]; exact hu)
    rw [hsvA, e3] at hsv
    injection hsv with e4 _ _
    injection e4 with e4
    injection e4 with e4 _ _
    subst e4
    exact hc
  have u1 := hc2 1 (by omega) _ rfl
  have u2 := hc2 2 (by omega) _ rfl
  have hos := hob.slots
  rw [hsv] at hos
  obtain ⟨A, C, e, _⟩ := own_formO hos
  injection e with e1 e2 e3
  subst e2
  have f1 := hos.frozenAt (i * 8 + 1)
  have f2 := hos.frozenAt (i * 8 + 2)
  have b0 : ¬ bits < 0 := by omega
  have b7 : ¬ 7 < bits := by omega
  have HO := Lib.hid (obT_rep T o ⟨{ x.o with slots := x.o.slots.set i { s with owner := ow, bits := bits } }, x.g, x.dv, x.sv⟩)
  clear h hx hi hsv hv hob hos hsvA hcell2 hc2 hs e1 e3
  go_enter Tryd.func12, Tryd.ntmps12
  go_wp2_with fail
  refine CF.out.mono ?_
  rintro e w1 ⟨rfl, rfl⟩
  go_wp2_with fail
  refine CH.out.mono ?_
  rintro e w1 ⟨rfl, rfl⟩
  go_wp2_with fail
  go_ret
  exact ⟨rfl, _, HS.out, HO.out⟩
end
end Go.Proofs.YtnphgcbknfmapaaDoor
