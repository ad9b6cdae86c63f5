/- Contracts of the functions that the statement reaches, and the plain mathematics beneath: several texts joined. -/
import Derived.Laws.ResultCell
import Derived.Deep.MidRow
import Derived.Laws.OwnMore
import Derived.StillTailTactics
import Derived.Laws.Tables
import Derived.Laws.CopyOwn
import Derived.Test.YtnphgcbknfmapaaGreatDoorPbuAD
namespace Go.Proofs.YtnphgcbknfmapaaGreatDoor
open Go.RowKit Go.Lib
set_option linter.unusedVariables false

theorem ownsRow_baseN {w : World} {b b' : Nat} {e : TypeId} {size : Nat} {v : Value} {n : Nat} {xs : List Value} (h : w.ownsRow b e size v n xs) (hb : b' ≤ b) : w.ownsRow b' e size v n xs := by
  refine ⟨h.1, ?_⟩
  rcases h.2 with h1 | ⟨g, cap, cur, e1, e2, e3⟩
  · exact .inl h1
  · exact .inr ⟨g, cap, cur, e1, by omega, e3⟩
theorem Tab.nodupN {w : World} {B a m : Nat} {T : List OM} {mx : Int} (h : Tab w B a m T mx) {x : OM} (hx : x ∈ T) : x.blocks.Nodup := by
  have hs := (List.nodup_cons.1 (List.nodup_cons.1 h.sep).2).2
  obtain ⟨p, q, e⟩ := List.append_of_mem hx
  rw [e, blkT_split, List.nodup_append, List.nodup_append] at hs
  exact hs.2.1.1
/-- An object's first property, laid. -/
theorem add_slot {w wb w9 w6 : World} {B a m : Nat} {T : List OM} {mx o : Int} {x : OM} {f : SL} {g9 cap : Nat} (h : TS w B a m T mx) (hx : findT T o = some x) (hbb : Below w.heap.size w wb) (hsv : x.sv = .slice none 0 0)
    (hg : wb.grownBy w9 none) (hown : w9.ownsRow w.heap.size 35 8 (.slice (some ⟨g9, 0, none⟩) 1 cap) 1 f.cells) (hb6 : Below w9.heap.size (w9.setCell ⟨x.g, 8, none⟩ (.slice (some ⟨g9, 0, none⟩) 1 cap)) w6) (hf : FlatS f) :
    StS w w6 B a m T (repT T o ⟨{ x.o with slots := [f] }, x.g, x.dv, .slice (some ⟨g9, 0, none⟩) 1 cap⟩) mx mx := by
  have hxm := (findT_some hx).1
  have hob := h.tab.objs x hxm
  have hg9 := hown.lt g9 rfl
  have hxlt := hob.lt
  have hxg : x.g < w.heap.size := hxlt x.g (OM.mem_blocks.2 (.inl rfl))
  have hzb := hbb.size
  have hz9 := hg.size
  have hBw : B ≤ w.heap.size := by
    have h1 := h.tab.base a (List.mem_cons_self ..)
    have h2 := h.tab.lt a (List.mem_cons_self ..)
    omega
  have k9 : ∀ b, b < w.heap.size → w9.heap[b]? = w.heap[b]? := fun b hb => (hg.block b (by omega) (by simp)).trans (hbb.block b hb)
  have k6 : ∀ b, b < w9.heap.size → b ≠ x.g → w6.heap[b]? = w9.heap[b]? := fun b hb hn => (hb6.block b hb).trans (Below.heap_setCell _ _ _ _ hn)
  have hx9 : x.g < w9.heap.size := by omega
  have hne9 : g9 ≠ x.g := by omega
  have hb6x : w6.heap[x.g]? = _ := hb6.block x.g hx9
  refine h.rep hx _ rfl rfl ?_ ⟨?_, ?_, ?_⟩ ?_ ?_ (by intro s hs; rw [List.mem_singleton] at hs; rw [hs]; exact hf) ⟨fun e => absurd e (by simp), (h.bare x hxm).2⟩
  · refine ⟨?_, ?_, ?_, ?_, ?_⟩
    · exact (hb6.os.trans hg.os).trans hbb.os
    · exact (hb6.tape.trans hg.tape).trans hbb.tape
    · exact (hb6.output.trans hg.output).trans hbb.output
    · have := hb6.size; simp [World.setCell] at this; omega
    · intro k hk hn
      rw [k6 k (by omega) (fun e => hn (OM.mem_blocks.2 (.inl e)))]
      exact k9 k hk
  · show w6.heap[x.g]? = _
    rw [hb6x, heap_setCell_same w9 x.g 8 _ _ _ ((k9 x.g hxg).trans hob.blk)]
    rfl
  · refine ownsRow_same hob.defs fun b hb => ?_
    have hbx := hxlt b (OM.mem_blocks.2 (.inr (.inl hb)))
    have hne : b ≠ x.g := by
      rintro rfl
      have := h.tab.nodupN hxm
      unfold OM.blocks at this
      rw [List.nodup_cons] at this
      exact this.1 (by simp [hb])
    rw [k6 b (by omega) hne]
    exact k9 b hbx
  · have : [f].flatMap SL.cells = f.cells := by simp
    show w6.ownsRow B _ 8 _ 1 ([f].flatMap SL.cells)
    rw [this]
    exact ownsRow_baseN (ownsRow_same hown fun b hb => by
      injection hb with hb
      subst hb
      exact k6 _ hg9.2 hne9) hBw
  · intro b hb
    rcases OM.mem_blocks.1 hb with h1 | h1 | h1
    · exact .inl (OM.mem_blocks.2 (.inl h1))
    · exact .inl (OM.mem_blocks.2 (.inr (.inl h1)))
    · injection h1 with h1
      rw [← h1]
      exact .inr hg9.1
  · have h0 := h.tab.nodupN hxm
    unfold OM.blocks at h0 ⊢
    rw [hsv, show (Value.slice none 0 0).ownBlock = none from rfl, Option.toList_none, List.append_nil] at h0
    rw [show (Value.slice (some ⟨g9, 0, none⟩) 1 cap).ownBlock = some g9 from rfl, Option.toList_some]
    rw [List.nodup_cons] at h0
    rw [List.nodup_cons, List.nodup_append]
    refine ⟨?_, h0.2, by simp, ?_⟩
    · intro e
      rcases List.mem_append.1 e with e | e
      · exact h0.1 e
      · rw [List.mem_singleton] at e
        exact hne9 e.symm
    · intro b hb c hc e
      rw [List.mem_singleton] at hc
      have := hxlt b (OM.mem_blocks.2 (.inr (.inl (by simpa using hb))))
      omega
theorem slot_one (f : SL) : (#[.string f.name, .int .i64 f.owner, .int .i64 f.bits, .bool f.clear, .int .i64 f.kind, .int .i64 f.num, .string f.text, .slice none 0 0] : Array Value).all (·.oneCell') = true := by simp [Value.oneCell']
theorem sbelow_setRow {B g : Nat} {w w' : World} (h : Below B w w') (hg : B ≤ g) (cs : Array Value) : Below B w (w'.setRow g cs) :=
  ⟨h.os, h.tape, h.output, by simpa [World.setRow] using h.size, fun k hk => (setRow_other w' g k cs (by omega)).trans (h.block k hk)⟩
set_option maxHeartbeats 1000000 in
theorem pfresh_c (s : SL) (ow : Int) (w : World) (h0 : 0 ≤ s.bits) (h1 : s.bits ≤ 7) :
    Calls Tryz.prog 67 #[s.val, .int .i64 ow] w fun e w' => e = .returned (freshO s ow).val ∧ Below w.heap.size w w' := by
  have C := Lib.hid (fun W => fresh_c s ow W h0 h1)
  generalize freshO s ow = f at C ⊢
  unfold SL.val at C ⊢
  go_enter Tryz.func67, Tryz.ntmps67
  go_wp2_with fail
  refine (C.out _).mono ?_
  rintro e w' ⟨rfl, hb⟩
  have hz : w'.heap[w.heap.size + 1]? = some (.cells #[.string ⟨#[]⟩, .int .i64 0, .int .i64 0, .bool false, .int .i64 0, .int .i64 0, .string ⟨#[]⟩, .slice none 0 0] 35 (0, 0)) := (hb.block (w.heap.size + 1) (by simp)).trans (heap_alloc2_new _ _ _)
  have hbw : Below w.heap.size w w' := (((Below.refl _ _).alloc (Nat.le_refl _) _).alloc (by simp) _).trans (hb.mono (by simp; omega))
  have HZ := Lib.hid hz
  have HROW := Lib.hid (setRow_heap w' (w.heap.size + 1) _ #[.string f.name, .int .i64 f.owner, .int .i64 f.bits, .bool f.clear, .int .i64 f.kind, .int .i64 f.num, .string f.text, .slice none 0 0] _ _ hz)
  have HBR := Lib.hid (sbelow_setRow hbw (g := w.heap.size + 1) (Nat.le_succ _) #[.string f.name, .int .i64 f.owner, .int .i64 f.bits, .bool f.clear, .int .i64 f.kind, .int .i64 f.num, .string f.text, .slice none 0 0])
  clear hb hz hbw
  go_wp2_with (refine wpList_store_row rfl 35 (.tmp 4) (.tmp 7) rfl (w.heap.size + 1) #[.string f.name, .int .i64 f.owner, .int .i64 f.bits, .bool f.clear, .int .i64 f.kind, .int .i64 f.num, .string f.text, .slice none 0 0] rfl rfl _ _ HZ.out (by kernel_rfl) rfl (slot_one f) ?_)
  exact bodyPost_ret (results_cell_row (P := Tryz.prog) rfl _ _ (w.heap.size + 1) _ _ _ _ rfl HROW.out Tryz.underlying35 rfl (by kernel_rfl)) rfl ⟨rfl, HBR.out⟩
set_option maxHeartbeats 1000000 in
theorem valS_c (s : ByteArray) (w : World) : Calls Tryz.prog 20 #[.string s] w fun e w' => e = .returned (.agg #[.int .i64 2, .int .i64 0, .string s, .slice none 0 0]) ∧ Below w.heap.size w w' := by
  go_enter Tryz.func20, Tryz.ntmps20
  go_wp2_with fail
  exact bodyPost_ret (results_cell_row (P := Tryz.prog) rfl _ _ w.heap.size _ _ _ _ rfl (heap_alloc_new _ _) Tryz.underlying33 rfl (by kernel_rfl)) rfl ⟨rfl, (Below.refl _ _).alloc (Nat.le_refl _) _⟩
set_option maxHeartbeats 1000000 in
theorem valO_c (n : Int) (w : World) : Calls Tryz.prog 23 #[.int .i64 n] w fun e w' => e = .returned (.agg #[.int .i64 1, .int .i64 n, .string ⟨#[]⟩, .slice none 0 0]) ∧ Below w.heap.size w w' := by
  go_enter Tryz.func23, Tryz.ntmps23
  go_wp2_with fail
  exact bodyPost_ret (results_cell_row (P := Tryz.prog) rfl _ _ w.heap.size _ _ _ _ rfl (heap_alloc_new _ _) Tryz.underlying33 rfl (by kernel_rfl)) rfl ⟨rfl, (Below.refl _ _).alloc (Nat.le_refl _) _⟩
end Go.Proofs.YtnphgcbknfmapaaGreatDoor
namespace Go.Proofs.YtnphgcbknfmapaaGreatDoor
open Go.RowKit Go.Lib
set_option linter.unusedVariables false

/-- May a byte stand in a text? -/
def ppC (c : UInt8) : Bool := decide (32 ≤ c.toNat ∧ c.toNat ≤ 126)
def ppB (l : List UInt8) : Bool := l.all ppC
theorem ppB_bad (s : ByteArray) (k : Nat) (h0 : k < s.size) (h1 : (s[k].toNat : Int) < 32 ∨ 126 < (s[k].toNat : Int)) : ppB s.data.toList = false := by
  rw [Bool.eq_false_iff]
  intro hn
  unfold ppB at hn
  rw [List.all_eq_true] at hn
  have := hn s[k] (by show s.data[k] ∈ s.data.toList; simp)
  simp only [ppC, decide_eq_true_eq] at this
  omega
set_option maxHeartbeats 400000 in
theorem pprintable_c (s : ByteArray) (w : World) (hs : s.size ≤ 140737488351232) :
    Calls Tryz.prog 85 #[.string s] w fun e w' => e = .returned (.bool (ppB s.data.toList)) ∧ w = w' := by
  go_enter Tryz.func85, Tryz.ntmps85
  go_wp2
  go_loop [6] (fun i => ∃ k : Nat, k ≤ s.size ∧ i = .int .i64 k ∧ Hid (ppB (s.data.toList.take k) = true)) (fun i => s.size - (RowKit.intOf i).toNat)
  case atStart => exact ⟨0, Nat.zero_le _, rfl, rfl⟩
  case round =>
    obtain ⟨k, hk, rfl, hall⟩ := hrel
    by_cases hlt : k < s.size
    · have hts := Lib.hid (take_snoc s k hlt)
      go_wp2
      all_goals first
        | (go_ret
           exact ⟨ret_bool (ppB_bad s k hlt (by omega)).symm, rfl⟩)
        | (refine ⟨⟨k + 1, by omega, by go_num, ?_⟩, by simp [RowKit.intOf]; omega⟩
           show ppB _ = true
           have hx := hall.out
           unfold ppB at hx ⊢
           rw [hts.out, List.all_append, hx, List.all_cons, show ppC s[k] = true from decide_eq_true (by omega)]
           rfl)
    · obtain rfl : k = s.size := by omega
      go_wp2
      go_ret
      refine ⟨ret_bool ?_, rfl⟩
      have := hall.out
      rw [List.take_of_length_le (by simp)] at this
      exact this.symm
set_option maxHeartbeats 400000 in
theorem pprinted_c (s : ByteArray) (w : World) (hs : s.size ≤ 140737488351232) :
    Calls Tryz.prog 16 #[.string s] w fun e w' => e = .returned (.bool (ppB s.data.toList)) ∧ w = w' := by
  go_enter Tryz.func16, Tryz.ntmps16
  go_wp2
  go_loop [3] (fun i => ∃ k : Nat, k ≤ s.size ∧ i = .int .i64 k ∧ Hid (ppB (s.data.toList.take k) = true)) (fun i => s.size - (RowKit.intOf i).toNat)
  case atStart => exact ⟨0, Nat.zero_le _, rfl, rfl⟩
  case round =>
    obtain ⟨k, hk, rfl, hall⟩ := hrel
    by_cases hlt : k < s.size
    · have hts := Lib.hid (take_snoc s k hlt)
      go_wp2
      all_goals first
        | (go_ret
           exact ⟨ret_bool (ppB_bad s k hlt (by omega)).symm, rfl⟩)
        | (refine ⟨⟨k + 1, by omega, by go_num, ?_⟩, by simp [RowKit.intOf]; omega⟩
           show ppB _ = true
           have hx := hall.out
           unfold ppB at hx ⊢
           rw [hts.out, List.all_append, hx, List.all_cons, show ppC s[k] = true from decide_eq_true (by omega)]
           rfl)
    · obtain rfl : k = s.size := by omega
      go_wp2
      go_ret
      refine ⟨ret_bool ?_, rfl⟩
      have := hall.out
      rw [List.take_of_length_le (by simp)] at this
      exact this.symm
theorem set_alloc_row (w : World) (L : Nat) (X : Value) (ob : Obj) : ((w.setCell ⟨L, 0, none⟩ X).alloc ob).heap[w.heap.size]? = some ob := by
  have := heap_alloc_new (w.setCell ⟨L, 0, none⟩ X) ob
  rwa [show (w.setCell ⟨L, 0, none⟩ X).heap.size = w.heap.size from by simp [World.setCell]] at this
set_option maxHeartbeats 2000000 in
theorem own_str (s : ByteArray) (hs : s.size ≤ 1000) (hp : ppB s.data.toList = true) (w : World) : Calls Tryz.prog 119 #[.agg #[.int .i64 2, .int .i64 0, .string s, .slice none 0 0]] w fun e w' => e = .returned .nilIface ∧ Below w.heap.size w w' := by
  have CP := Lib.hid (fun W => pprintable_c s W (by omega))
  rw [hp] at CP
  clear hp
  go_enter Tryz.func119, Tryz.ntmps119
  go_wp2_with fail
  refine (CP.out _).mono ?_
  rintro e w1 ⟨rfl, rfl⟩
  go_wp2_with fail
  go_ret
  exact ⟨rfl, (Below.refl _ _).alloc (Nat.le_refl _) _⟩
set_option maxHeartbeats 2000000 in
theorem own_obj (n : Int) (h0 : 0 ≤ n) (h1 : n ≤ 1000000) (w : World) : Calls Tryz.prog 119 #[.agg #[.int .i64 1, .int .i64 n, .string ⟨#[]⟩, .slice none 0 0]] w fun e w' => e = .returned .nilIface ∧ Below w.heap.size w w' := by
  have CP := Lib.hid (fun W => printable_0 W)
  have a1 : ¬ n < -2147483648 := by omega
  have a2 : ¬ 2147483647 < n := by omega
  go_enter Tryz.func119, Tryz.ntmps119
  go_wp2_with fail
  refine (CP.out _).mono ?_
  rintro e w1 ⟨rfl, rfl⟩
  go_wp2_with fail
  go_ret
  exact ⟨rfl, (Below.refl _ _).alloc (Nat.le_refl _) _⟩
set_option maxHeartbeats 2000000 in
theorem walk_str (s : ByteArray) (hs : s.size ≤ 1000) (hp : ppB s.data.toList = true) (L : Nat) (w : World) (hL : w.heap[L]? = some (.cells #[.int .i64 4096] 3 (0, 0))) :
    Calls Tryz.prog 103 #[.agg #[.int .i64 2, .int .i64 0, .string s, .slice none 0 0], .int .i64 1, .pointer (some ⟨L, 0, none⟩)] w fun e w' => e = .returned .nilIface ∧ Chg (fun b => b = L) w w' := by
  have l0 : w.cell? ⟨L, 0, none⟩ = some (.int .i64 4096) := cell_of_row w L 0 _ _ _ hL
  have lf0 : w.frozen? ⟨L, 0, none⟩ = false := by simp [World.frozen?, hL]
  have hlt : L < w.heap.size := (Array.getElem?_eq_some_iff.1 hL).1
  have CO := Lib.hid (own_str s hs hp)
  have hsi : ¬ (4096 : Int) ≤ (s.size : Int) := by omega
  clear hL hp
  go_enter Tryz.func103, Tryz.ntmps103
  go_wp2_with fail
  refine (CO.out _).mono ?_
  rintro e w2 ⟨rfl, hb2⟩
  have x3 : w2.cell? ⟨w.heap.size, 3, none⟩ = some (.slice none 0 0) := (hb2.cell (p := ⟨w.heap.size, 3, none⟩) (by simp [World.setCell])).trans (cell_of_row _ w.heap.size 3 _ _ _ (set_alloc_row _ _ _ _))
  have HC := Lib.hid (show Chg (fun b => b = L) w w2 from ((Chg.set (S := fun b => b = L) w (p := ⟨L, 0, none⟩) rfl _).trans (Chg.new _ _)).trans (Chg.of_below hb2))
  clear hb2 CO l0 lf0
  go_wp2_with fail
  go_loopg [42] 0 (fun kk v wr => v = .int .i64 0 ∧ w2 = wr)
  case atStart => exact ⟨rfl, rfl⟩
  case round =>
    obtain ⟨rfl, rfl⟩ := hrel
    go_wp2_with fail
    go_ret
    exact ⟨rfl, HC.out⟩
set_option maxHeartbeats 2000000 in
theorem walk_obj (n : Int) (h0 : 0 ≤ n) (h1 : n ≤ 1000000) (L : Nat) (w : World) (hL : w.heap[L]? = some (.cells #[.int .i64 4096] 3 (0, 0))) :
    Calls Tryz.prog 103 #[.agg #[.int .i64 1, .int .i64 n, .string ⟨#[]⟩, .slice none 0 0], .int .i64 1, .pointer (some ⟨L, 0, none⟩)] w fun e w' => e = .returned .nilIface ∧ Chg (fun b => b = L) w w' := by
  have l0 : w.cell? ⟨L, 0, none⟩ = some (.int .i64 4096) := cell_of_row w L 0 _ _ _ hL
  have lf0 : w.frozen? ⟨L, 0, none⟩ = false := by simp [World.frozen?, hL]
  have hlt : L < w.heap.size := (Array.getElem?_eq_some_iff.1 hL).1
  have CO := Lib.hid (own_obj n h0 h1)
  clear hL h0 h1
  go_enter Tryz.func103, Tryz.ntmps103
  go_wp2_with fail
  refine (CO.out _).mono ?_
  rintro e w2 ⟨rfl, hb2⟩
  have x3 : w2.cell? ⟨w.heap.size, 3, none⟩ = some (.slice none 0 0) := (hb2.cell (p := ⟨w.heap.size, 3, none⟩) (by simp [World.setCell])).trans (cell_of_row _ w.heap.size 3 _ _ _ (set_alloc_row _ _ _ _))
  have HC := Lib.hid (show Chg (fun b => b = L) w w2 from ((Chg.set (S := fun b => b = L) w (p := ⟨L, 0, none⟩) rfl _).trans (Chg.new _ _)).trans (Chg.of_below hb2))
  clear hb2 CO l0 lf0
  go_wp2_with fail
  go_loopg [42] 0 (fun kk v wr => v = .int .i64 0 ∧ w2 = wr)
  case atStart => exact ⟨rfl, rfl⟩
  case round =>
    obtain ⟨rfl, rfl⟩ := hrel
    go_wp2_with fail
    go_ret
    exact ⟨rfl, HC.out⟩
/-- Valid, out of its walk. -/
theorem valid_of {k n : Int} {s : ByteArray} (w : World) (CW : ∀ (L : Nat) (W : World), W.heap[L]? = some (.cells #[.int .i64 4096] 3 (0, 0)) → Calls Tryz.prog 103 #[.agg #[.int .i64 k, .int .i64 n, .string s, .slice none 0 0], .int .i64 1, .pointer (some ⟨L, 0, none⟩)] W fun e w' => e = .returned .nilIface ∧ Chg (fun b => b = L) W w') :
    Calls Tryz.prog 58 #[.agg #[.int .i64 k, .int .i64 n, .string s, .slice none 0 0]] w fun e w' => e = .returned .nilIface ∧ Below w.heap.size w w' := by
  obtain ⟨wa, hwa⟩ : ∃ wa, wa = (w.alloc (.cells #[.int .i64 k, .int .i64 n, .string s, .slice none 0 0] 33)).alloc (.cells #[.int .i64 4096] 3) := ⟨_, rfl⟩
  have HB := Lib.hid (show Below w.heap.size w wa by rw [hwa]; exact ((Below.refl _ _).alloc (Nat.le_refl _) _).alloc (by simp) _)
  have hg : wa.heap[w.heap.size + 1]? = some (.cells #[.int .i64 4096] 3 (0, 0)) := by rw [hwa]; exact heap_alloc2_new _ _ _
  have CW := Lib.hid (CW (w.heap.size + 1) wa hg)
  have HW := Lib.hid hwa
  clear hg hwa
  go_enter Tryz.func58, Tryz.ntmps58
  go_wp2_with fail
  rw [← HW.out]
  refine CW.out.mono ?_
  rintro e w2 ⟨rfl, hb2⟩
  have HB2 := Lib.hid hb2
  clear hb2 HW CW
  go_wp2_with fail
  go_ret
  exact ⟨rfl, HB.out.trans (HB2.out.below HB.out.size (fun i e => by omega))⟩
theorem valid_str (s : ByteArray) (hs : s.size ≤ 1000) (hp : ppB s.data.toList = true) (w : World) : Calls Tryz.prog 58 #[.agg #[.int .i64 2, .int .i64 0, .string s, .slice none 0 0]] w fun e w' => e = .returned .nilIface ∧ Below w.heap.size w w' :=
  valid_of w fun L W hL => walk_str s hs hp L W hL
theorem valid_obj (n : Int) (h0 : 0 ≤ n) (h1 : n ≤ 1000000) (w : World) : Calls Tryz.prog 58 #[.agg #[.int .i64 1, .int .i64 n, .string ⟨#[]⟩, .slice none 0 0]] w fun e w' => e = .returned .nilIface ∧ Below w.heap.size w w' :=
  valid_of w fun L W hL => walk_obj n h0 h1 L W hL
end Go.Proofs.YtnphgcbknfmapaaGreatDoor
namespace Go.Proofs.YtnphgcbknfmapaaGreatDoor
open Go.RowKit Go.Lib
set_option linter.unusedVariables false

theorem results_rowP {P : Program} {fn : Func} {p u : Tmp} {ty : TypeId} (h : fn.results = #[.cell p ty, .tmp u]) (tmps : Array Value) (w : World) (g : Nat) (t : TypeId) (cs : Array Value) (fr : Nat × Nat) (d : TypeDesc)
    (hp : tmps.getD p undef = .pointer (some ⟨g, 0, none⟩)) (hg : w.heap[g]? = some (.cells cs t fr))
    (hu : P.underlying ty = some d) (hd : (match d with | .struct _ | .array _ _ => true | _ => false) = true) (hi : (P.info? ty).map (·.size) = some cs.size) :
    (results fn tmps).run P w = .ok (.tuple #[.agg cs, tmps.getD u undef]) w := by
  rw [results_cell_tmp h, hp]
  simp [asAddr, run_loadVar_row w g t ty cs fr d hg hu hd hi, Result.andThen]
/-- The slot of a name. -/
def slO (y : OB) (n : ByteArray) : Option SL := (slotI y.slots n).bind fun i => y.slots[i]?
/-- The slot that tells a property's value, up a row of objects; none: there is none. -/
def gvO (l : List OB) (n : ByteArray) : List Int → Option SL
  | [] => none
  | d :: r => match (getO l d).bind fun y => slO y n with
    | none => none
    | some s => if s.clear then gvO l n r else some s
/-- What Get answers. -/
def gvV : Option SL → Value
  | some s => .tuple #[.agg #[.int .i64 0, .int .i64 s.num, .string ⟨#[]⟩, .slice none 0 0], .int .i64 0]
  | none => .tuple #[.agg #[.int .i64 0, .int .i64 0, .string ⟨#[]⟩, .slice none 0 0], .int .i64 4]
theorem abv_has (l : List OB) : ∀ (n : Nat) (o d : Int), d ∈ abvO l n o → ∃ x, getO l d = some x
  | 0, o, d, h => by simp [abvO] at h
  | n + 1, o, d, h => by
    rw [abvO] at h
    cases hg : getO l o with
    | none => rw [hg] at h; cases h
    | some x =>
      rw [hg] at h
      rcases List.mem_cons.1 h with rfl | h
      · exact ⟨x, by rw [getO_id hg]; exact hg⟩
      · exact abv_has l n x.parent d h
theorem findT_of_getO {T : List OM} {d : Int} {x : OB} (h : getO (obT T) d = some x) : ∃ y, findT T d = some y ∧ y.o = x := by
  rw [getO_obT] at h
  cases hf : findT T d with
  | none => rw [hf] at h; cases h
  | some y => rw [hf] at h; injection h with h; exact ⟨y, rfl, h⟩
theorem slotI_at {ss : List SL} {n : ByteArray} {i : Nat} (h : slotI ss n = some i) : ∃ s, ss[i]? = some s := by
  obtain ⟨⟨s, hs, _⟩, _⟩ := slotI_some h
  exact ⟨s, hs⟩
set_option maxRecDepth 100000 in
set_option maxHeartbeats 4000000 in
theorem get_l {w : World} {B a m : Nat} {T : List OM} {mx o : Int} (h : TS w B a m T mx) (ho : I64 o) {x : OM} (hx : findT T o = some x) (hpi : ParI T) (n : ByteArray) (hi : biB n = false) {q : Option SL} (hq : gvO (obT T) n (aboveO (obT T) o) = q) :
    Calls Tryz.prog 21 #[.pointer (some ⟨a, 0, none⟩), .int .i64 o, .string n] w fun e w' => e = .returned (gvV q) ∧ Below w.heap.size w w' := by
  have HB0 := Lib.hid ((Below.refl w.heap.size w).alloc (Nat.le_refl _) (.cells #[.int .i64 0, .int .i64 0, .string ⟨#[]⟩, .slice none 0 0] 33))
  have CR := Lib.hid (ref_c (h.tab.below HB0.out) ho)
  rw [ptrT_some hx] at CR
  have CB := Lib.hid (fun W => pbuiltin_c n W)
  rw [hi] at CB
  have CA := Lib.hid (fun W (hW : Below w.heap.size w W) => above_c (h.tab.below hW) ho hpi)
  obtain ⟨r, hr⟩ : ∃ r, r = aboveO (obT T) o := ⟨_, rfl⟩
  have hrm : ∀ d ∈ r, ∃ x, getO (obT T) d = some x := fun d hd => abv_has _ _ _ _ (by rw [hr] at hd; exact hd)
  have hrl : r.length ≤ 1000000 := by
    have h1 := abv_len (obT T) ((obT T).length + 1) o
    have h2 : (obT T).length = T.length := by simp [obT]
    have h3 := h.tab.few
    rw [hr]
    unfold aboveO
    omega
  rw [← hr] at hq CA
  have H := Lib.hid h
  have HQ := Lib.hid hq
  have HRM := Lib.hid hrm
  clear h hx hi hq hrm hr hpi
  go_enter Tryz.func21, Tryz.ntmps21
  go_wp2_with fail
  refine CR.out.mono ?_
  rintro e w1 ⟨rfl, rfl⟩
  go_wp2_with fail
  refine (CB.out _).mono ?_
  rintro e w1 ⟨rfl, hb1⟩
  have HB1 := Lib.hid (HB0.out.trans (hb1.mono HB0.out.size))
  have HW1 := Lib.hid ((hb1.block w.heap.size (by simp)).trans (heap_alloc_new w _))
  have HZ1 := Lib.hid (show w.heap.size < w1.heap.size from by have h1 : _ ≤ w1.heap.size := hb1.size; simp at h1; omega)
  clear hb1
  go_wp2_with fail
  refine (CA.out _ HB1.out).mono ?_
  rintro e w3 ⟨V, rfl, hrow, hb3⟩
  obtain ⟨A, c, rfl, hnc, hcm, hA, hcell⟩ := own_formO hrow
  have HB3 := Lib.hid (HB1.out.trans (hb3.mono HB1.out.size))
  have HW3 := Lib.hid ((hb3.block w.heap.size HZ1.out).trans HW1.out)
  have HCL := Lib.hid hcell
  have HZ3 := Lib.hid (show w.heap.size < w3.heap.size from by have := HZ1.out; have := hb3.size; omega)
  have HT3 := Lib.hid (H.out.tab.below HB3.out)
  clear hb3 hrow hcell CR CB CA
  unfold maxLen at hcm
  go_wp2_with fail
  go_loopg [30] r.length (fun kk iv wr => ∃ i : Nat, iv = .int .i64 (i : Int) ∧ i + kk = r.length ∧ w3 = wr ∧ Hid (gvO (obT T) n (r.drop i) = q))
  case atStart => exact ⟨0, rfl, by omega, rfl, by rw [List.drop_zero]; exact HQ.out⟩
  case round =>
    obtain ⟨i, rfl, hik, rfl, hgq⟩ := hrel
    by_cases hi : i < r.length
    · obtain ⟨j, rfl⟩ : ∃ j, gk = j + 1 := ⟨gk - 1, by omega⟩
      obtain ⟨d, hd⟩ : ∃ d, r[i]? = some d := ⟨r[i], List.getElem?_eq_some_iff.2 ⟨hi, rfl⟩⟩
      obtain ⟨g1, rfl, hc1⟩ := HCL.out i (.int .i64 d) (by simp [intsO, hd])
      obtain ⟨xo, hxo⟩ := HRM.out d (List.mem_of_getElem? hd)
      obtain ⟨y, hy, hyo⟩ := findT_of_getO hxo
      have hym := (findT_some hy).1
      have hdI : I64 d := by
        have h1 := H.out.tab.rng y hym
        have h2 := H.out.tab.mxr
        have h3 := (findT_some hy).2
        exact ⟨by omega, by omega⟩
      have hob := HT3.out.objs y hym
      have KR := Lib.hid (ref_c HT3.out hdI)
      rw [ptrT_some hy] at KR
      have KS := Lib.hid (slot_c hob n)
      have hgq' := hgq.out
      rw [show r.drop i = d :: r.drop (i + 1) from by rw [List.drop_eq_getElem_cons hi]; congr 1; have := List.getElem?_eq_some_iff.1 hd; exact this.2, gvO, hxo, Option.bind_some, ← hyo] at hgq'
      cases hsi : slotI y.o.slots n with
      | none =>
        rw [slotV_none hsi] at KS
        have hqn : q = none := by
          unfold slO at hgq'
          rw [hsi] at hgq'
          exact hgq'.symm
        subst hqn
        have HROW := Lib.hid (setRow_heap w3 w.heap.size _ #[.int .i64 0, .int .i64 0, .string ⟨#[]⟩, .slice none 0 0] _ _ HW3.out)
        have HBR := Lib.hid (sbelow_setRow HB3.out (g := w.heap.size) (Nat.le_refl _) #[.int .i64 0, .int .i64 0, .string ⟨#[]⟩, .slice none 0 0])
        clear hgq hgq' hd hxo hy hyo hym hob hsi
        go_wp2_with fail
        refine KR.out.mono ?_
        rintro e w7 ⟨rfl, rfl⟩
        go_wp2_with fail
        refine KS.out.mono ?_
        rintro e w7 ⟨rfl, rfl⟩
        go_wp2_with (refine wpList_store_row rfl 33 (.tmp 6) (.tmp 52) rfl w.heap.size #[.int .i64 0, .int .i64 0, .string ⟨#[]⟩, .slice none 0 0] rfl rfl _ _ HW3.out (by kernel_rfl) rfl (by simp [Value.oneCell']) ?_)
        exact bodyPost_ret (results_rowP (P := Tryz.prog) rfl _ _ w.heap.size _ _ _ _ rfl HROW.out Tryz.underlying33 rfl (by kernel_rfl)) rfl ⟨rfl, HBR.out⟩
      | some k =>
        obtain ⟨s, hs⟩ := slotI_at hsi
        obtain ⟨g2, k2, c2, hsv, hv⟩ := slotV_some hob hsi
        rw [hv] at KS
        have hfl := H.out.flat y hym s (List.mem_of_getElem? hs)
        obtain ⟨A2, C2, hsvA, _, _, _, hcell2⟩ := own_formO hob.slots
        have hc2 : ∀ j, j < 8 → ∀ u, s.cells[j]? = some u → w3.cell? ⟨g2, k * 8 + j, none⟩ = some u := by
          intro j hj u hu
          obtain ⟨g3, e3, hc⟩ := hcell2 (k * 8 + j) u (by rw [slCells_at _ _ _ j hs hj]; exact hu)
          rw [hsvA, e3] at hsv
          injection hsv with e4 _ _
          injection e4 with e4
          injection e4 with e4 _ _
          subst e4
          exact hc
        have u3 := hc2 3 (by omega) _ rfl
        have u4 := hc2 4 (by omega) _ rfl
        have u5 := hc2 5 (by omega) _ rfl
        have u6 := hc2 6 (by omega) _ rfl
        have u7 := hc2 7 (by omega) _ rfl
        rw [hfl.2.2.1] at u4
        rw [hfl.2.2.2] at u6
        unfold slO at hgq'
        rw [hsi, Option.bind_some, hs] at hgq'
        dsimp only at hgq'
        cases hcl : s.clear with
        | true =>
          rw [hcl] at u3 hgq'
          have HG := Lib.hid (show gvO (obT T) n (r.drop (i + 1)) = q from hgq')
          clear hgq hgq' hd hxo hy hyo hym hob hsi hs hsv hv hfl hsvA hcell2 hc2 hcl u4 u5 u6 u7
          go_wp2_with fail
          refine KR.out.mono ?_
          rintro e w7 ⟨rfl, rfl⟩
          go_wp2_with fail
          refine KS.out.mono ?_
          rintro e w7 ⟨rfl, rfl⟩
          go_wp2_with fail
          go_roundg j
          case measure => omega
          case rel => exact ⟨i + 1, by go_num, by omega, rfl, HG.out⟩
        | false =>
          rw [hcl] at u3 hgq'
          have hqs : q = some s := by simpa using hgq'.symm
          subst hqs
          have CC := Lib.hid (show ∀ W, Calls Tryz.prog 59 #[.agg #[.int .i64 0, .int .i64 s.num, .string ⟨#[]⟩, .slice none 0 0]] W (fun e w' => e = .returned (.agg #[.int .i64 0, .int .i64 s.num, .string ⟨#[]⟩, .slice none 0 0]) ∧ Below W.heap.size W w') from fun W => clone_int s.num W)
          clear hgq hgq' hd hxo hy hyo hym hob hsi hs hsv hv hfl hsvA hcell2 hc2 hcl
          go_wp2_with fail
          refine KR.out.mono ?_
          rintro e w7 ⟨rfl, rfl⟩
          go_wp2_with fail
          refine KS.out.mono ?_
          rintro e w7 ⟨rfl, rfl⟩
          go_wp2_with fail
          refine (CC.out _).mono ?_
          rintro e w7 ⟨rfl, hb7⟩
          have HW7 := Lib.hid ((hb7.block w.heap.size HZ3.out).trans HW3.out)
          have HB7 := Lib.hid (HB3.out.trans (hb7.mono HB3.out.size))
          have HROW := Lib.hid (setRow_heap w7 w.heap.size _ #[.int .i64 0, .int .i64 s.num, .string ⟨#[]⟩, .slice none 0 0] _ _ HW7.out)
          have HBR := Lib.hid (sbelow_setRow HB7.out (g := w.heap.size) (Nat.le_refl _) #[.int .i64 0, .int .i64 s.num, .string ⟨#[]⟩, .slice none 0 0])
          clear hb7
          go_wp2_with (refine wpList_store_row rfl 33 (.tmp 6) (.tmp 50) rfl w.heap.size #[.int .i64 0, .int .i64 s.num, .string ⟨#[]⟩, .slice none 0 0] rfl rfl _ _ HW7.out (by kernel_rfl) rfl (by simp [Value.oneCell']) ?_)
          exact bodyPost_ret (results_rowP (P := Tryz.prog) rfl _ _ w.heap.size _ _ _ _ rfl HROW.out Tryz.underlying33 rfl (by kernel_rfl)) rfl ⟨rfl, HBR.out⟩
    · obtain rfl : i = r.length := by omega
      have hqn : q = none := by
        have := hgq.out
        rw [List.drop_length] at this
        exact this.symm
      subst hqn
      have HROW := Lib.hid (setRow_heap w3 w.heap.size _ #[.int .i64 0, .int .i64 0, .string ⟨#[]⟩, .slice none 0 0] _ _ HW3.out)
      have HBR := Lib.hid (sbelow_setRow HB3.out (g := w.heap.size) (Nat.le_refl _) #[.int .i64 0, .int .i64 0, .string ⟨#[]⟩, .slice none 0 0])
      clear hgq
      go_wp2_with (refine wpList_store_row rfl 33 (.tmp 6) (.tmp 52) rfl w.heap.size #[.int .i64 0, .int .i64 0, .string ⟨#[]⟩, .slice none 0 0] rfl rfl _ _ HW3.out (by kernel_rfl) rfl (by simp [Value.oneCell']) ?_)
      exact bodyPost_ret (results_rowP (P := Tryz.prog) rfl _ _ w.heap.size _ _ _ _ rfl HROW.out Tryz.underlying33 rfl (by kernel_rfl)) rfl ⟨rfl, HBR.out⟩
end Go.Proofs.YtnphgcbknfmapaaGreatDoor
namespace Go.Proofs.YtnphgcbknfmapaaGreatDoor
open Go.RowKit Go.Lib
set_option linter.unusedVariables false

end Go.Proofs.YtnphgcbknfmapaaGreatDoor
namespace Go.Proofs.YtnphgcbknfmapaaGreatDoor
open Go.RowKit Go.Lib
set_option linter.unusedVariables false

section
variable {w : World} {B a m : Nat} {T : List OM} {mx o : Int} {x : OM}
end
end Go.Proofs.YtnphgcbknfmapaaGreatDoor
namespace Go.Proofs.YtnphgcbknfmapaaGreatDoor
open Go.RowKit Go.Lib
set_option linter.unusedVariables false

/-- The table as it stands; what the law itself laid beside it. -/
def LS (B : Nat) (w0 w : World) (a m : Nat) (l : List OB) (mx : Int) (K : List (Nat × Obj)) : Prop :=
  ∃ T, TS w B a m T mx ∧ obT T = l ∧ Below B w0 w ∧ ∀ p ∈ K, w.heap[p.1]? = some p.2 ∧ p.1 ∉ a :: m :: blkT T
section
variable {B a m : Nat} {w0 w w' : World} {l l' : List OB} {mx mx' o : Int} {K : List (Nat × Obj)} {x : OB}
theorem TS.baseB {T : List OM} (h : TS w B a m T mx) : B ≤ w.heap.size := by
  have h1 := h.tab.base a (List.mem_cons_self ..)
  have h2 := h.tab.lt a (List.mem_cons_self ..)
  omega
theorem ls_step {T T' : List OM} (ht : TS w B a m T mx) (hb : Below B w0 w) (hK : ∀ p ∈ K, w.heap[p.1]? = some p.2 ∧ p.1 ∉ a :: m :: blkT T) (hs : StS w w' B a m T T' mx mx') (hl : obT T' = l') : LS B w0 w' a m l' mx' K := by
  refine ⟨T', hs.ts, hl, hb.trans (hs.chg.below ht.baseB fun i hi => ht.tab.base i hi), fun p hp => ?_⟩
  obtain ⟨h1, h2⟩ := hK p hp
  have hlt : p.1 < w.heap.size := (Array.getElem?_eq_some_iff.1 h1).1
  refine ⟨(hs.chg.block p.1 hlt h2).trans h1, fun hm => ?_⟩
  rcases List.mem_cons.1 hm with e | hm
  · exact h2 (by rw [e]; exact List.mem_cons_self ..)
  rcases List.mem_cons.1 hm with e | hm
  · exact h2 (by rw [e]; exact List.mem_cons_of_mem _ (List.mem_cons_self ..))
  rcases hs.new p.1 hm with e | e
  · exact h2 (List.mem_cons_of_mem _ (List.mem_cons_of_mem _ e))
  · omega
theorem LS.below (h : LS B w0 w a m l mx K) (hb : Below w.heap.size w w') : LS B w0 w' a m l mx K := by
  obtain ⟨T, ht, hl, h0, hK⟩ := h
  refine ⟨T, ht.keep hb, hl, h0.trans (hb.mono ht.baseB), fun p hp => ?_⟩
  obtain ⟨h1, h2⟩ := hK p hp
  exact ⟨(hb.block p.1 (Array.getElem?_eq_some_iff.1 h1).1).trans h1, h2⟩
/-- Something of the law's own, laid beside the table. -/
theorem LS.push (h : LS B w0 w a m l mx K) {g : Nat} {ob : Obj} (hb : Below w.heap.size w w') (hg : w.heap.size ≤ g) (hr : w'.heap[g]? = some ob) : LS B w0 w' a m l mx ((g, ob) :: K) := by
  obtain ⟨T, ht, hl, h0, hK⟩ := h
  refine ⟨T, ht.keep hb, hl, h0.trans (hb.mono ht.baseB), fun p hp => ?_⟩
  rcases List.mem_cons.1 hp with rfl | hp
  · exact ⟨hr, fun hm => by have := ht.tab.lt g hm; omega⟩
  · obtain ⟨h1, h2⟩ := hK p hp
    exact ⟨(hb.block p.1 (Array.getElem?_eq_some_iff.1 h1).1).trans h1, h2⟩
theorem LS.row {g : Nat} {ob : Obj} (h : LS B w0 w a m l mx K) (hp : (g, ob) ∈ K) : w.heap[g]? = some ob := by
  obtain ⟨T, ht, hl, h0, hK⟩ := h
  exact (hK _ hp).1
theorem LS.base (h : LS B w0 w a m l mx K) : Below B w0 w := by
  obtain ⟨T, ht, hl, h0, hK⟩ := h
  exact h0
theorem hasO_of {l : List OB} {o : Int} {x : OB} (h : getO l o = some x) : hasO l o = true := by unfold hasO; rw [h]; rfl
theorem new_L (w : World) : Calls Tryz.prog 17 #[] w fun e w' => e = .returned (.pointer (some ⟨w.heap.size + 1, 0, none⟩)) ∧ LS w.heap.size w w' (w.heap.size + 1) w.heap.size [] (-1) [] := by
  refine (new_c w).mono ?_
  rintro e w' ⟨rfl, ht, hb⟩
  refine ⟨rfl, [], ⟨ht, ?_, by simp, by simp⟩, rfl, hb, by simp⟩
  exact OkT.nil
theorem create0_L (h : LS B w0 w a m l mx K) (hfew : l.length < 512) (hmm : mx + 1 < 1073741824) :
    Calls Tryz.prog 12 #[.pointer (some ⟨a, 0, none⟩), .int .i64 (-1), .int .i64 (-1)] w fun e w' => e = .returned (.tuple #[.int .i64 (mx + 1), .int .i64 0]) ∧ LS B w0 w' a m (l ++ [newO mx (-1) (-1) []]) (mx + 1) K := by
  obtain ⟨T, ht, rfl, h0, hK⟩ := h
  refine (create_s0 ht (by simpa [obT] using hfew) hmm).mono ?_
  rintro e w' ⟨rfl, hs⟩
  exact ⟨rfl, ls_step ht h0 hK hs (by simp [obT, newS])⟩
theorem create_L (h : LS B w0 w a m l mx K) {p : Int} (hp : I64 p) (hx : getO l p = some x) (hfew : l.length < 512) (hmm : mx + 1 < 1073741824) (hsl : x.slots.length ≤ 1000) :
    Calls Tryz.prog 12 #[.pointer (some ⟨a, 0, none⟩), .int .i64 p, .int .i64 (-1)] w fun e w' => e = .returned (.tuple #[.int .i64 (mx + 1), .int .i64 0]) ∧ LS B w0 w' a m (l ++ [newO mx p (-1) (x.slots.map fun s => freshO s (mx + 1))]) (mx + 1) K := by
  obtain ⟨T, ht, rfl, h0, hK⟩ := h
  obtain ⟨y, hy, rfl⟩ := findT_of_getO hx
  refine (create_s ht hp hy (by simpa [obT] using hfew) hmm hsl).mono ?_
  rintro e w' ⟨rfl, sv, hs⟩
  exact ⟨rfl, ls_step ht h0 hK hs (by simp [obT, newS])⟩
theorem get_L (h : LS B w0 w a m l mx K) (ho : I64 o) (hx : hasO l o = true) (hpi : ∀ x ∈ l, I64 x.parent) (n : ByteArray) (hi : biB n = false) {q : Option SL} (hq : gvO l n (aboveO l o) = q) :
    Calls Tryz.prog 21 #[.pointer (some ⟨a, 0, none⟩), .int .i64 o, .string n] w fun e w' => e = .returned (gvV q) ∧ LS B w0 w' a m l mx K := by
  have H := h
  obtain ⟨T, ht, rfl, h0, hK⟩ := h
  unfold hasO at hx
  obtain ⟨x, hx⟩ := Option.isSome_iff_exists.1 hx
  obtain ⟨y, hy, rfl⟩ := findT_of_getO hx
  refine (get_l ht ho hy (fun z hz => hpi z.o (List.mem_map.2 ⟨z, hz, rfl⟩)) n hi hq).mono ?_
  rintro e w' ⟨rfl, hb⟩
  exact ⟨rfl, H.below hb⟩
end
end Go.Proofs.YtnphgcbknfmapaaGreatDoor
namespace Go.Proofs.YtnphgcbknfmapaaGreatDoor
open Go.RowKit Go.Lib
set_option linter.unusedVariables false

theorem Stp.under {w w1 w' : World} {B a m : Nat} {T : List OM} {mx o p : Int} (h : TB w B a m T mx) (hb : Below w.heap.size w w1) (hT : Tab w' B a m (updT T o (setP p)) mx) (hc : Chg (fun b => b ∈ blkT T) w1 w') (hp : p = -1 ∨ hasO (obT T) p = true) (hi : o ∉ rowO (obT T) OB.parent p) : Stp w w' B a m T (updT T o (setP p)) mx mx := by
  refine ⟨⟨hT, ?_, h.bare.upd o _⟩, (Chg.of_below hb).trans' hc ?_, ?_⟩
  · rw [obT_upd]
    exact h.ok.chparent hp hi
  · intro i _ hm
    exact List.mem_cons_of_mem _ (List.mem_cons_of_mem _ hm)
  · intro b hb
    rw [blkT_upd] at hb
    exact .inl hb
end Go.Proofs.YtnphgcbknfmapaaGreatDoor
namespace Go.Proofs.YtnphgcbknfmapaaGreatDoor
open Go.RowKit Go.Lib
set_option linter.unusedVariables false

/-- An object that is new, without properties, where it lies. -/
def newM (mx p ow : Int) (g : Nat) : OM := ⟨newO mx p ow [], g, .slice none 0 0, .slice none 0 0⟩
theorem Tab.grow {w w' : World} {B a m : Nat} {T : List OM} {mx p ow : Int} (h : Tab w B a m T mx) (g : Nat) (hg : w.heap.size ≤ g)
    (htab : w'.heap[a]? = some (.cells #[.map (some m), .int .i64 (mx + 1)] 84 (0, 0)))
    (hmap : w'.ownsMap Tryz.prog 3 ptrR m (T.length + 1) ((DataW.map (datT T)).put (.int .i64 (mx + 1)) (.lit (.int .i64 (g : Int)))))
    (hnew : w'.heap[g]? = some (.cells (newM mx p ow g).cells 29 (0, 0)))
    (hold : ∀ b ∈ blkT T, w'.heap[b]? = w.heap[b]?) (hf : T.length < 512) (hm : mx + 1 < 1073741824) : Tab w' B a m (T ++ [newM mx p ow g]) (mx + 1) := by
  have hlt := h.lt
  have hB := h.base a (List.mem_cons_self ..)
  have hla := hlt a (List.mem_cons_self ..)
  have hmx := h.mxr
  have hid : (newM mx p ow g).o.id = mx + 1 := rfl
  have hbk : blkT (T ++ [newM mx p ow g]) = blkT T ++ [g] := by simp [blkT, OM.blocks, newM, Value.ownBlock]
  have hlast : ∀ y ∈ T, y.o.id < (newM mx p ow g).o.id := fun y hy => by have := h.rng y hy; rw [hid]; omega
  refine ⟨htab, ?_, ?_, ?_, ?_, ?_, by simp; omega, by omega, ?_⟩
  · have e := datT_put T (newM mx p ow g) hlast
    rw [hid] at e
    rw [show (T ++ [newM mx p ow g]).length = T.length + 1 from by simp, ← e]
    exact hmap
  · intro x hx
    rcases List.mem_append.1 hx with hx | hx
    · exact (h.objs x hx).keep fun b hb => hold b (List.mem_flatMap.2 ⟨x, hx, hb⟩)
    · rw [List.mem_singleton] at hx
      subst hx
      exact ⟨hnew, World.ownsRow_nil _ _ _ _, World.ownsRow_nil _ _ _ _⟩
  · rw [hbk]
    have hs := h.sep
    rw [show a :: m :: (blkT T ++ [g]) = (a :: m :: blkT T) ++ [g] from rfl, List.nodup_append]
    refine ⟨hs, by simp, ?_⟩
    intro x hx y hy e
    rw [List.mem_singleton] at hy
    have := hlt x hx
    omega
  · rw [hbk]
    intro b hb
    rw [show a :: m :: (blkT T ++ [g]) = (a :: m :: blkT T) ++ [g] from rfl] at hb
    rcases List.mem_append.1 hb with hb | hb
    · exact h.base b hb
    · rw [List.mem_singleton] at hb
      omega
  · unfold SortO obT
    rw [List.map_append, List.pairwise_append]
    refine ⟨h.sort, by simp, ?_⟩
    intro x hx y hy
    obtain ⟨z, hz, rfl⟩ := List.mem_map.1 hx
    simp only [List.map_cons, List.map_nil, List.mem_singleton] at hy
    subst hy
    exact hlast z hz
  · intro x hx
    rcases List.mem_append.1 hx with hx | hx
    · have := h.rng x hx; omega
    · rw [List.mem_singleton] at hx
      subst hx
      rw [hid]
      omega
end Go.Proofs.YtnphgcbknfmapaaGreatDoor
namespace Go.Proofs.YtnphgcbknfmapaaGreatDoor
open Go.RowKit Go.Lib
set_option linter.unusedVariables false

def Falls (rk : Int → Nat) (l : List OB) : Prop := ∀ x ∈ l, ∀ y ∈ l, x.parent = y.id → rk y.id < rk x.id
theorem Falls.setP {rk : Int → Nat} {l : List OB} (h : Falls rk l) {c p : Int} (hp : (∀ x ∈ l, x.id ≠ p) ∨ rk p < rk c) : Falls rk (updO l c (setP p)) := by
  intro x hx y hy e
  obtain ⟨u, hu, hux⟩ := mem_updO hx
  obtain ⟨v, hv, hvy⟩ := mem_updO hy
  have hvid : y.id = v.id := by rcases hvy with ⟨_, rfl⟩ | ⟨_, rfl⟩ <;> rfl
  rw [hvid] at e ⊢
  rcases hux with ⟨huc, rfl⟩ | ⟨huc, rfl⟩
  · have e' : p = v.id := e
    show rk v.id < rk u.id
    rcases hp with hp | hp
    · exact absurd e'.symm (hp v hv)
    · rw [← e', huc]; exact hp
  · exact h x hu v hv e
theorem Falls.row {rk : Int → Nat} {l : List OB} (h : Falls rk l) {c p : Int} (hp : (∀ x ∈ l, x.id ≠ p) ∨ rk p < rk c) : c ∉ rowO l OB.parent p := by
  rcases hp with hp | hp
  · rw [row_none (getO_none.2 hp)]
    simp
  · intro hc
    have := ((run_falls h (l.length + 1) p).2 c hc).1
    omega
theorem ids_none {l : List OB} {p : Int} (h : ∀ x ∈ l, x.id ≠ p) (c : Int) (f : OB → OB) (hf : ∀ x, (f x).id = x.id) : ∀ x ∈ updO l c f, x.id ≠ p := by
  intro x hx
  obtain ⟨u, hu, ⟨_, rfl⟩ | ⟨_, rfl⟩⟩ := mem_updO hx
  · rw [hf]; exact h u hu
  · exact h x hu
theorem foldl_snoc_take {α : Type} (g : α → Int → α) (a : α) {r : List Int} {k : Nat} {x : Int} (h : r[k]? = some x) : (r.take (k + 1)).foldl g a = g ((r.take k).foldl g a) x := by
  rw [List.take_add_one, h]
  simp

theorem blkT_filter {T : List OM} (q : OM → Bool) : (blkT (T.filter q)).Sublist (blkT T) := by
  unfold blkT
  induction T with
  | nil => simp
  | cons x r ih =>
    rw [List.filter_cons, List.flatMap_cons]
    cases q x with
    | true => simp only [if_true, List.flatMap_cons]; exact (List.Sublist.refl _).append ih
    | false => exact ih.trans (List.sublist_append_right _ _)
theorem Tab.drop {w w' : World} {B a m n : Nat} {T : List OM} {mx : Int} (h : Tab w B a m T mx) (o : Int) (hmap : w'.ownsMap Tryz.prog 3 ptrR m n ((DataW.map (datT T)).del (.int .i64 o))) (hold : ∀ b, b < w.heap.size → b ≠ m → w'.heap[b]? = w.heap[b]?) : Tab w' B a m (T.filter fun x => !(x.o.id == o)) mx := by
  have hs := h.sep
  have hlt := h.lt
  have hs' := hs
  rw [List.nodup_cons, List.nodup_cons] at hs'
  have hsub := blkT_filter (T := T) (fun x => !(x.o.id == o))
  have hmem : ∀ b ∈ a :: m :: blkT (T.filter fun x => !(x.o.id == o)), b ∈ a :: m :: blkT T := fun b hb => by
    rcases List.mem_cons.1 hb with rfl | hb
    · exact List.mem_cons_self ..
    rcases List.mem_cons.1 hb with rfl | hb
    · exact List.mem_cons_of_mem _ (List.mem_cons_self ..)
    exact List.mem_cons_of_mem _ (List.mem_cons_of_mem _ (hsub.subset hb))
  refine ⟨?_, ?_, ?_, ?_, fun b hb => h.base b (hmem b hb), ?_, Nat.le_trans (List.length_filter_le _ _) h.few, h.mxr, fun x hx => h.rng x (List.mem_filter.1 hx).1⟩
  · rw [hold a (hlt a (List.mem_cons_self ..)) (fun e => hs'.1 (by rw [e]; exact List.mem_cons_self ..))]
    exact h.tab
  · rw [datT_del] at hmap
    have := ownsMap_size hmap
    rw [datT_size] at this
    exact this
  · intro x hx
    have hxm := (List.mem_filter.1 hx).1
    refine (h.objs x hxm).keep fun b hb => ?_
    have hbm : b ∈ blkT T := List.mem_flatMap.2 ⟨x, hxm, hb⟩
    exact hold b (hlt b (List.mem_cons_of_mem _ (List.mem_cons_of_mem _ hbm))) (fun e => hs'.2.1 (by rw [← e]; exact hbm))
  · exact List.Nodup.sublist ((List.Sublist.refl [a, m]).append hsub) hs
  · unfold SortO obT
    exact List.Pairwise.sublist ((List.filter_sublist).map OM.o) h.sort
end Go.Proofs.YtnphgcbknfmapaaGreatDoor
namespace Go.Proofs.YtnphgcbknfmapaaGreatDoor
open Go.RowKit Go.Lib
set_option linter.unusedVariables false

/-- What holds while the children are given another parent. -/
structure RcP (w wr : World) (B a m : Nat) (T Tk : List OM) (mx : Int) (rk : Int → Nat) (o : Int) (x0 : OM) (k : Nat) : Prop where
  stp : Stp w wr B a m T Tk mx mx
  eq : obT Tk = ((kidsO (obT T) o).take k).foldl (fun l c => updO l c (setP x0.o.parent)) (obT T)
  at_ : findT Tk o = some x0
  fal : Falls rk (obT Tk)
  par : (∀ x ∈ obT Tk, x.id ≠ x0.o.parent) ∨ rk x0.o.parent < rk o
  ids : idsO (obT Tk) = idsO (obT T)
theorem RcP.step {w wr w2 : World} {B a m : Nat} {T Tk : List OM} {mx : Int} {rk : Int → Nat} {o : Int} {x0 : OM} {k : Nat} {c : Int} (h : RcP w wr B a m T Tk mx rk o x0 k) (hc : (kidsO (obT T) o)[k]? = some c) (hrc : rk o < rk c)
    (hpp : x0.o.parent = -1 ∨ hasO (obT Tk) x0.o.parent = true) (hT : Tab w2 B a m (updT Tk c (setP x0.o.parent)) mx) (hch : Chg (fun b => b ∈ blkT Tk) wr w2) : RcP w w2 B a m T (updT Tk c (setP x0.o.parent)) mx rk o x0 (k + 1) := by
  have hlt : (∀ x ∈ obT Tk, x.id ≠ x0.o.parent) ∨ rk x0.o.parent < rk c := h.par.imp id fun h1 => Nat.lt_trans h1 hrc
  have hne : c ≠ o := fun e => by rw [e] at hrc; exact Nat.lt_irrefl _ hrc
  refine ⟨h.stp.trans (Stp.under h.stp.tb (Below.refl _ _) hT hch hpp (h.fal.row hlt)), ?_, ?_, ?_, ?_, ?_⟩
  · rw [obT_upd, h.eq, foldl_snoc_take _ _ hc]
  · rw [findT_upd Tk c (setP x0.o.parent) (fun _ => rfl), h.at_]
    have := (findT_some h.at_).2
    have e : (x0.o.id == c) = false := by rw [this]; simpa using Ne.symm hne
    simp only [Option.map_some, e]
    rfl
  · rw [obT_upd]
    exact h.fal.setP hlt
  · rw [obT_upd]
    exact h.par.imp (fun h1 => ids_none h1 c (setP x0.o.parent) (fun _ => rfl)) id
  · rw [obT_upd, updO_ids _ _ (setP x0.o.parent) (fun _ => rfl), h.ids]
/-- What holds while what was within is put nowhere. -/
structure RcL (w wr : World) (B a m : Nat) (T T1 Tk : List OM) (mx : Int) (o : Int) (k : Nat) : Prop where
  stp : Stp w wr B a m T Tk mx mx
  eq : obT Tk = ((contO (obT T1) o).take k).foldl (fun l c => updO l c (setL (-1))) (obT T1)
  ids : idsO (obT Tk) = idsO (obT T)
theorem RcL.step {w wr : World} {B a m : Nat} {T T1 Tk : List OM} {mx : Int} {o : Int} {k : Nat} {c : Int} (h : RcL w wr B a m T T1 Tk mx o k) (hc : (contO (obT T1) o)[k]? = some c) {x : OM} (hx : findT Tk c = some x) :
    RcL w (wr.setCell ⟨x.g, 3, none⟩ (.int .i64 (-1))) B a m T T1 (updT Tk c (setL (-1))) mx o (k + 1) := by
  have hxm := (findT_some hx).1
  have ht := h.stp.tb
  refine ⟨h.stp.trans ⟨⟨ht.tab.store hx 3 (.int .i64 (-1)) (setL (-1)) (fun _ => rfl) rfl rfl rfl, ?_, ht.bare.upd c _⟩, Chg.set _ (List.mem_cons_of_mem _ (List.mem_cons_of_mem _ (blk_in hxm))) _, ?_⟩, ?_, ?_⟩
  · rw [obT_upd]
    exact ht.ok.move (.inl rfl) (by rw [row_none (by rw [getO_obT, ht.tab.neg]; rfl)]; simp)
  · intro b hb
    rw [blkT_upd] at hb
    exact .inl hb
  · rw [obT_upd, h.eq, foldl_snoc_take _ _ hc]
  · rw [obT_upd, updO_ids _ _ (setL (-1)) (fun _ => rfl), h.ids]
end Go.Proofs.YtnphgcbknfmapaaGreatDoor
namespace Go.Proofs.YtnphgcbknfmapaaGreatDoor
open Go.RowKit Go.Lib
set_option linter.unusedVariables false

end Go.Proofs.YtnphgcbknfmapaaGreatDoor
namespace Go.Proofs.YtnphgcbknfmapaaGreatDoor
open Go.RowKit Go.Lib
set_option linter.unusedVariables false

/-- The cells of an object without properties. -/
def bareCs (x : OB) : Array Value := #[.int .i64 x.id, .int .i64 x.parent, .int .i64 x.owner, .int .i64 x.place, .int .i64 x.flags, .int .i64 x.quota, .string x.name, .slice none 0 0, .slice none 0 0, .slice none 0 0]

theorem bare_one (x : OB) : (bareCs x).all (·.oneCell') = true := by simp [bareCs, Value.oneCell']
set_option maxRecDepth 100000 in
set_option maxHeartbeats 4000000 in
theorem object_c (x : OB) (w : World) : Calls Tryz.prog 43 #[.agg (bareCs x)] w fun e w' => e = .returned (.agg (bareCs x)) ∧ Below w.heap.size w w' := by
  obtain ⟨id, parent, owner, place, flags, quota, name, defs, slots⟩ := x
  unfold bareCs
  go_enter Tryz.func43, Tryz.ntmps43
  go_wp2_with fail
  refine (Tryz.slices_Clone_string_nil 0 0 _).mono ?_
  rintro e w1 ⟨rfl, rfl⟩
  go_wp2_with fail
  refine wp_loop_rounds 1 ?_
  rw [rounds_succ]
  go_wp2_with fail
  refine wp_loop_rounds 1 ?_
  rw [rounds_succ]
  go_wp2_with fail
  exact bodyPost_ret (results_cell_row (P := Tryz.prog) rfl _ _ (w.heap.size + 1) _ _ _ _ rfl (heap_alloc2_new _ _ _) Tryz.underlying29 rfl (by kernel_rfl)) rfl ⟨rfl, ((Below.refl _ _).alloc (Nat.le_refl _) _).alloc (by simp) _⟩

theorem results_row_tmp {P : Program} {fn : Func} {p u : Tmp} {ty : TypeId} (h : fn.results = #[.cell p ty, .tmp u]) (tmps : Array Value) (w : World) (g : Nat) (t : TypeId) (cs : Array Value) (fr : Nat × Nat) (d : TypeDesc)
    (hp : tmps.getD p undef = .pointer (some ⟨g, 0, none⟩)) (hg : w.heap[g]? = some (.cells cs t fr))
    (hu : P.underlying ty = some d) (hd : (match d with | .struct _ | .array _ _ => true | _ => false) = true) (hi : (P.info? ty).map (·.size) = some cs.size) :
    (results fn tmps).run P w = .ok (.tuple #[.agg cs, tmps.getD u undef]) w := by
  rw [results_cell_tmp h, hp]
  simp [asAddr, run_loadVar_row w g t ty cs fr d hg hu hd hi, Result.andThen]
/-- An object without properties in memory has such cells. -/
theorem bare_cells {T : List OM} (hb : BareM T) {x : OM} (hx : x ∈ T) : x.cells = bareCs x.o := by
  unfold OM.cells bareCs
  rw [(hb x hx).1, (hb x hx).2]
set_option maxRecDepth 100000 in
set_option maxHeartbeats 4000000 in
theorem get_c {w : World} {B a m : Nat} {T : List OM} {mx o : Int} (h : TB w B a m T mx) (ho : I64 o) {x : OM} (hx : findT T o = some x) :
    Calls Tryz.prog 13 #[.pointer (some ⟨a, 0, none⟩), .int .i64 o] w fun e w' => e = .returned (.tuple #[.agg (bareCs x.o), .bool true]) ∧ Below w.heap.size w w' := by
  have hxm := (findT_some hx).1
  have hb1 : Below w.heap.size w (w.alloc (.cells #[.int .i64 0, .int .i64 0, .int .i64 0, .int .i64 0, .int .i64 0, .int .i64 0, .string ⟨#[]⟩, .slice none 0 0, .slice none 0 0, .slice none 0 0] 29)) := (Below.refl _ _).alloc (Nat.le_refl _) _
  have HB1 := Lib.hid hb1
  have ht := h.tab.below hb1
  clear hb1
  have c0 := ht.c0
  have hl := ht.look ho
  rw [ptrT_some hx] at hl
  have hg := (ht.objs x hxm).blk
  rw [bare_cells h.bare hxm] at hg
  have CO := object_c x.o
  unfold bareCs at CO
  have CO := Lib.hid CO
  have HG := Lib.hid hg
  have hcl := fun j => (ht.objs x hxm).cell j
  rw [bare_cells h.bare hxm] at hcl
  have d0 := hcl 0
  have d1 := hcl 1
  have d2 := hcl 2
  have d3 := hcl 3
  have d4 := hcl 4
  have d5 := hcl 5
  have d6 := hcl 6
  have d7 := hcl 7
  have d8 := hcl 8
  have d9 := hcl 9
  unfold bareCs at d0 d1 d2 d3 d4 d5 d6 d7 d8 d9
  simp at d0 d1 d2 d3 d4 d5 d6 d7 d8 d9
  clear h hg hcl ht hx
  go_enter Tryz.func13, Tryz.ntmps13
  go_wp2_with fail
  refine CO.out _ |>.mono ?_
  rintro e w2 ⟨rfl, hb2⟩
  have hz2 : w2.heap[w.heap.size]? = some (.cells #[.int .i64 0, .int .i64 0, .int .i64 0, .int .i64 0, .int .i64 0, .int .i64 0, .string ⟨#[]⟩, .slice none 0 0, .slice none 0 0, .slice none 0 0] 29 (0, 0)) := (hb2.block _ (by simp)).trans (heap_alloc_new _ _)
  have HZ2 := Lib.hid hz2
  have HB2 := Lib.hid (HB1.out.trans (hb2.mono (by simp)))
  clear hb2 hz2 c0 hl d0 d1 d2 d3 d4 d5 d6 d7 d8 d9
  have hr := setRow_heap w2 w.heap.size _ (bareCs x.o) _ _ HZ2.out
  have HROW := Lib.hid hr
  have HBR := Lib.hid (below_setRow HB2.out (g := w.heap.size) (Nat.le_refl _) (bareCs x.o))
  clear hr
  go_wp2_with (refine wpList_store_row rfl 29 (.tmp 4) (.tmp 19) rfl w.heap.size #[.int .i64 x.o.id, .int .i64 x.o.parent, .int .i64 x.o.owner, .int .i64 x.o.place, .int .i64 x.o.flags, .int .i64 x.o.quota, .string x.o.name, .slice none 0 0, .slice none 0 0, .slice none 0 0] rfl rfl _ _ HZ2.out (by kernel_rfl) rfl (bare_one x.o) ?_)
  exact bodyPost_ret (results_row_tmp (P := Tryz.prog) rfl _ _ w.heap.size _ (bareCs x.o) _ _ rfl HROW.out Tryz.underlying29 rfl (by kernel_rfl)) rfl ⟨rfl, HBR.out⟩
end Go.Proofs.YtnphgcbknfmapaaGreatDoor
namespace Go.Proofs.YtnphgcbknfmapaaGreatDoor
open Go.RowKit Go.Lib
set_option linter.unusedVariables false

def layO (l : List OB) (d : Int) (f : SL) : List OB := updO l d fun y => { y with slots := [f] }
def layAll (l : List OB) (ps : List (Int × SL)) : List OB := ps.foldl (fun l p => layO l p.1 p.2) l
theorem layAll_snoc (l : List OB) (ps : List (Int × SL)) (d : Int) (f : SL) : layAll l (ps ++ [(d, f)]) = layO (layAll l ps) d f := by
  unfold layAll
  rw [List.foldl_append]
  rfl
theorem rep_lay {l : List OB} (hs : SortO l) {d : Int} {x : OB} (hx : getO l d = some x) (f : SL) : repO l d { x with slots := [f] } = layO l d f := by
  unfold repO layO updO
  apply List.map_congr_left
  intro y hy
  by_cases e : y.id = d
  · have b : (y.id == d) = true := by simpa using e
    have h2 := getO_of_mem hs hy
    rw [e, hx] at h2
    injection h2 with h2
    rw [b, if_pos rfl, if_pos rfl, h2]
  · have b : (y.id == d) = false := by simpa using e
    rw [b]
    rfl
theorem findT_rep_ne {T : List OM} {d k : Int} {x' : OM} (hid : x'.o.id = d) (h : k ≠ d) : findT (repT T d x') k = findT T k := by
  unfold findT repT
  induction T with
  | nil => rfl
  | cons y r ih =>
    rw [List.map_cons, List.find?_cons, List.find?_cons, ih]
    by_cases e : y.o.id = d
    · have b1 : (y.o.id == d) = true := by simpa using e
      have b2 : (x'.o.id == k) = false := by simp; omega
      have b3 : (y.o.id == k) = false := by simp; omega
      simp only [b1, if_true, b2, b3]
    · have b1 : (y.o.id == d) = false := by simpa using e
      simp only [b1, if_false, Bool.false_eq_true]
theorem findT_rep_eq {T : List OM} {d : Int} {x x' : OM} (hid : x'.o.id = d) (h : findT T d = some x) : findT (repT T d x') d = some x' := by
  unfold findT at h ⊢
  unfold repT
  induction T with
  | nil => cases h
  | cons y r ih =>
    rw [List.find?_cons] at h
    rw [List.map_cons, List.find?_cons]
    by_cases e : y.o.id = d
    · have b1 : (y.o.id == d) = true := by simpa using e
      have b2 : (x'.o.id == d) = true := by simpa using hid
      simp only [b1, if_true, b2]
    · have b1 : (y.o.id == d) = false := by simpa using e
      rw [b1] at h
      simp only [b1, if_false, Bool.false_eq_true]
      exact ih h
/-- What a round of Add leaves ahead of the sort: one property laid. -/
def LyR (wr : World) (y : OM) (f : SL) (wx : World) : Prop :=
  ∃ g9 cap wb w9, Below wr.heap.size wr wb ∧ wb.grownBy w9 none ∧ w9.ownsRow wr.heap.size 35 8 (.slice (some ⟨g9, 0, none⟩) 1 cap) 1 f.cells ∧ wx = w9.setCell ⟨y.g, 8, none⟩ (.slice (some ⟨g9, 0, none⟩) 1 cap)
theorem lay_row {wr wb w9 : World} {y : OM} {B g9 cap : Nat} (hob : ObjAt wr B y) (hbb : Below wr.heap.size wr wb) (hg : wb.grownBy w9 none) :
    (w9.setCell ⟨y.g, 8, none⟩ (.slice (some ⟨g9, 0, none⟩) 1 cap)).heap[y.g]? = some (.cells (y.cells.setIfInBounds 8 (.slice (some ⟨g9, 0, none⟩) 1 cap)) 29 (0, 0)) := by
  have hxg : y.g < wr.heap.size := hob.lt y.g (OM.mem_blocks.2 (.inl rfl))
  have hzb := hbb.size
  exact heap_setCell_same w9 y.g 8 _ _ _ (((hg.block y.g (by omega) (by simp)).trans (hbb.block y.g hxg)).trans hob.blk)
/-- How far the properties are laid. -/
structure LyI (w6 wr : World) (B a m : Nat) (T1 Tk : List OM) (mx : Int) (r : List Int) (fs : List SL) (i : Nat) : Prop where
  st : StS w6 wr B a m T1 Tk mx mx
  ob : obT Tk = layAll (obT T1) ((r.zip fs).take i)
  keep : ∀ j, i ≤ j → ∀ d, r[j]? = some d → findT Tk d = findT T1 d
  laid : ∀ k, k < i → ∀ d f, r[k]? = some d → fs[k]? = some f → ∃ y, findT Tk d = some y ∧ y.o.slots = [f]
theorem LyI.start {w6 : World} {B a m : Nat} {T1 : List OM} {mx : Int} {r : List Int} {fs : List SL} (h : TS w6 B a m T1 mx) : LyI w6 w6 B a m T1 T1 mx r fs 0 :=
  ⟨.refl h, rfl, fun _ _ _ _ => rfl, fun k hk => by omega⟩
theorem LyI.next {w6 wr wb w9 : World} {B a m : Nat} {T1 Tk : List OM} {mx : Int} {r : List Int} {fs : List SL} {i g9 cap : Nat} (h : LyI w6 wr B a m T1 Tk mx r fs i) (hn : r.Nodup) {d : Int} (hd : r[i]? = some d) {f : SL} (hf : fs[i]? = some f) {y : OM} (hy : findT Tk d = some y)
    (hsv : y.sv = .slice none 0 0) (hfl : FlatS f) (hbb : Below wr.heap.size wr wb) (hg : wb.grownBy w9 none) (hown : w9.ownsRow wr.heap.size 35 8 (.slice (some ⟨g9, 0, none⟩) 1 cap) 1 f.cells) :
    ∃ Tk', LyI w6 (w9.setCell ⟨y.g, 8, none⟩ (.slice (some ⟨g9, 0, none⟩) 1 cap)) B a m T1 Tk' mx r fs (i + 1) := by
  have hst := add_slot h.st.ts hy hbb hsv hg hown (by rw [show w9.heap.size = (w9.setCell ⟨y.g, 8, none⟩ (.slice (some ⟨g9, 0, none⟩) 1 cap)).heap.size from by simp [World.setCell]]; exact Below.refl _ _) hfl
  have hyo := (findT_some hy).2
  have hz : (r.zip fs)[i]? = some (d, f) := by rw [List.getElem?_zip_eq_some]; exact ⟨hd, hf⟩
  have hne : ∀ k e, k ≠ i → r[k]? = some e → e ≠ d := by
    rintro k e hk he rfl
    have h1 := List.getElem?_eq_some_iff.1 he
    have h2 := List.getElem?_eq_some_iff.1 hd
    exact hk ((List.getElem_inj (h₀ := h1.1) (h₁ := h2.1) hn).1 (h1.2.trans h2.2.symm))
  refine ⟨_, h.st.trans hst, ?_, ?_, ?_⟩
  · rw [obT_rep, rep_lay h.st.ts.tab.sort (by rw [getO_obT, hy]; rfl), List.take_add_one, hz, Option.toList_some, layAll_snoc, h.ob]
  · intro j hj e he
    refine (findT_rep_ne ?_ (hne j e (by omega) he)).trans (h.keep j (by omega) e he)
    exact hyo
  · intro k hk e f' he hf'
    by_cases hki : k = i
    · subst hki
      rw [hd] at he
      rw [hf] at hf'
      injection he with he
      injection hf' with hf'
      subst he
      subst hf'
      exact ⟨_, findT_rep_eq hyo hy, rfl⟩
    · obtain ⟨y', h1, h2⟩ := h.laid k (by omega) e f' he hf'
      refine ⟨y', (findT_rep_ne ?_ (hne k e hki he)).trans h1, h2⟩
      exact hyo
end Go.Proofs.YtnphgcbknfmapaaGreatDoor
