/- Contracts of the functions that the statement reaches, and the plain mathematics beneath: several texts joined. -/
import Derived.Deep.MidRow
import Derived.Deep.Upon
import Derived.Deep.RegionHeld3
import Derived.Test.YtnphgcbknfmapaaGreatDoorWowAD
import Derived.Test.YtnphgcbknfmapaaGreatDoorWowAC
import Derived.Test.YtnphgcbknfmapaaGreatDoorWowAB
import Derived.Test.YtnphgcbknfmapaaGreatDoorShelf
namespace Go.Proofs.YtnphgcbknfmapaaGreatDoor
open Go.RowKit Go.Lib
set_option linter.unusedVariables false
set_option linter.unusedSimpArgs false
def putL : Array Value → Nat → List Value → Array Value
  | cur, _, [] => cur
  | cur, o, v :: r => putL (cur.setIfInBounds o v) (o + 1) r
theorem putL_size : ∀ (vs : List Value) (o : Nat) (cur : Array Value), (putL cur o vs).size = cur.size
  | [], _, _ => rfl
  | v :: r, o, cur => by rw [putL, putL_size r]; simp
theorem putL_list : ∀ (vs : List Value) (o : Nat) (cur : Array Value), o + vs.length ≤ cur.size → (putL cur o vs).toList = cur.toList.take o ++ (vs ++ cur.toList.drop (o + vs.length))
  | [], o, cur, _ => by simp [putL]
  | v :: r, o, cur, h => by
    have h1 : o < cur.toList.length := by simp at h ⊢; omega
    have h2 : (cur.toList.take o).length = o := by rw [List.length_take]; omega
    rw [putL, putL_list r (o + 1) _ (by simp at h ⊢; omega), Array.toList_setIfInBounds, List.set_eq_take_append_cons_drop, if_pos h1, List.take_append, List.drop_append, h2]
    have e1 : o + 1 - o = 1 := by omega
    have e2 : o + 1 + r.length - o = r.length + 1 := by omega
    have e3 : o + 1 + (r.length) = o + (r.length + 1) := by omega
    rw [e1, e2, List.take_of_length_le (l := cur.toList.take o) (by omega), List.drop_of_length_le (l := cur.toList.take o) (by omega)]
    simp only [List.take_succ_cons, List.take_zero, List.drop_succ_cons, List.drop_drop, List.length_cons, List.nil_append, List.append_assoc, List.cons_append]
    rw [show o + (r.length + 1) = o + 1 + r.length from by omega]
theorem heap_setCells_same (g t : Nat) : ∀ (vs : List Value) (o : Nat) (w : World) (cur : Array Value), w.heap[g]? = some (.cells cur t (0, 0)) → (w.setCells g o vs).heap[g]? = some (.cells (putL cur o vs) t (0, 0))
  | [], _, _, _, h => h
  | v :: r, o, w, cur, h => heap_setCells_same g t r (o + 1) _ _ (heap_setCell_same w g o _ _ _ h)
theorem size_setCells' (b : Nat) : ∀ (vs : List Value) (o : Nat) (w : World), (w.setCells b o vs).heap.size = w.heap.size
  | [], _, _ => rfl
  | v :: r, o, w => by rw [World.setCells, size_setCells' b r]; simp [World.setCell]
/-- The sixteen cells of two slots, laid in the order turned. -/
theorem two_turned (cur : Array Value) (s t : SL) (h : 16 ≤ cur.size) : (putL (putL cur 8 t.cells) 0 s.cells).toList.take 16 = s.cells ++ t.cells := by
  rw [putL_list _ _ _ (by rw [putL_size]; show 0 + 8 ≤ _; omega), putL_list _ _ _ (by show 8 + 8 ≤ _; omega)]
  have h2 : (cur.toList.take 8).length = 8 := by rw [List.length_take]; simp; omega
  have hs : s.cells.length = 8 := rfl
  have ht : t.cells.length = 8 := rfl
  rw [List.take_zero, List.nil_append, Nat.zero_add, hs, List.drop_append, h2, List.drop_of_length_le (by omega)]
  rw [Nat.sub_self, List.drop_zero, List.nil_append, List.take_append, hs, List.take_of_length_le (by omega)]
  rw [show 16 - 8 = 8 from rfl, List.take_append, ht, List.take_of_length_le (l := t.cells) (by omega), Nat.sub_self, List.take_zero, List.append_nil]
/-- Two slots have changed their places. -/
def Swp (w : World) (b : Nat) (s t : SL) (w' : World) : Prop := ∃ w1, Below w.heap.size w w1 ∧ Below w.heap.size ((w1.setCells b 8 t.cells).setCells b 0 s.cells) w'
theorem Swp.drew {w w' : World} {b : Nat} {s t : SL} (h : Swp w b s t w') : Swp w b s t w'.drew := by
  obtain ⟨w1, h1, h2⟩ := h
  exact ⟨w1, h1, h2.drew⟩
theorem swp_own {w w' : World} {B b c : Nat} {s t : SL} (h : w.ownsRow B 35 8 (.slice (some ⟨b, 0, none⟩) 2 c) 2 ([t, s].flatMap SL.cells)) (hs : Swp w b s t w') :
    w'.ownsRow B 35 8 (.slice (some ⟨b, 0, none⟩) 2 c) 2 ([s, t].flatMap SL.cells) := by
  obtain ⟨w1, h1, h2⟩ := hs
  obtain ⟨hl, ⟨e, _⟩ | ⟨g, cap, cur, e, hB, hg, hn, hc, hz, hx⟩⟩ := h
  · cases e
  · injection e with e1 e2 e3
    injection e1 with e1
    injection e1 with e1 _ _
    subst e1
    subst e3
    have hbz : b < w.heap.size := (Array.getElem?_eq_some_iff.1 hg).1
    have hg1 := heap_setCells_same b 35 s.cells 0 _ _ (heap_setCells_same b 35 t.cells 8 w1 cur ((h1.block b hbz).trans hg))
    refine ⟨rfl, .inr ⟨b, c, _, rfl, hB, (h2.block b hbz).trans hg1, hn, hc, by rw [putL_size, putL_size]; exact hz, ?_⟩⟩
    rw [show 2 * 8 = 16 from rfl, two_turned cur s t (by omega)]
    simp
theorem chg_setCells (b : Nat) : ∀ (vs : List Value) (o : Nat) (w : World), Chg (fun k => k = b) w (w.setCells b o vs)
  | [], _, w => .refl _ w
  | v :: r, o, w => (Chg.set (S := fun k => k = b) w (p := ⟨b, o, none⟩) rfl v).trans (chg_setCells b r (o + 1) _)
theorem swp_chg {w w' : World} {b : Nat} {s t : SL} (hs : Swp w b s t w') : Chg (fun k => k = b) w w' := by
  obtain ⟨w1, h1, h2⟩ := hs
  have hz := h1.size
  have h3 := ((Chg.of_below (S := fun k => k = b) h1).trans (chg_setCells b t.cells 8 w1)).trans (chg_setCells b s.cells 0 _)
  exact ⟨h2.os.trans h3.os, h2.tape.trans h3.tape, h2.output.trans h3.output, Nat.le_trans (by rw [size_setCells', size_setCells']; exact hz) h2.size, fun k hk hn => (h2.block k hk).trans (h3.block k hk hn)⟩
/-- The table behind the sort of an object's two slots. -/
theorem swp_S {w w' : World} {B a m : Nat} {T : List OM} {mx o : Int} (h : TS w B a m T mx) {x : OM} (hx : findT T o = some x) {b c : Nat} {s t : SL} (hsv : x.sv = .slice (some ⟨b, 0, none⟩) 2 c) (hsl : x.o.slots = [t, s]) (hs : Swp w b s t w') :
    StS w w' B a m T (repT T o { x with o := { x.o with slots := [s, t] } }) mx mx := by
  have hxm := (findT_some hx).1
  have hob := h.tab.objs x hxm
  have hnd := h.tab.nodupX hxm
  have hbm : b ∈ x.blocks := OM.mem_blocks.2 (.inr (.inr (by rw [hsv]; rfl)))
  have hne : x.g ≠ b ∧ ∀ k, x.dv.ownBlock = some k → k ≠ b := by
    unfold OM.blocks at hnd
    rw [hsv] at hnd
    have e1 : (Value.slice (some ⟨b, 0, none⟩) 2 c).ownBlock.toList = [b] := rfl
    rw [e1, List.nodup_cons, List.nodup_append] at hnd
    refine ⟨fun e => hnd.1 (by rw [e]; simp), fun k hk e => ?_⟩
    exact hnd.2.2.2 k (by rw [hk]; simp) b (by simp) e
  have hch := swp_chg hs
  refine h.rep hx _ rfl rfl (hch.mono fun i _ e => by rw [e]; exact hbm) ⟨?_, ?_, ?_⟩ (fun k hk => .inl hk) hnd ?_ ?_
  · exact (hch.block x.g (hob.lt _ (OM.mem_blocks.2 (.inl rfl))) hne.1).trans hob.blk
  · exact ownsRow_same hob.defs fun k hk => hch.block k (hob.lt _ (OM.mem_blocks.2 (.inr (.inl hk)))) (hne.2 k hk)
  · have h1 := hob.slots
    rw [hsv, hsl] at h1
    show w'.ownsRow B _ 8 x.sv _ _
    rw [hsv]
    exact swp_own h1 hs
  · intro f hf
    refine h.flat x hxm f ?_
    rw [hsl]
    simp at hf ⊢
    rcases hf with e | e
    · exact .inr e
    · exact .inl e
  · exact ⟨fun e => (nomatch e), (h.bare x hxm).2⟩
end Go.Proofs.YtnphgcbknfmapaaGreatDoor
namespace Go.Proofs.YtnphgcbknfmapaaGreatDoor
open Go.RowKit Go.Lib
set_option linter.unusedVariables false
set_option linter.unusedSimpArgs false
theorem slot_oneW (s : SL) : s.cells.toArray.all (·.oneCell') = true := by
  unfold SL.cells
  simp [Value.oneCell']
theorem slot_st {op : Oper} {a : Act} {w : World} {K : Act → World → Prop} {Q : Exit → Act → World → Prop} (x y : Operand) (ho : op.op = .store 35 x y) (b o : Nat) (hx : a.eval x = .pointer (some ⟨b, o, none⟩)) (s : SL) (hy : a.eval y = s.val)
    (ht : w.there b o 8) (h : K (a.put op.dst undef) (w.setCells b o s.cells)) : op.wp Tryz.prog a w K Q :=
  wp_store_mid 35 x y ho b o s.cells.toArray hx hy ht (by kernel_rfl) (slot_oneW s) h
theorem slot_ld {op : Oper} {a : Act} {w : World} {K : Act → World → Prop} {Q : Exit → Act → World → Prop} (x : Operand) (ho : op.op = .load 35 x) (b o : Nat) (hx : a.eval x = .pointer (some ⟨b, o, none⟩)) (s : SL)
    (hc : w.rangeAt b o s.cells) (h : K (a.put op.dst s.val) w) : op.wp Tryz.prog a w K Q :=
  wp_load_mid 35 x ho b o hx s.cells _ hc Tryz.underlying35 rfl (by kernel_rfl) h
set_option maxHeartbeats 1000000 in
theorem cmpS_lt (s t : SL) (hl : Op.bytesLess s.name.toList t.name.toList = true) (w : World) :
    Calls Tryz.prog 109 #[s.val, t.val] w fun e w' => e = .returned (.int .i64 (-1)) ∧ Below w.heap.size w w' := by
  have HB := Lib.hid (((Below.refl w.heap.size w).alloc (Nat.le_refl _) (.cells #[.string s.name, .int .i64 s.owner, .int .i64 s.bits, .bool s.clear, .int .i64 s.kind, .int .i64 s.num, .string s.text, .slice none 0 0] 35)).alloc (by simp) (.cells #[.string t.name, .int .i64 t.owner, .int .i64 t.bits, .bool t.clear, .int .i64 t.kind, .int .i64 t.num, .string t.text, .slice none 0 0] 35))
  unfold SL.val
  go_enter Tryz.func109, Tryz.ntmps109
  go_wp2_with fail
  go_ret
  exact ⟨rfl, HB.out⟩
theorem Swp.drewN {w w' : World} {b : Nat} {s t : SL} (h : Swp w b s t w') (k : Nat) : Swp w b s t (w'.drewN k) := by
  obtain ⟨w1, h1, h2⟩ := h
  exact ⟨w1, h1, sbelow_drewN h2 k⟩
theorem wanted_wp {c : Prop} {inst : Decidable c} {A B : Prop} (hc : c) (h : A) : @ite Prop c inst A B := by rw [if_pos hc]; exact h
theorem heldTo_last_st {ops : Array Oper} {Q : Exit → Act → World → Prop} {md : Region.Mode} {S : World → Prop} {last : Nat} {o : Oper} {fuel : Nat} {listed : Array Bool} {a : Act} {w : World} (hr : Region.ready md ops listed = [last]) (ho : ops[last]? = some o) (hw : Region.wanted o (yielded ops a.tmps) = true)
    (x y : Operand) (hop : o.op = .store 35 x y) (hd : o.dst = none) (b k : Nat) (hx : a.eval x = .pointer (some ⟨b, k, none⟩)) (s : SL) (hy : a.eval y = s.val) (ht : w.there b k 8)
    (h : heldTo Tryz.prog md ops Q S last fuel (listed.setIfInBounds last true) (a.put none undef) (w.setCells b k s.cells)) : heldTo Tryz.prog md ops Q S last (fuel + 1) listed a w :=
  heldTo_last hr ho fun K hK => wanted_wp hw (slot_st x y hop b k hx s hy ht (by rw [hd]; exact hK.out _ _ h))
set_option maxHeartbeats 1500000 in
set_option maxRecDepth 100000 in
theorem insS_2 (s t : SL) (b c : Nat) (w : World) (hc : 2 ≤ c) (hl : Op.bytesLess s.name.toList t.name.toList = true) (h0 : w.rangeAt b 0 t.cells) (h8 : w.rangeAt b 8 s.cells) (t0 : w.there b 0 8) (t8 : w.there b 8 8) :
    Calls Tryz.prog 144 #[.slice (some ⟨b, 0, none⟩) 2 c, .int .i64 0, .int .i64 2, .func (.func 109) #[] #[]] w fun e w' => e = .returned (.tuple #[]) ∧ Swp w b s t w' := by
  have hbz : b < w.heap.size := World.block_lt_of_cell? w ⟨b, 0, none⟩ (by have := h0 0 _ rfl; exact this)
  have hb2 : ∀ W : World, Below w.heap.size w W → ∀ o, W.cell? ⟨b, o, none⟩ = w.cell? ⟨b, o, none⟩ ∧ W.frozen? ⟨b, o, none⟩ = w.frozen? ⟨b, o, none⟩ := fun W hW o => by
    have h1 := hW.block b hbz
    exact ⟨World.cell?_of_block (a := ⟨b, o, none⟩) h1, World.frozen?_of_block (a := ⟨b, o, none⟩) h1⟩
  have KR0 : ∀ W : World, Below w.heap.size w W → W.rangeAt b 0 t.cells := fun W hW j v hv => ((hb2 W hW _).1).trans (h0 j v hv)
  have KR8 : ∀ W : World, Below w.heap.size w W → W.rangeAt b 8 s.cells := fun W hW j v hv => ((hb2 W hW _).1).trans (h8 j v hv)
  have KT0 : ∀ W : World, Below w.heap.size w W → W.there b 0 8 := fun W hW j hj => by rw [(hb2 W hW _).1, (hb2 W hW _).2]; exact t0 j hj
  have KT8 : ∀ W : World, Below w.heap.size w W → W.there b 8 8 := fun W hW j hj => by rw [(hb2 W hW _).1, (hb2 W hW _).2]; exact t8 j hj
  have T8 := Lib.hid KT8
  have T0 := Lib.hid (fun (W : World) (hW : Below w.heap.size w W) => World.there_setCells (KT0 W hW) b 8 t.cells)
  have R0 := Lib.hid KR0
  have R8 := Lib.hid KR8
  have CM := Lib.hid (fun W => cmpS_lt s t hl W)
  have hwr : IntKind.i64.wrap 0 = 0 := by kernel_rfl
  clear KR0 KR8 KT0 KT8 h0 h8 t0 t8 hbz hl hb2
  unfold SL.val at CM
  go_enter Tryz.func144, Tryz.ntmps144
  go_wp2_with fail
  go_loopg [8] 1 (fun kk v wr => (kk = 1 ∧ v = .int .i64 1 ∧ w = wr) ∨ (kk = 0 ∧ v = .int .i64 2 ∧ Swp w b s t wr))
  case atStart => exact .inl ⟨rfl, rfl, rfl⟩
  case round =>
    rcases hrel with ⟨rfl, rfl, rfl⟩ | ⟨rfl, rfl, hsw⟩
    · go_wp2_with fail
      go_loopg [9] 1 (fun kk v wr => (kk = 1 ∧ v = .int .i64 1 ∧ w = wr) ∨ (kk = 0 ∧ v = .int .i64 0 ∧ Swp w b s t wr))
      case atStart => exact .inl ⟨rfl, rfl, rfl⟩
      case round =>
        rcases hrel with ⟨rfl, rfl, rfl⟩ | ⟨rfl, rfl, hsw⟩
        · go_upto_region 4 with fail
          obtain ⟨S, hS⟩ : ∃ S : World → Prop, S = fun W => W.cell? ⟨b, 0, none⟩ = some (.string t.name) ∧ W.cell? ⟨b, 1, none⟩ = some (.int .i64 t.owner) ∧ W.cell? ⟨b, 2, none⟩ = some (.int .i64 t.bits) ∧ W.cell? ⟨b, 3, none⟩ = some (.bool t.clear) ∧ W.cell? ⟨b, 4, none⟩ = some (.int .i64 t.kind) ∧ W.cell? ⟨b, 5, none⟩ = some (.int .i64 t.num) ∧ W.cell? ⟨b, 6, none⟩ = some (.string t.text) ∧ W.cell? ⟨b, 7, none⟩ = some (.slice none 0 0) ∧ W.cell? ⟨b, 8, none⟩ = some (.string s.name) ∧ W.cell? ⟨b, 9, none⟩ = some (.int .i64 s.owner) ∧ W.cell? ⟨b, 10, none⟩ = some (.int .i64 s.bits) ∧ W.cell? ⟨b, 11, none⟩ = some (.bool s.clear) ∧ W.cell? ⟨b, 12, none⟩ = some (.int .i64 s.kind) ∧ W.cell? ⟨b, 13, none⟩ = some (.int .i64 s.num) ∧ W.cell? ⟨b, 14, none⟩ = some (.string s.text) ∧ W.cell? ⟨b, 15, none⟩ = some (.slice none 0 0) ∧ Below w.heap.size w W := ⟨_, rfl⟩
          have KS : ∀ W, Below w.heap.size w W → S W := by
            intro W hW
            rw [hS]
            exact ⟨R0.out W hW 0 _ rfl, R0.out W hW 1 _ rfl, R0.out W hW 2 _ rfl, R0.out W hW 3 _ rfl, R0.out W hW 4 _ rfl, R0.out W hW 5 _ rfl, R0.out W hW 6 _ rfl, R0.out W hW 7 _ rfl, R8.out W hW 0 _ rfl, R8.out W hW 1 _ rfl, R8.out W hW 2 _ rfl, R8.out W hW 3 _ rfl, R8.out W hW 4 _ rfl, R8.out W hW 5 _ rfl, R8.out W hW 6 _ rfl, R8.out W hW 7 _ rfl, hW⟩
          have BS : ∀ W, S W → Below w.heap.size w W := by intro W h; rw [hS] at h; exact h.2.2.2.2.2.2.2.2.2.2.2.2.2.2.2.2
          have C1 := Lib.hid (show ∀ W, S W → Calls Tryz.prog 109 #[.agg #[.string s.name, .int .i64 s.owner, .int .i64 s.bits, .bool s.clear, .int .i64 s.kind, .int .i64 s.num, .string s.text, .slice none 0 0], .agg #[.string t.name, .int .i64 t.owner, .int .i64 t.bits, .bool t.clear, .int .i64 t.kind, .int .i64 t.num, .string t.text, .slice none 0 0]] W fun e w' => e = .returned (.int .i64 (-1)) ∧ S w' from fun W h => (CM.out W).mono (by rintro e w' ⟨rfl, hb⟩; exact ⟨rfl, KS _ ((BS W h).trans (hb.mono (BS W h).size))⟩))
          have BSH := Lib.hid BS
          have K0 : S w.drew := KS _ (Below.refl _ w).drew
          clear KS BS
          subst hS
          go_region_held3 (fun W => W.cell? ⟨b, 0, none⟩ = some (.string t.name) ∧ W.cell? ⟨b, 1, none⟩ = some (.int .i64 t.owner) ∧ W.cell? ⟨b, 2, none⟩ = some (.int .i64 t.bits) ∧ W.cell? ⟨b, 3, none⟩ = some (.bool t.clear) ∧ W.cell? ⟨b, 4, none⟩ = some (.int .i64 t.kind) ∧ W.cell? ⟨b, 5, none⟩ = some (.int .i64 t.num) ∧ W.cell? ⟨b, 6, none⟩ = some (.string t.text) ∧ W.cell? ⟨b, 7, none⟩ = some (.slice none 0 0) ∧ W.cell? ⟨b, 8, none⟩ = some (.string s.name) ∧ W.cell? ⟨b, 9, none⟩ = some (.int .i64 s.owner) ∧ W.cell? ⟨b, 10, none⟩ = some (.int .i64 s.bits) ∧ W.cell? ⟨b, 11, none⟩ = some (.bool s.clear) ∧ W.cell? ⟨b, 12, none⟩ = some (.int .i64 s.kind) ∧ W.cell? ⟨b, 13, none⟩ = some (.int .i64 s.num) ∧ W.cell? ⟨b, 14, none⟩ = some (.string s.text) ∧ W.cell? ⟨b, 15, none⟩ = some (.slice none 0 0) ∧ Below w.heap.size w W)
            (first | (with_reducible assumption) | (with_reducible exact K0))
            (first
              | (go_at_call 109; refine (C1.out _ ?_).mono ?_; with_reducible assumption; rintro e w1 ⟨rfl, hs⟩))
          all_goals
            have HBW := Lib.hid ((BSH.out _ hs).drew)
            clear hs BSH C1 K0
            have KC := Lib.hid (fun j v (hv : s.cells[j]? = some v) => R8.out _ HBW.out j v hv)
            have KD := Lib.hid (fun j v (hv : t.cells[j]? = some v) => R0.out _ HBW.out j v hv)
            go_upto_region 6 with fail
            refine wp_region_heldTo 17 (fun _ => True) (by kernel_rfl) (by kernel_rfl) trivial (fun hSucc hHeld => ?_)
            refine heldTo_take (i := 0) (oi := _) (v := (.slice (some ⟨b, 0, none⟩) 2 c)) hSucc rfl (by kernel_rfl) (by kernel_rfl) (by kernel_rfl) (by kernel_rfl) rfl (fun _ _ _ h => h) (Or.inl ⟨by rfl, fun W hSw => ?_⟩) (by with_reducible assumption) ?_
            · (try dsimp only at hSw); (first | (go_simp; done) | (go_simp; kernel_rfl))
            change heldTo _ _ _ _ _ _ _ _ (Act.put _ (some 37) _) _
            simp only [Act.put, List.setIfInBounds_toArray, List.set_cons_zero, List.set_cons_succ]
            refine heldTo_take (i := 1) (oi := _) (v := (.int .i64 1)) hSucc rfl (by kernel_rfl) (by kernel_rfl) (by kernel_rfl) (by kernel_rfl) rfl (fun _ _ _ h => h) (Or.inl ⟨by rfl, fun W hSw => ?_⟩) (by with_reducible assumption) ?_
            · (try dsimp only at hSw); (first | (go_simp; done) | (go_simp; kernel_rfl))
            change heldTo _ _ _ _ _ _ _ _ (Act.put _ (some 38) _) _
            simp only [Act.put, List.setIfInBounds_toArray, List.set_cons_zero, List.set_cons_succ]
            refine heldTo_take (i := 2) (oi := _) (v := (.slice (some ⟨b, 0, none⟩) 2 c)) hSucc rfl (by kernel_rfl) (by kernel_rfl) (by kernel_rfl) (by kernel_rfl) rfl (fun _ _ _ h => h) (Or.inl ⟨by rfl, fun W hSw => ?_⟩) (by with_reducible assumption) ?_
            · (try dsimp only at hSw); (first | (go_simp; done) | (go_simp; kernel_rfl))
            change heldTo _ _ _ _ _ _ _ _ (Act.put _ (some 39) _) _
            simp only [Act.put, List.setIfInBounds_toArray, List.set_cons_zero, List.set_cons_succ]
            refine heldTo_take (i := 3) (oi := _) (v := (.int .i64 1)) hSucc rfl (by kernel_rfl) (by kernel_rfl) (by kernel_rfl) (by kernel_rfl) rfl (fun _ _ _ h => h) (Or.inl ⟨by rfl, fun W hSw => ?_⟩) (by with_reducible assumption) ?_
            · (try dsimp only at hSw); (first | (go_simp; done) | (go_simp; kernel_rfl))
            change heldTo _ _ _ _ _ _ _ _ (Act.put _ (some 40) _) _
            simp only [Act.put, List.setIfInBounds_toArray, List.set_cons_zero, List.set_cons_succ]
            refine heldTo_take (i := 4) (oi := _) (v := (.int .i64 0)) hSucc rfl (by kernel_rfl) (by kernel_rfl) (by kernel_rfl) (by kernel_rfl) rfl (fun _ _ _ h => h) (Or.inl ⟨by rfl, fun W hSw => ?_⟩) (by with_reducible assumption) ?_
            · (try dsimp only at hSw); (first | (go_simp; done) | (go_simp; kernel_rfl))
            change heldTo _ _ _ _ _ _ _ _ (Act.put _ (some 41) _) _
            simp only [Act.put, List.setIfInBounds_toArray, List.set_cons_zero, List.set_cons_succ]
            refine heldTo_take (i := 5) (oi := _) (v := (.slice (some ⟨b, 0, none⟩) 2 c)) hSucc rfl (by kernel_rfl) (by kernel_rfl) (by kernel_rfl) (by kernel_rfl) rfl (fun _ _ _ h => h) (Or.inl ⟨by rfl, fun W hSw => ?_⟩) (by with_reducible assumption) ?_
            · (try dsimp only at hSw); (first | (go_simp; done) | (go_simp; kernel_rfl))
            change heldTo _ _ _ _ _ _ _ _ (Act.put _ (some 42) _) _
            simp only [Act.put, List.setIfInBounds_toArray, List.set_cons_zero, List.set_cons_succ]
            refine heldTo_take (i := 6) (oi := _) (v := (.int .i64 1)) hSucc rfl (by kernel_rfl) (by kernel_rfl) (by kernel_rfl) (by kernel_rfl) rfl (fun _ _ _ h => h) (Or.inl ⟨by rfl, fun W hSw => ?_⟩) (by with_reducible assumption) ?_
            · (try dsimp only at hSw); (first | (go_simp; done) | (go_simp; kernel_rfl))
            change heldTo _ _ _ _ _ _ _ _ (Act.put _ (some 43) _) _
            simp only [Act.put, List.setIfInBounds_toArray, List.set_cons_zero, List.set_cons_succ]
            refine heldTo_take (i := 7) (oi := _) (v := (.int .i64 0)) hSucc rfl (by kernel_rfl) (by kernel_rfl) (by kernel_rfl) (by kernel_rfl) rfl (fun _ _ _ h => h) (Or.inl ⟨by rfl, fun W hSw => ?_⟩) (by with_reducible assumption) ?_
            · (try dsimp only at hSw); (first | (go_simp; done) | (go_simp; kernel_rfl))
            change heldTo _ _ _ _ _ _ _ _ (Act.put _ (some 44) _) _
            simp only [Act.put, List.setIfInBounds_toArray, List.set_cons_zero, List.set_cons_succ]
            refine heldTo_take (i := 8) (oi := _) (v := (.pointer (some ⟨b, 0, none⟩))) hSucc rfl (by kernel_rfl) (by kernel_rfl) (by kernel_rfl) (by kernel_rfl) rfl (fun _ _ _ h => h) (Or.inl ⟨by rfl, fun W hSw => ?_⟩) (by with_reducible assumption) ?_
            · (try dsimp only at hSw); (first | (go_simp; done) | (go_simp; kernel_rfl))
            change heldTo _ _ _ _ _ _ _ _ (Act.put _ (some 45) _) _
            simp only [Act.put, List.setIfInBounds_toArray, List.set_cons_zero, List.set_cons_succ]
            refine heldTo_take (i := 10) (oi := _) (v := (.slice (some ⟨b, 0, none⟩) 2 c)) hSucc rfl (by kernel_rfl) (by kernel_rfl) (by kernel_rfl) (by kernel_rfl) rfl (fun _ _ _ h => h) (Or.inl ⟨by rfl, fun W hSw => ?_⟩) (by with_reducible assumption) ?_
            · (try dsimp only at hSw); (first | (go_simp; done) | (go_simp; kernel_rfl))
            change heldTo _ _ _ _ _ _ _ _ (Act.put _ (some 47) _) _
            simp only [Act.put, List.setIfInBounds_toArray, List.set_cons_zero, List.set_cons_succ]
            refine heldTo_take (i := 11) (oi := _) (v := (.int .i64 1)) hSucc rfl (by kernel_rfl) (by kernel_rfl) (by kernel_rfl) (by kernel_rfl) rfl (fun _ _ _ h => h) (Or.inl ⟨by rfl, fun W hSw => ?_⟩) (by with_reducible assumption) ?_
            · (try dsimp only at hSw); (first | (go_simp; done) | (go_simp; kernel_rfl))
            change heldTo _ _ _ _ _ _ _ _ (Act.put _ (some 48) _) _
            simp only [Act.put, List.setIfInBounds_toArray, List.set_cons_zero, List.set_cons_succ]
            refine heldTo_take (i := 12) (oi := _) (v := (.pointer (some ⟨b, 8, none⟩))) hSucc rfl (by kernel_rfl) (by kernel_rfl) (by kernel_rfl) (by kernel_rfl) rfl (fun _ _ _ h => h) (Or.inl ⟨by rfl, fun W hSw => ?_⟩) (by with_reducible assumption) ?_
            · (try dsimp only at hSw); (first | (go_simp; done) | (go_simp; kernel_rfl))
            change heldTo _ _ _ _ _ _ _ _ (Act.put _ (some 49) _) _
            simp only [Act.put, List.setIfInBounds_toArray, List.set_cons_zero, List.set_cons_succ]
            refine heldTo_two (i := 9) (j := 13) (o := _) (p := _) (by kernel_rfl) rfl rfl (fun K hK => ?_) (fun K hK => ?_)
            · clear hHeld
              refine wanted_wp (by kernel_rfl) (slot_ld (.tmp 45) (by kernel_rfl) b 0 (by kernel_rfl) t KD.out ?_)
              refine hK.out _ _ trivial (fun hHeld => ?_)
              clear hK K
              change heldTo _ _ _ _ _ _ _ _ (Act.put _ (some 46) _) _
              simp only [Act.put, List.setIfInBounds_toArray, List.set_cons_zero, List.set_cons_succ]
              refine heldTo_one (i := 13) (o := _) (by kernel_rfl) rfl (fun K hK => ?_)
              clear hHeld
              refine wanted_wp (by kernel_rfl) (slot_ld (.tmp 49) (by kernel_rfl) b 8 (by kernel_rfl) s KC.out ?_)
              refine hK.out _ _ trivial (fun hHeld => ?_)
              clear hK K
              change heldTo _ _ _ _ _ _ _ _ (Act.put _ (some 50) _) _
              simp only [Act.put, List.setIfInBounds_toArray, List.set_cons_zero, List.set_cons_succ]
              refine heldTo_take (i := 14) (oi := _) (v := (.pointer (some ⟨b, 8, none⟩))) hSucc rfl (by kernel_rfl) (by kernel_rfl) (by kernel_rfl) (by kernel_rfl) rfl (fun _ _ _ h => h) (Or.inl ⟨by rfl, fun W hSw => ?_⟩) (by with_reducible assumption) ?_
              · (try dsimp only at hSw); go_simp
              change heldTo _ _ _ _ _ _ _ _ (Act.put _ (some 51) _) _
              simp only [Act.put, List.setIfInBounds_toArray, List.set_cons_zero, List.set_cons_succ]
              refine heldTo_one (i := 15) (o := _) (by kernel_rfl) rfl (fun K hK => ?_)
              clear hHeld
              refine wanted_wp ?_ ?_
              · kernel_rfl
              refine slot_st (.tmp 51) (.tmp 46) ?_ b 8 ?_ t ?_ ?_ ?_
              · kernel_rfl
              · kernel_rfl
              · kernel_rfl
              · exact (T8.out _ HBW.out)
              refine hK.out _ _ trivial (fun hHeld => ?_)
              clear hK K
              change heldTo _ _ _ _ _ _ _ _ (Act.put _ none _) _
              simp only [Act.put, List.setIfInBounds_toArray, List.set_cons_zero, List.set_cons_succ]
              refine heldTo_take (i := 16) (oi := _) (v := (.pointer (some ⟨b, 0, none⟩))) hSucc rfl (by kernel_rfl) (by kernel_rfl) (by kernel_rfl) (by kernel_rfl) rfl (fun _ _ _ h => h) (Or.inl ⟨by rfl, fun W hSw => ?_⟩) (by with_reducible assumption) ?_
              · (try dsimp only at hSw); go_simp
              change heldTo _ _ _ _ _ _ _ _ (Act.put _ (some 52) _) _
              simp only [Act.put, List.setIfInBounds_toArray, List.set_cons_zero, List.set_cons_succ]
              refine heldTo_last_st (by kernel_rfl) rfl (by kernel_rfl) (.tmp 52) (.tmp 50) (by kernel_rfl) (by kernel_rfl) b 0 (by kernel_rfl) s (by kernel_rfl) (T0.out _ HBW.out) ?_
              clear hHeld
              change heldTo _ _ _ _ _ _ _ _ (Act.put _ none _) _
              simp only [Act.put, List.setIfInBounds_toArray, List.set_cons_zero, List.set_cons_succ]
              refine heldTo_done (by kernel_rfl) ?_ _
              go_wp2_with fail
              go_roundg 0
              case measure => omega
              case rel => exact .inr ⟨rfl, rfl, _, HBW.out, Below.refl _ _⟩
            · clear hHeld
              refine wanted_wp (by kernel_rfl) (slot_ld (.tmp 49) (by kernel_rfl) b 8 (by kernel_rfl) s KC.out ?_)
              refine hK.out _ _ trivial (fun hHeld => ?_)
              clear hK K
              change heldTo _ _ _ _ _ _ _ _ (Act.put _ (some 50) _) _
              simp only [Act.put, List.setIfInBounds_toArray, List.set_cons_zero, List.set_cons_succ]
              refine heldTo_one (i := 9) (o := _) (by kernel_rfl) rfl (fun K hK => ?_)
              clear hHeld
              refine wanted_wp (by kernel_rfl) (slot_ld (.tmp 45) (by kernel_rfl) b 0 (by kernel_rfl) t KD.out ?_)
              refine hK.out _ _ trivial (fun hHeld => ?_)
              clear hK K
              change heldTo _ _ _ _ _ _ _ _ (Act.put _ (some 46) _) _
              simp only [Act.put, List.setIfInBounds_toArray, List.set_cons_zero, List.set_cons_succ]
              refine heldTo_take (i := 14) (oi := _) (v := (.pointer (some ⟨b, 8, none⟩))) hSucc rfl (by kernel_rfl) (by kernel_rfl) (by kernel_rfl) (by kernel_rfl) rfl (fun _ _ _ h => h) (Or.inl ⟨by rfl, fun W hSw => ?_⟩) (by with_reducible assumption) ?_
              · (try dsimp only at hSw); go_simp
              change heldTo _ _ _ _ _ _ _ _ (Act.put _ (some 51) _) _
              simp only [Act.put, List.setIfInBounds_toArray, List.set_cons_zero, List.set_cons_succ]
              refine heldTo_one (i := 15) (o := _) (by kernel_rfl) rfl (fun K hK => ?_)
              clear hHeld
              refine wanted_wp ?_ ?_
              · kernel_rfl
              refine slot_st (.tmp 51) (.tmp 46) ?_ b 8 ?_ t ?_ ?_ ?_
              · kernel_rfl
              · kernel_rfl
              · kernel_rfl
              · exact (T8.out _ HBW.out)
              refine hK.out _ _ trivial (fun hHeld => ?_)
              clear hK K
              change heldTo _ _ _ _ _ _ _ _ (Act.put _ none _) _
              simp only [Act.put, List.setIfInBounds_toArray, List.set_cons_zero, List.set_cons_succ]
              refine heldTo_take (i := 16) (oi := _) (v := (.pointer (some ⟨b, 0, none⟩))) hSucc rfl (by kernel_rfl) (by kernel_rfl) (by kernel_rfl) (by kernel_rfl) rfl (fun _ _ _ h => h) (Or.inl ⟨by rfl, fun W hSw => ?_⟩) (by with_reducible assumption) ?_
              · (try dsimp only at hSw); go_simp
              change heldTo _ _ _ _ _ _ _ _ (Act.put _ (some 52) _) _
              simp only [Act.put, List.setIfInBounds_toArray, List.set_cons_zero, List.set_cons_succ]
              refine heldTo_last_st (by kernel_rfl) rfl (by kernel_rfl) (.tmp 52) (.tmp 50) (by kernel_rfl) (by kernel_rfl) b 0 (by kernel_rfl) s (by kernel_rfl) (T0.out _ HBW.out) ?_
              clear hHeld
              change heldTo _ _ _ _ _ _ _ _ (Act.put _ none _) _
              simp only [Act.put, List.setIfInBounds_toArray, List.set_cons_zero, List.set_cons_succ]
              refine heldTo_done (by kernel_rfl) ?_ _
              go_wp2_with fail
              go_roundg 0
              case measure => omega
              case rel => exact .inr ⟨rfl, rfl, _, HBW.out, Below.refl _ _⟩
        · have SD := Lib.hid hsw
          clear hsw
          go_upto_region 4 with fail
          go_quiet (fail)
          all_goals
            go_wp2_with fail
            go_roundg 0
            case measure => omega
            case rel => exact .inr ⟨rfl, rfl, SD.out.drewN _⟩
    · go_wp2_with fail
      go_end0
      exact ⟨rfl, hsw⟩
end Go.Proofs.YtnphgcbknfmapaaGreatDoor
namespace Go.Proofs.YtnphgcbknfmapaaGreatDoor
open Go.RowKit Go.Lib
set_option linter.unusedVariables false
set_option linter.unusedSimpArgs false
set_option maxRecDepth 100000 in
set_option maxHeartbeats 4000000 in
theorem pdqS_2 (s t : SL) (b c : Nat) (l : Int) (w : World) (hc : 2 ≤ c) (hl : Op.bytesLess s.name.toList t.name.toList = true) (h0 : w.rangeAt b 0 t.cells) (h8 : w.rangeAt b 8 s.cells) (t0 : w.there b 0 8) (t8 : w.there b 8 8) :
    Calls Tryz.prog 132 #[.slice (some ⟨b, 0, none⟩) 2 c, .int .i64 0, .int .i64 2, .int .i64 l, .func (.func 109) #[] #[]] w fun e w' => e = .returned (.tuple #[]) ∧ Swp w b s t w' := by
  have C := Lib.hid (insS_2 s t b c w hc hl h0 h8 t0 t8)
  clear hl h0 h8 t0 t8
  go_enter Tryz.func132, Tryz.ntmps132
  go_wp2_with fail
  go_loopg [1, 2] 0 (fun kk av bv wr => av = .int .i64 0 ∧ bv = .int .i64 2 ∧ w = wr)
  case atStart => exact ⟨rfl, rfl, rfl⟩
  case round =>
    obtain ⟨rfl, rfl, rfl⟩ := hrel
    go_wp2_with fail
    refine C.out.mono ?_
    rintro e w1 ⟨rfl, hs⟩
    go_wp2_with fail
    exact bodyPost_ret (results_none (P := Tryz.prog) rfl _ _) rfl ⟨rfl, hs⟩
set_option maxHeartbeats 1000000 in
theorem sortF_2 (s t : SL) (b c : Nat) (w : World) (hc : 2 ≤ c) (hl : Op.bytesLess s.name.toList t.name.toList = true) (h0 : w.rangeAt b 0 t.cells) (h8 : w.rangeAt b 8 s.cells) (t0 : w.there b 0 8) (t8 : w.there b 8 8) :
    Calls Tryz.prog 108 #[.slice (some ⟨b, 0, none⟩) 2 c, .func (.func 109) #[] #[]] w fun e w' => e = .returned (.tuple #[]) ∧ Swp w b s t w' := by
  have C := Lib.hid (fun l => pdqS_2 s t b c l w hc hl h0 h8 t0 t8)
  have CB := Lib.hid (Tryz.bits_Len 2 w (by omega) (by omega))
  clear hl h0 h8 t0 t8
  go_enter Tryz.func108, Tryz.ntmps108
  go_wp2_with fail
  refine CB.out.mono ?_
  rintro e w1 ⟨rfl, rfl⟩
  go_wp2_with fail
  refine (C.out _).mono ?_
  rintro e w1 ⟨rfl, hs⟩
  go_wp2_with fail
  go_end0
  exact ⟨rfl, hs⟩
set_option maxHeartbeats 1000000 in
theorem sortSlots_2 (s t : SL) (b c : Nat) (w : World) (hc : 2 ≤ c) (hl : Op.bytesLess s.name.toList t.name.toList = true) (h0 : w.rangeAt b 0 t.cells) (h8 : w.rangeAt b 8 s.cells) (t0 : w.there b 0 8) (t8 : w.there b 8 8) :
    Calls Tryz.prog 68 #[.slice (some ⟨b, 0, none⟩) 2 c] w fun e w' => e = .returned (.tuple #[]) ∧ Swp w b s t w' := by
  have C := Lib.hid (sortF_2 s t b c w hc hl h0 h8 t0 t8)
  clear hl h0 h8 t0 t8
  go_enter Tryz.func68, Tryz.ntmps68
  go_wp2_with fail
  refine C.out.mono ?_
  rintro e w1 ⟨rfl, hs⟩
  go_wp2_with fail
  go_end0
  exact ⟨rfl, hs⟩
end Go.Proofs.YtnphgcbknfmapaaGreatDoor
namespace Go.Proofs.YtnphgcbknfmapaaGreatDoor
open Go.RowKit Go.Lib
set_option linter.unusedVariables false
set_option linter.unusedSimpArgs false
theorem lay2_S {wr wb w9 : World} {B a m : Nat} {T : List OM} {mx o : Int} (h : TS wr B a m T mx) {x : OM} (hx : findT T o = some x) {gs cs : Nat} {t f : SL} (hsv : x.sv = .slice (some ⟨gs, 0, none⟩) 1 cs) (hsl : x.o.slots = [t]) (hf : FlatS f)
    (hbb : Below wr.heap.size wr wb) {g9 cap : Nat} (hg : wb.grownBy w9 (some gs)) (hat : g9 = gs ∨ g9 = wb.heap.size) (hown : w9.ownsRow B 35 8 (.slice (some ⟨g9, 0, none⟩) 2 cap) 2 ([t, f].flatMap SL.cells)) :
    StS wr (w9.setCell ⟨x.g, 8, none⟩ (.slice (some ⟨g9, 0, none⟩) 2 cap)) B a m T (repT T o ⟨{ x.o with slots := [t, f] }, x.g, x.dv, .slice (some ⟨g9, 0, none⟩) 2 cap⟩) mx mx := by
  have hxm := (findT_some hx).1
  have hob := h.tab.objs x hxm
  have hnd := h.tab.nodupX hxm
  have hgm : gs ∈ x.blocks := OM.mem_blocks.2 (.inr (.inr (by rw [hsv]; rfl)))
  have hxg : x.g ∈ x.blocks := OM.mem_blocks.2 (.inl rfl)
  have hlt := hob.lt
  have hzb := hbb.size
  have hz9 := hg.size
  have hnd2 := hnd
  unfold OM.blocks at hnd2
  rw [hsv] at hnd2
  have e1 : (Value.slice (some ⟨gs, 0, none⟩) 1 cs).ownBlock.toList = [gs] := rfl
  rw [e1, List.nodup_cons, List.nodup_append] at hnd2
  have hne : x.g ≠ gs := fun e => hnd2.1 (by rw [e]; simp)
  have hdg : ∀ k, x.dv.ownBlock = some k → k ≠ gs := fun k hk e => hnd2.2.2.2 k (by rw [hk]; simp) gs (by simp) e
  have hdx : ∀ k, x.dv.ownBlock = some k → k ≠ x.g := fun k hk e => hnd2.1 (by rw [← e, hk]; simp)
  have hdm : ∀ k, x.dv.ownBlock = some k → k ∈ x.blocks := fun k hk => OM.mem_blocks.2 (.inr (.inl hk))
  have hg9x : g9 ≠ x.g := by
    rcases hat with rfl | rfl
    · exact fun e => hne e.symm
    · have := hlt x.g hxg
      omega
  have h9 : ∀ k, k < wr.heap.size → k ≠ gs → w9.heap[k]? = wr.heap[k]? := fun k hk hn => (hg.block k (by omega) (fun e => hn (by injection e))).trans (hbb.block k hk)
  have hc : Chg (fun b => b ∈ x.blocks) wr (w9.setCell ⟨x.g, 8, none⟩ (.slice (some ⟨g9, 0, none⟩) 2 cap)) :=
    ((Chg.of_below hbb).trans ((Chg.of_grown hg).mono fun i _ e => by rw [e]; exact hgm)).trans (Chg.set w9 (p := ⟨x.g, 8, none⟩) hxg _)
  refine h.rep hx _ rfl rfl hc ⟨?_, ?_, ?_⟩ ?_ ?_ ?_ ?_
  · exact heap_setCell_same w9 x.g 8 _ _ _ ((h9 x.g (hlt _ hxg) hne).trans hob.blk)
  · exact ownsRow_same hob.defs fun k hk => (Below.heap_setCell _ _ _ _ (hdx k hk)).trans (h9 k (hlt _ (hdm k hk)) (hdg k hk))
  · exact ownsRow_same hown fun k hk => by
      injection hk with hk
      subst hk
      exact Below.heap_setCell _ _ _ _ hg9x
  · intro b hb
    rcases OM.mem_blocks.1 hb with rfl | hb | hb
    · exact .inl hxg
    · exact .inl (hdm b hb)
    · injection hb with hb
      subst hb
      rcases hat with rfl | rfl
      · exact .inl hgm
      · exact .inr hzb
  · unfold OM.blocks
    show (x.g :: (x.dv.ownBlock.toList ++ [g9])).Nodup
    rw [List.nodup_cons, List.nodup_append]
    refine ⟨fun e => ?_, ?_, by simp, fun k hk b hb e => ?_⟩
    · rcases List.mem_append.1 e with e | e
      · exact hdx x.g (by simpa using e) rfl
      · exact hg9x (List.mem_singleton.1 e).symm
    · cases x.dv.ownBlock <;> simp
    · have hk' : x.dv.ownBlock = some k := by simpa using hk
      have hb' : b = g9 := by simpa using hb
      subst hb'
      subst e
      rcases hat with e2 | e2
      · exact hdg k hk' e2
      · have := hlt k (hdm k hk')
        omega
  · intro s hs
    have hs' : s = t ∨ s = f := by simpa using hs
    rcases hs' with rfl | rfl
    · exact h.flat x hxm s (by rw [hsl]; simp)
    · exact hf
  · exact ⟨fun e => (nomatch e), (h.bare x hxm).2⟩
end Go.Proofs.YtnphgcbknfmapaaGreatDoor
