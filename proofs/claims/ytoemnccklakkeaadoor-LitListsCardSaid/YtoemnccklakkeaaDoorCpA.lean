/-
  Copies of values: what holds at a copying loop's head; val's Clone and L.
-/
import Derived.Test.YtoemnccklakkeaaDoorSmC
import Derived.Test.YtoemnccklakkeaaDoorRdK
namespace Go.Proofs.YtoemnccklakkeaaDoor
open Go.RowKit Go.Lib
set_option linter.unusedVariables false

/-- A row of values of the call's own. -/
structure CInv (base : Nat) (w0 wr : World) (V : Value) (acc : VL) (xs : List Value) : Prop where
  own : wr.ownsRow base 31 4 V acc.len xs
  cells : CellsOf wr (fun b => base ≤ b ∧ b < wr.heap.size ∧ V.ownBlock ≠ some b) acc xs
  below : Below base w0 wr
  size : base ≤ wr.heap.size
theorem CInv.nil (w : World) : CInv w.heap.size w w (.slice none 0 0) .nil [] := ⟨World.ownsRow_nil _ _ _ _, rfl, Below.refl _ _, Nat.le_refl _⟩
theorem CInv.move {base : Nat} {w0 wr w' : World} {V : Value} {acc : VL} {xs : List Value} (h : CInv base w0 wr V acc xs) (hb : Below wr.heap.size wr w') : CInv base w0 w' V acc xs :=
  ⟨own_below h.own hb, h.cells.keep (fun b hb' => hb.block b hb'.2.1) (fun b hb' => ⟨hb'.1, Nat.lt_of_lt_of_le hb'.2.1 hb.size, hb'.2.2⟩), h.below.trans (below_le' hb h.size), Nat.le_trans h.size hb.size⟩
theorem CInv.step {base : Nat} {w0 wr w3 w5 : World} {V V' : Value} {acc : VL} {xs : List Value} (h : CInv base w0 wr V acc xs) (hb : Below wr.heap.size wr w3)
    {k n : Int} {t : ByteArray} {sub : VL} {sa : Option Addr} {sc : Nat} (hsc : sub.len ≤ sc) (hrep : RpL w3 (fun b => wr.heap.size ≤ b ∧ b < w3.heap.size) sub sa) {o1 : Obj}
    (hown : w5.ownsRow base 31 4 V' (acc.len + 1) (xs ++ [.int .i64 k, .int .i64 n, .string t, .slice sa sub.len sc])) (hg : (w3.alloc o1).grownBy w5 V.ownBlock)
    (hob : V'.ownBlock = V.ownBlock ∨ V'.ownBlock = some (w3.alloc o1).heap.size) :
    CInv base w0 w5 V' (acc.app (val1 k n t sub)) (xs ++ [.int .i64 k, .int .i64 n, .string t, .slice sa sub.len sc]) := by
  have h3 := h.move hb
  have hVg : ∀ g, V.ownBlock = some g → base ≤ g ∧ g < wr.heap.size := fun g hg => ⟨own_ge h.own g hg, own_lt h.own g hg⟩
  have hsz : (w3.alloc o1).heap.size = w3.heap.size + 1 := by simp
  have hz5 : w3.heap.size + 1 ≤ w5.heap.size := by have := hg.size; omega
  have hz3 := hb.size
  have hz0 := h.size
  have blk : ∀ b, b < w3.heap.size → V.ownBlock ≠ some b → w5.heap[b]? = w3.heap[b]? := fun b hb hne => by
    have h1 := hg.block b (by omega) (fun e => hne e.symm)
    rw [h1, Below.heap_alloc _ _ _ hb]
  have hV'b : ∀ b, b < w3.heap.size → V.ownBlock ≠ some b → V'.ownBlock ≠ some b := fun b hb hne e => by
    rcases hob with e2 | e2
    · exact hne (e2.symm.trans e)
    · rw [e] at e2
      injection e2 with e2
      omega
  refine ⟨by rw [VL.len_app]; exact hown, ?_, ?_, by omega⟩
  · refine CellsOf.app _ _ _ _ ?_ ⟨sa, sc, [], rfl, hsc, ?_, rfl⟩
    · exact h3.cells.keep (fun b hb => blk b hb.2.1 hb.2.2) (fun b hb => ⟨hb.1, by have := hb.2.1; omega, hV'b b hb.2.1 hb.2.2⟩)
    · have hne : ∀ b, wr.heap.size ≤ b → V.ownBlock ≠ some b := fun b hb e => by have := (hVg b e).2; omega
      exact hrep.keep (fun b hb => blk b hb.2 (hne b hb.1)) (fun b hb => ⟨by have := hb.1; omega, by have := hb.2; omega, hV'b b hb.2 (hne b hb.1)⟩)
  · exact grown_below (h3.below.alloc h3.size o1) (by simp; omega) hg (fun k hk => (hVg k hk).1)
/-- What the row reads as. -/
theorem CInv.rep {base : Nat} {w0 wr : World} {V : Value} {acc : VL} {xs : List Value} (h : CInv base w0 wr V acc xs) : ∃ (sa : Option Addr) (sc : Nat), V = .slice sa acc.len sc ∧ acc.len ≤ sc ∧ RpL wr (fun b => base ≤ b ∧ b < wr.heap.size) acc sa :=
  own_rep h.own (h.cells.keep (fun _ _ => rfl) (fun b hb => ⟨hb.1, hb.2.1⟩)) (fun g hg => ⟨own_ge h.own g hg, own_lt h.own g hg⟩)

/-- A copy comes out. -/
def PCopy (w : World) (k n : Int) (s : ByteArray) (sub : VL) (e : Ending) (w' : World) : Prop :=
  ∃ (sa : Option Addr) (sc : Nat), e = .returned (.agg #[.int .i64 k, .int .i64 n, .string s, .slice sa sub.len sc]) ∧ sub.len ≤ sc ∧ RpL w' (fun b => w.heap.size ≤ b ∧ b < w'.heap.size) sub sa ∧ Below w.heap.size w w'

theorem clone_end {w wr : World} {k n : Int} {s : ByteArray} {sub : VL} {bv : Value} {sb : Option Addr} {cb : Nat} (hb : Below w.heap.size w wr) (hz : w.heap.size + 2 ≤ wr.heap.size) (hr : StB wr (w.heap.size + 1) (.int .i64 0) (.int .i64 0) (.string ⟨#[]⟩) (.slice none 0 0))
    (hbv : bv = .slice sb sub.len cb) (hcb : sub.len ≤ cb) (hrb : RpL wr (fun b => w.heap.size + 2 ≤ b ∧ b < wr.heap.size) sub sb) :
    StB (((((wr.setCell ⟨w.heap.size, 3, none⟩ bv).setCell ⟨w.heap.size + 1, 0, none⟩ (.int .i64 k)).setCell ⟨w.heap.size + 1, 1, none⟩ (.int .i64 n)).setCell ⟨w.heap.size + 1, 2, none⟩ (.string s)).setCell ⟨w.heap.size + 1, 3, none⟩ bv) (w.heap.size + 1) (.int .i64 k) (.int .i64 n) (.string s) bv ∧
    PCopy w k n s sub (.returned (.agg #[.int .i64 k, .int .i64 n, .string s, bv])) (((((wr.setCell ⟨w.heap.size, 3, none⟩ bv).setCell ⟨w.heap.size + 1, 0, none⟩ (.int .i64 k)).setCell ⟨w.heap.size + 1, 1, none⟩ (.int .i64 n)).setCell ⟨w.heap.size + 1, 2, none⟩ (.string s)).setCell ⟨w.heap.size + 1, 3, none⟩ bv) := by
  have hr' : StB (wr.setCell ⟨w.heap.size, 3, none⟩ bv) (w.heap.size + 1) (.int .i64 0) (.int .i64 0) (.string ⟨#[]⟩) (.slice none 0 0) := hr.far (by show w.heap.size + 1 ≠ w.heap.size; omega) _
  have hz1 : (wr.setCell ⟨w.heap.size, 3, none⟩ bv).heap.size = wr.heap.size := by simp [World.setCell]
  have hb1 : Below w.heap.size w (wr.setCell ⟨w.heap.size, 3, none⟩ bv) := Below.setCell hb (show w.heap.size ≤ (⟨w.heap.size, 3, none⟩ : Addr).block from Nat.le_refl _) _
  have hrb1 : RpL (wr.setCell ⟨w.heap.size, 3, none⟩ bv) (fun b => w.heap.size + 2 ≤ b ∧ b < wr.heap.size) sub sb := hrb.keep (fun c hc => Below.heap_setCell _ _ _ _ (by show c ≠ w.heap.size; omega)) (fun c hc => hc)
  exact ⟨hr'.set4 _ _ _ _, sb, cb, by rw [hbv], hcb, hrb1.keep (fun c hc => heap_set4 _ _ _ _ _ _ _ (by omega)) (fun c hc => ⟨by omega, by rw [size_set4, hz1]; exact hc.2⟩), below_set4 hb1 (by omega) _ _ _ _⟩

def CloneC (N : Nat) : Prop := ∀ (k n : Int) (s : ByteArray) (sub : VL) (sa : Option Addr) (sc : Nat) (w : World), sub.size < N → cost sub ≤ 100000 → sub.len ≤ sc → RpL w (fun b => b < w.heap.size) sub sa →
  Calls Tryd.prog 53 #[.agg #[.int .i64 k, .int .i64 n, .string s, .slice sa sub.len sc]] w (PCopy w k n s sub)

set_option maxRecDepth 100000 in
set_option maxHeartbeats 4000000 in
theorem clone_step (N : Nat) (ih : ∀ N', N' < N → CloneC N') : CloneC N := by
  intro k n s sub sa sc w hN hcost hsc hrep
  obtain ⟨i0, hi0, hz0, hz1, hz2⟩ := info_parts val_info
  obtain ⟨wa, hwa⟩ : ∃ wa, wa = (w.alloc (.cells #[.int .i64 k, .int .i64 n, .string s, .slice sa sub.len sc] 31)).alloc (.cells #[.int .i64 0, .int .i64 0, .string ⟨#[]⟩, .slice none 0 0] 31) := ⟨_, rfl⟩
  have hba : Below w.heap.size w wa := by rw [hwa]; exact ((Below.refl _ _).alloc (Nat.le_refl _) _).alloc (by simp) _
  have hwz : wa.heap.size = w.heap.size + 2 := by rw [hwa]; simp
  have hV : StB wa w.heap.size (.int .i64 k) (.int .i64 n) (.string s) (.slice sa sub.len sc) := by rw [hwa]; exact (StB.new w _ _ _ _).alloc _
  have hR : StB wa (w.heap.size + 1) (.int .i64 0) (.int .i64 0) (.string ⟨#[]⟩) (.slice none 0 0) := by
    rw [hwa]; have := StB.new (w.alloc (.cells #[.int .i64 k, .int .i64 n, .string s, .slice sa sub.len sc] 31)) (.int .i64 0) (.int .i64 0) (.string ⟨#[]⟩) (.slice none 0 0)
    simpa using this
  have v3 := hV.c3
  rw [hwa] at v3
  have HV := Lib.hid hV
  have HR := Lib.hid hR
  have HB := Lib.hid hba
  have HWA := Lib.hid hwa
  have HWZ := Lib.hid hwz
  have HRP := Lib.hid (hrep.keep (w' := wa) (fun b hb => hba.block b hb) (fun b hb => hb))
  have C0 := CInv.nil wa
  have hln := len_cost sub
  clear hba hV hR hwa hwz hrep
  go_enter Tryd.func53, Tryd.ntmps53
  go_wp2_with fail
  rw [← HWA.out]
  clear v3
  go_loopg [3, 9] sub.len (fun kk ov v wr => ∃ (bv : Value) (i : Nat) (xs : List Value), bv = ov ∧ v = .int .i64 i ∧ i + kk = sub.len ∧ Hid (CInv wa.heap.size wa wr bv (sub.take i) xs))
  case atStart => exact ⟨.slice none 0 0, 0, [], rfl, rfl, by omega, by show CInv _ _ _ _ (sub.take 0) _; rw [VL.take]; exact C0⟩
  case round =>
    obtain ⟨bv, i, xs, rfl, rfl, hik, hC⟩ := hrel
    have hbr := hC.out.below
    have hrz := hC.out.size
    have hwz := HWZ.out
    by_cases hi : i < sub.len
    · obtain ⟨g, rfl⟩ : ∃ g, gk = g + 1 := ⟨gk - 1, by omega⟩
      obtain ⟨b, o, k', n', s', sub', sa', sc', hA, hd, hSb, c0, c1, c2, c3, hcl, hrs, hszd⟩ := rp_at (HRP.out.keep (w' := wr) (fun b hb => hbr.block b (by omega)) (fun b hb => hb)) hi
      have hts := Lib.hid (VL.take_succ i sub k' n' s' sub' hd)
      have hcd := cost_drop i sub
      rw [hd, cost] at hcd
      have hcr := cost_ge (sub.drop (i + 1))
      have hmm := mOf_ge k' s'
      have htl : (sub.take i).len ≤ 100000 := by
        have h2 : (sub.take i).len + (sub.drop i).len = sub.len := by rw [← VL.len_app, VL.take_app_drop]
        omega
      obtain ⟨wx, hwx⟩ : ∃ wx, wx = wr.alloc (.cells #[.int .i64 k', .int .i64 n', .string s', .slice sa' sub'.len sc'] 31) := ⟨_, rfl⟩
      have hbx : Below wr.heap.size wr wx := by rw [hwx]; exact (Below.refl _ _).alloc (Nat.le_refl _) _
      have hxz : wx.heap.size = wr.heap.size + 1 := by rw [hwx]; simp
      have IHC := Lib.hid (ih (sub'.size + 1) (by omega) k' n' s' sub' sa' sc' wx (by omega) (by omega) hcl (hrs.keep (fun b hb => hbx.block b (by omega)) (fun b hb => by omega)))
      have CX := Lib.hid (hC.out.move hbx)
      have HSA := Lib.hid hA
      have HWX := Lib.hid hwx
      subst hA
      clear hrs hd hcd hwx hbx hbr
      go_wp2_with fail
      rw [← HWX.out]
      refine IHC.out.mono ?_
      rintro e w3 ⟨sb, cb, rfl, hcb, hrb, hb3⟩
      have C3 := Lib.hid (CX.out.move hb3)
      have HB3 := Lib.hid hb3
      have HRB := Lib.hid hrb
      have h3z := hb3.size
      clear hb3 hrb c0 c1 c2 c3
      go_wp2_with (at_builtin; refine wpList_append_own_at _ rfl (.tmp 13) (.tmp 16) 29 rfl wa.heap.size 31 i0 _ 4 56 Tryd.underlying29 hi0 hz0 hz1 hz2 rfl (by decide) bv (sub.take i).len xs rfl (own_below C3.out.own ((Below.refl _ _).alloc (Nat.le_refl _) _)) ⟨w3.heap.size, 0, none⟩ 1 1 [.int .i64 k', .int .i64 n', .string s', .slice sb sub'.len cb] rfl rfl ?c1 ?c2 ?c3 ?c4 ?c5 ?c6
                   case c1 => exact cell_four_new w3 _ rfl _ _ _ _ _
                   case c2 => intro u hu; simp at hu; rcases hu with rfl | rfl | rfl | rfl <;> rfl
                   case c3 => unfold maxLen; omega
                   case c4 => omega
                   case c5 => simp; omega
                   intro V' w5 hown' hgrow _ hob
                   have ST := Lib.hid (CInv.step CX.out HB3.out hcb HRB.out hown' hgrow hob)
                   clear hown' hgrow hob)
      go_roundg g
      case measure => omega
      case rel => exact ⟨V', i + 1, _, rfl, by go_num, by omega, by show CInv _ _ _ _ (sub.take (i + 1)) _; rw [hts.out]; exact ST.out⟩
    · obtain rfl : i = sub.len := by omega
      have hv := HV.out.below hbr (by omega)
      have hr := HR.out.below hbr (by omega)
      have y0 := hv.c0; have y1 := hv.c1; have y2 := hv.c2; have y3 := hv.c3; have y4 := hv.fr 3
      have z0 := hr.c0; have z1 := hr.c1; have z2 := hr.c2; have z3 := hr.c3; have f0 := hr.fr 0; have f1 := hr.fr 1; have f2 := hr.fr 2; have f3 := hr.fr 3
      obtain ⟨sb, cb, hbv, hcb, hrb⟩ := hC.out.rep
      rw [VL.take_len] at hbv hcb hrb
      have HF := Lib.hid (clone_end (HB.out.trans (below_le' hbr (by omega))) (by omega) hr rfl hcb (hrb.wide (fun c hc => ⟨by omega, hc.2⟩)) (k := k) (n := n) (s := s))
      clear hC
      subst hbv
      have hv' : StB (wr.setCell ⟨w.heap.size, 3, none⟩ (.slice sb sub.len cb)) w.heap.size (.int .i64 k) (.int .i64 n) (.string s) (.slice sb sub.len cb) := hv.set3 _
      have hr' : StB (wr.setCell ⟨w.heap.size, 3, none⟩ (.slice sb sub.len cb)) (w.heap.size + 1) (.int .i64 0) (.int .i64 0) (.string ⟨#[]⟩) (.slice none 0 0) := hr.far (by show w.heap.size + 1 ≠ w.heap.size; omega) _
      have a0 := hv'.c0; have a1 := hv'.c1; have a2 := hv'.c2; have a3 := hv'.c3
      have b0 := hr'.c0; have b1 := hr'.c1; have b2 := hr'.c2; have b3 := hr'.c3; have e0 := hr'.fr 0; have e1 := hr'.fr 1; have e2 := hr'.fr 2; have e3 := hr'.fr 3
      clear hv hr hv' hr' hbr hrb
      go_wp2_with fail
      refine ret_cell4 Tryd.results53 (w.heap.size + 1) rfl rfl HF.out.1 HF.out.2
theorem clone_c (N : Nat) : CloneC N := by
  induction N using Nat.strongRecOn with
  | _ N ih => exact clone_step N ih
end Go.Proofs.YtoemnccklakkeaaDoor
