/-
  The reference's Values, Value and L: copies.
-/
import Derived.Test.YtoemnccklakkeaaDoorCpB
import Derived.Test.YtoemnccklakkeaaDoorOdd
namespace Go.Proofs.YtoemnccklakkeaaDoor
open Go.RowKit Go.Lib
set_option linter.unusedVariables false

/-- A copy of a list comes out. -/
def PList (w : World) (l : VL) (e : Ending) (w' : World) : Prop :=
  ∃ (sa : Option Addr) (sc : Nat), e = .returned (.slice sa l.len sc) ∧ l.len ≤ sc ∧ RpL w' (fun b => w.heap.size ≤ b ∧ b < w'.heap.size) l sa ∧ Below w.heap.size w w'
def ValuesC (N : Nat) : Prop := ∀ (l : VL) (sa : Option Addr) (sc : Nat) (w : World), l.size < N → cost l ≤ 100000 → l.len ≤ sc → RpL w (fun b => b < w.heap.size) l sa → Calls Tryd.prog 52 #[.slice sa l.len sc] w (PList w l)

theorem cell_below {w W : World} (hb : Below w.heap.size w W) {p : Addr} {v : Value} (h : w.cell? p = some v) : W.cell? p = some v := by
  have hlt : p.block < w.heap.size := by
    unfold World.cell? at h
    rcases Nat.lt_or_ge p.block w.heap.size with hlt | hge
    · exact hlt
    · rw [Array.getElem?_eq_none hge] at h; cases h
  exact (World.cell?_of_block (w := w) (hb.block _ hlt)).trans h

theorem value_end {w wr : World} {k n : Int} {s : ByteArray} {sub : VL} {sb : Option Addr} {cb : Nat} (hb : Below w.heap.size w wr) (hz : w.heap.size + 2 ≤ wr.heap.size) (hr : StB wr (w.heap.size + 1) (.int .i64 0) (.int .i64 0) (.string ⟨#[]⟩) (.slice none 0 0))
    (hcb : sub.len ≤ cb) (hrb : RpL wr (fun b => w.heap.size + 2 ≤ b ∧ b < wr.heap.size) sub sb) :
    StB ((((wr.setCell ⟨w.heap.size + 1, 0, none⟩ (.int .i64 k)).setCell ⟨w.heap.size + 1, 1, none⟩ (.int .i64 n)).setCell ⟨w.heap.size + 1, 2, none⟩ (.string s)).setCell ⟨w.heap.size + 1, 3, none⟩ (.slice sb sub.len cb)) (w.heap.size + 1) (.int .i64 k) (.int .i64 n) (.string s) (.slice sb sub.len cb) ∧
    PCopy w k n s sub (.returned (.agg #[.int .i64 k, .int .i64 n, .string s, .slice sb sub.len cb])) ((((wr.setCell ⟨w.heap.size + 1, 0, none⟩ (.int .i64 k)).setCell ⟨w.heap.size + 1, 1, none⟩ (.int .i64 n)).setCell ⟨w.heap.size + 1, 2, none⟩ (.string s)).setCell ⟨w.heap.size + 1, 3, none⟩ (.slice sb sub.len cb)) :=
  ⟨hr.set4 _ _ _ _, sb, cb, rfl, hcb, hrb.keep (fun c hc => heap_set4 _ _ _ _ _ _ _ (by omega)) (fun c hc => ⟨by omega, by rw [size_set4]; exact hc.2⟩), below_set4 hb (by omega) _ _ _ _⟩

set_option maxRecDepth 100000 in
set_option maxHeartbeats 4000000 in
theorem value_of (k n : Int) (s : ByteArray) (sub : VL) (sa : Option Addr) (sc : Nat) (w : World) (ih : ValuesC (sub.size + 1)) (hcost : cost sub ≤ 100000) (hsc : sub.len ≤ sc) (hrep : RpL w (fun b => b < w.heap.size) sub sa) :
    Calls Tryd.prog 76 #[.agg #[.int .i64 k, .int .i64 n, .string s, .slice sa sub.len sc]] w (PCopy w k n s sub) := by
  obtain ⟨wa, hwa⟩ : ∃ wa, wa = (w.alloc (.cells #[.int .i64 k, .int .i64 n, .string s, .slice sa sub.len sc] 31)).alloc (.cells #[.int .i64 0, .int .i64 0, .string ⟨#[]⟩, .slice none 0 0] 31) := ⟨_, rfl⟩
  have hba : Below w.heap.size w wa := by rw [hwa]; exact ((Below.refl _ _).alloc (Nat.le_refl _) _).alloc (by simp) _
  have hwz : wa.heap.size = w.heap.size + 2 := by rw [hwa]; simp
  have hV : StB wa w.heap.size (.int .i64 k) (.int .i64 n) (.string s) (.slice sa sub.len sc) := by rw [hwa]; exact (StB.new w _ _ _ _).alloc _
  have hR : StB wa (w.heap.size + 1) (.int .i64 0) (.int .i64 0) (.string ⟨#[]⟩) (.slice none 0 0) := by
    rw [hwa]; have := StB.new (w.alloc (.cells #[.int .i64 k, .int .i64 n, .string s, .slice sa sub.len sc] 31)) (.int .i64 0) (.int .i64 0) (.string ⟨#[]⟩) (.slice none 0 0)
    simpa using this
  obtain ⟨wd, hwd⟩ : ∃ wd, wd = wa.drew := ⟨_, rfl⟩
  have hbd : Below w.heap.size w wd := by rw [hwd]; exact hba.drew
  have hdz : wd.heap.size = w.heap.size + 2 := by rw [hwd]; exact hwz
  have hVd : StB wd w.heap.size (.int .i64 k) (.int .i64 n) (.string s) (.slice sa sub.len sc) := by rw [hwd]; exact hV
  have hRd : StB wd (w.heap.size + 1) (.int .i64 0) (.int .i64 0) (.string ⟨#[]⟩) (.slice none 0 0) := by rw [hwd]; exact hR
  have VC := Lib.hid (ih sub sa sc wd (by omega) hcost hsc (hrep.keep (w' := wd) (S' := fun b => b < wd.heap.size) (fun b hb => hbd.block b hb) (fun b hb => by omega)))
  have v0 := hV.c0; have v1 := hV.c1; have v2 := hV.c2; have v3 := hV.c3
  have d0 := hVd.c0; have d1 := hVd.c1; have d2 := hVd.c2; have d3 := hVd.c3
  have KS := Lib.hid (fun (W : World) (hb : Below wd.heap.size wd W) => (⟨cell_below hb d0, cell_below hb d1, cell_below hb d2, cell_below hb d3⟩ : W.cell? ⟨w.heap.size, 0, none⟩ = some (.int .i64 k) ∧ W.cell? ⟨w.heap.size, 1, none⟩ = some (.int .i64 n) ∧ W.cell? ⟨w.heap.size, 2, none⟩ = some (.string s) ∧ W.cell? ⟨w.heap.size, 3, none⟩ = some (.slice sa sub.len sc)))
  have HR := Lib.hid hRd
  have HB := Lib.hid hbd
  have HWZ := Lib.hid hdz
  have HWA := Lib.hid hwa
  have HWD := Lib.hid hwd
  rw [hwd] at d0 d1 d2 d3
  rw [hwd] at VC HR HB HWZ KS
  clear hba hwz hV hR hwa hrep hbd hdz hVd hRd hwd
  go_enter Tryd.func76, Tryd.ntmps76
  go_wp2_with fail
  rw [← HWA.out]
  go_region_held3 (fun W => W.cell? ⟨w.heap.size, 0, none⟩ = some (.int .i64 k) ∧ W.cell? ⟨w.heap.size, 1, none⟩ = some (.int .i64 n) ∧ W.cell? ⟨w.heap.size, 2, none⟩ = some (.string s) ∧ W.cell? ⟨w.heap.size, 3, none⟩ = some (.slice sa sub.len sc))
    (first | assumption | exact ⟨d0, d1, d2, d3⟩ | exact KS.out _ (by assumption) | go_keep)
    (first | (go_at_call 52; refine VC.out.mono ?_; rintro e w5 ⟨sb, cb, rfl, hcb, hrb, hb5⟩
              have hr5 := HR.out.below hb5 (by have := HWZ.out; omega)
              have z0 := hr5.c0; have z1 := hr5.c1; have z2 := hr5.c2; have z3 := hr5.c3; have f0 := hr5.fr 0; have f1 := hr5.fr 1; have f2 := hr5.fr 2; have f3 := hr5.fr 3))
  all_goals
    have h5z := hb5.size
    have HF := Lib.hid (value_end (k := k) (n := n) (s := s) (HB.out.trans (below_le' hb5 (by have := HWZ.out; omega))) (by have := HWZ.out; omega) hr5 hcb (hrb.wide (fun c hc => ⟨by have := HWZ.out; omega, hc.2⟩)))
    go_wp2_with fail
    exact ret_cell4 Tryd.results76 (w.heap.size + 1) rfl rfl HF.out.1 HF.out.2

set_option maxRecDepth 100000 in
set_option maxHeartbeats 4000000 in
theorem values_step (N : Nat) (ih : ∀ N', N' < N → ValuesC N') : ValuesC N := by
  intro l sa sc w hN hcost hsc hrep
  obtain ⟨i0, hi0, hz0, hz1, hz2⟩ := info_parts val_info
  have hln := len_cost l
  by_cases h0 : l.len = 0
  · obtain rfl : l = .nil := by cases l with | nil => rfl | cons _ _ _ _ _ => exact absurd h0 (Nat.succ_ne_zero _)
    rw [show VL.nil.len = 0 from rfl]
    clear h0 hrep hln
    go_enter Tryd.func52, Tryd.ntmps52
    go_wp2_with fail
    go_ret
    exact ⟨none, 0, rfl, Nat.le_refl _, trivial, Below.refl _ _⟩
  have hb0 : ((l.len : Int) == 0) = false := (bne_of (by omega)).2
  have HRP := Lib.hid hrep
  clear hrep
  go_enter Tryd.func52, Tryd.ntmps52
  go_wp2_with (refine wpList_make_own w rfl (.const (.int .i64 0)) (.tmp 9) 29 rfl w.heap.size 31 i0 _ 4 Tryd.underlying29 hi0 hz0 hz1 .i64 .i64 (l.len : Int) l.len rfl rfl rfl ?c1 ?c2 ?c3 ?c4
               case c1 => rw [hz2]; omega
               case c2 => unfold maxLen; omega
               case c3 => exact Nat.le_refl _
               intro wm hown hgrow
               have CM := Lib.hid (show CInv w.heap.size w wm (.slice (some ⟨w.heap.size, 0, none⟩) 0 l.len) .nil [] from ⟨hown, rfl, ⟨hgrow.os, hgrow.tape, hgrow.output, hgrow.size, fun b hb => hgrow.block b hb (fun e => by cases e)⟩, hgrow.size⟩)
               clear hown hgrow)
  go_loopg [3, 4] l.len (fun kk ov v wr => ∃ (bv : Value) (i : Nat) (xs : List Value), bv = ov ∧ v = .int .i64 i ∧ i + kk = l.len ∧ Hid (CInv w.heap.size w wr bv (l.take i) xs))
  case atStart => exact ⟨_, 0, [], rfl, rfl, by omega, by show CInv _ _ _ _ (l.take 0) _; rw [VL.take]; exact CM.out⟩
  case round =>
    obtain ⟨bv, i, xs, rfl, rfl, hik, hC⟩ := hrel
    have hbr := hC.out.below
    have hrz := hC.out.size
    by_cases hi : i < l.len
    · obtain ⟨g, rfl⟩ : ∃ g, gk = g + 1 := ⟨gk - 1, by omega⟩
      obtain ⟨b, o, k', n', s', sub', sa', sc', hA, hd, hSb, c0, c1, c2, c3, hcl, hrs, hszd⟩ := rp_at (HRP.out.keep (w' := wr) (fun b hb => hbr.block b hb) (fun b hb => hb)) hi
      have hts := Lib.hid (VL.take_succ i l k' n' s' sub' hd)
      have hcd := cost_drop i l
      rw [hd, cost] at hcd
      have hcr := cost_ge (l.drop (i + 1))
      have hmm := mOf_ge k' s'
      have htl : (l.take i).len ≤ 100000 := by
        have h2 : (l.take i).len + (l.drop i).len = l.len := by rw [← VL.len_app, VL.take_app_drop]
        omega
      have IHC := Lib.hid (value_of k' n' s' sub' sa' sc' wr (ih _ (by omega)) (by omega) hcl (hrs.wide (fun b hb => by omega)))
      have CX := Lib.hid hC.out
      have HSA := Lib.hid hA
      subst hA
      clear hrs hd hcd hbr
      go_wp2_with fail
      refine IHC.out.mono ?_
      rintro e w3 ⟨sb, cb, rfl, hcb, hrb, hb3⟩
      have C3 := Lib.hid (CX.out.move hb3)
      have HB3 := Lib.hid hb3
      have HRB := Lib.hid hrb
      have h3z := hb3.size
      clear hb3 hrb c0 c1 c2 c3
      go_wp2_with (at_builtin; refine wpList_append_own_at _ rfl (.tmp 17) (.tmp 23) 29 rfl w.heap.size 31 i0 _ 4 56 Tryd.underlying29 hi0 hz0 hz1 hz2 rfl (by decide) bv (l.take i).len xs rfl (own_below C3.out.own ((Below.refl _ _).alloc (Nat.le_refl _) _)) ⟨w3.heap.size, 0, none⟩ 1 1 [.int .i64 k', .int .i64 n', .string s', .slice sb sub'.len cb] rfl rfl ?e1 ?e2 ?e3 ?e4 ?e5 ?e6
                   case e1 => exact cell_four_new w3 _ rfl _ _ _ _ _
                   case e2 => intro u hu; simp at hu; rcases hu with rfl | rfl | rfl | rfl <;> rfl
                   case e3 => unfold maxLen; omega
                   case e4 => omega
                   case e5 => simp; omega
                   intro V' w5 hown' hgrow _ hob
                   have ST := Lib.hid (CInv.step CX.out HB3.out hcb HRB.out hown' hgrow hob)
                   clear hown' hgrow hob)
      go_roundg g
      case measure => omega
      case rel => exact ⟨V', i + 1, _, rfl, by go_num, by omega, by show CInv _ _ _ _ (l.take (i + 1)) _; rw [hts.out]; exact ST.out⟩
    · obtain rfl : i = l.len := by omega
      obtain ⟨sb, cb, hbv, hcb, hrb⟩ := hC.out.rep
      rw [VL.take_len] at hbv hcb hrb
      have HF := Lib.hid (show PList w l (.returned bv) wr from ⟨sb, cb, by rw [hbv], hcb, hrb, hbr⟩)
      clear hC hbr hrb hbv
      go_wp2_with fail
      go_ret
      exact HF.out
theorem values_c (N : Nat) : ValuesC N := by
  induction N using Nat.strongRecOn with
  | _ N ih => exact values_step N ih

set_option maxRecDepth 100000 in
set_option maxHeartbeats 2000000 in
theorem refL_c (l : VL) (sa : Option Addr) (sc : Nat) (w : World) (hcost : cost l ≤ 100000) (hsc : l.len ≤ sc) (hrep : RpL w (fun b => b < w.heap.size) l sa) :
    Calls Tryd.prog 30 #[.slice sa l.len sc] w (PCopy w 4 0 ⟨#[]⟩ l) := by
  obtain ⟨wa, hwa⟩ : ∃ wa, wa = w.alloc (.cells #[.int .i64 0, .int .i64 0, .string ⟨#[]⟩, .slice none 0 0] 31) := ⟨_, rfl⟩
  have hba : Below w.heap.size w wa := by rw [hwa]; exact (Below.refl _ _).alloc (Nat.le_refl _) _
  have hwz : wa.heap.size = w.heap.size + 1 := by rw [hwa]; simp
  have hR : StB wa w.heap.size (.int .i64 0) (.int .i64 0) (.string ⟨#[]⟩) (.slice none 0 0) := by rw [hwa]; exact StB.new w _ _ _ _
  have VC := Lib.hid (values_c (l.size + 1) l sa sc wa (by omega) hcost hsc (hrep.keep (w' := wa) (S' := fun b => b < wa.heap.size) (fun b hb => hba.block b hb) (fun b hb => by omega)))
  have HR := Lib.hid hR
  have HB := Lib.hid hba
  have HWA := Lib.hid hwa
  have HWZ := Lib.hid hwz
  clear hba hR hwa hwz hrep
  go_enter Tryd.func30, Tryd.ntmps30
  go_wp2_with fail
  rw [← HWA.out]
  refine VC.out.mono ?_
  rintro e w5 ⟨sb, cb, rfl, hcb, hrb, hb5⟩
  have hr5 := HR.out.below hb5 (by have := HWZ.out; omega)
  have h5z := hb5.size
  have z0 := hr5.c0; have z1 := hr5.c1; have z2 := hr5.c2; have z3 := hr5.c3; have f0 := hr5.fr 0; have f1 := hr5.fr 1; have f2 := hr5.fr 2; have f3 := hr5.fr 3
  have HF := Lib.hid (list_end (HB.out.trans (below_le' hb5 (by have := HWZ.out; omega))) (by have := HWZ.out; omega) hr5 hcb (hrb.wide (fun c hc => ⟨by have := HWZ.out; omega, hc.2⟩)))
  clear hr5 hb5 hrb
  go_wp2_with fail
  exact ret_cell4 Tryd.results30 w.heap.size rfl rfl HF.out.1 HF.out.2
end Go.Proofs.YtoemnccklakkeaaDoor
