/- Contracts of the functions that the statement reaches, and the plain mathematics beneath: several texts joined. -/
import Derived.Deep.RegionHeld3
import Derived.Test.YtbalpfpcbckghaaGreatDoorFlsAD
namespace Go.Proofs.YtbalpfpcbckghaaGreatDoor
open Go.RowKit Go.Lib
set_option linter.unusedVariables false

theorem list_end {w wr : World} {sub : VL} {sb : Option Addr} {cb : Nat} (hb : Below w.heap.size w wr) (hz : w.heap.size + 1 ≤ wr.heap.size) (hr : StB wr w.heap.size (.int .i64 0) (.int .i64 0) (.string ⟨#[]⟩) (.slice none 0 0))
    (hcb : sub.len ≤ cb) (hrb : RpL wr (fun b => w.heap.size + 1 ≤ b ∧ b < wr.heap.size) sub sb) :
    StB ((((wr.setCell ⟨w.heap.size, 0, none⟩ (.int .i64 4)).setCell ⟨w.heap.size, 1, none⟩ (.int .i64 0)).setCell ⟨w.heap.size, 2, none⟩ (.string ⟨#[]⟩)).setCell ⟨w.heap.size, 3, none⟩ (.slice sb sub.len cb)) w.heap.size (.int .i64 4) (.int .i64 0) (.string ⟨#[]⟩) (.slice sb sub.len cb) ∧
    PCopy w 4 0 ⟨#[]⟩ sub (.returned (.agg #[.int .i64 4, .int .i64 0, .string ⟨#[]⟩, .slice sb sub.len cb])) ((((wr.setCell ⟨w.heap.size, 0, none⟩ (.int .i64 4)).setCell ⟨w.heap.size, 1, none⟩ (.int .i64 0)).setCell ⟨w.heap.size, 2, none⟩ (.string ⟨#[]⟩)).setCell ⟨w.heap.size, 3, none⟩ (.slice sb sub.len cb)) :=
  ⟨hr.set4 _ _ _ _, sb, cb, rfl, hcb, hrb.keep (fun c hc => heap_set4 _ _ _ _ _ _ _ (by omega)) (fun c hc => ⟨by omega, by rw [size_set4]; exact hc.2⟩), below_set4 hb (Nat.le_refl _) _ _ _ _⟩

set_option maxRecDepth 100000 in
set_option maxHeartbeats 4000000 in
theorem valL_c (l : VL) (sa : Option Addr) (sc : Nat) (w : World) (hcost : cost l ≤ 100000) (hsc : l.len ≤ sc) (hrep : RpL w (fun b => b < w.heap.size) l sa) :
    Calls Tryz.prog 13 #[.slice sa l.len sc] w (PCopy w 4 0 ⟨#[]⟩ l) := by
  obtain ⟨i0, hi0, hz0, hz1, hz2⟩ := info_parts val_info
  obtain ⟨wa, hwa⟩ : ∃ wa, wa = w.alloc (.cells #[.int .i64 0, .int .i64 0, .string ⟨#[]⟩, .slice none 0 0] 24) := ⟨_, rfl⟩
  have hba : Below w.heap.size w wa := by rw [hwa]; exact (Below.refl _ _).alloc (Nat.le_refl _) _
  have hwz : wa.heap.size = w.heap.size + 1 := by rw [hwa]; simp
  have hR : StB wa w.heap.size (.int .i64 0) (.int .i64 0) (.string ⟨#[]⟩) (.slice none 0 0) := by rw [hwa]; exact StB.new w _ _ _ _
  have HR := Lib.hid hR
  have HB := Lib.hid hba
  have HWA := Lib.hid hwa
  have HWZ := Lib.hid hwz
  have HRP := Lib.hid (hrep.keep (w' := wa) (fun b hb => hba.block b hb) (fun b hb => hb))
  have C0 := CInv.nil wa
  have hln := len_cost l
  clear hba hR hwa hwz hrep
  go_enter Tryz.func13, Tryz.ntmps13
  go_wp2_with fail
  rw [← HWA.out]
  go_loopg [3, 8] l.len (fun kk ov v wr => ∃ (bv : Value) (i : Nat) (xs : List Value), bv = ov ∧ v = .int .i64 i ∧ i + kk = l.len ∧ Hid (CInv wa.heap.size wa wr bv (l.take i) xs))
  case atStart => exact ⟨.slice none 0 0, 0, [], rfl, rfl, by omega, by show CInv _ _ _ _ (l.take 0) _; rw [VL.take]; exact C0⟩
  case round =>
    obtain ⟨bv, i, xs, rfl, rfl, hik, hC⟩ := hrel
    have hbr := hC.out.below
    have hrz := hC.out.size
    have hwz := HWZ.out
    by_cases hi : i < l.len
    · obtain ⟨g, rfl⟩ : ∃ g, gk = g + 1 := ⟨gk - 1, by omega⟩
      obtain ⟨b, o, k', n', s', sub', sa', sc', hA, hd, hSb, c0, c1, c2, c3, hcl, hrs, hszd⟩ := rp_at (HRP.out.keep (w' := wr) (fun b hb => hbr.block b (by omega)) (fun b hb => hb)) hi
      have hts := Lib.hid (VL.take_succ i l k' n' s' sub' hd)
      have hcd := cost_drop i l
      rw [hd, cost] at hcd
      have hcr := cost_ge (l.drop (i + 1))
      have hmm := mOf_ge k' s'
      have htl : (l.take i).len ≤ 100000 := by
        have h2 : (l.take i).len + (l.drop i).len = l.len := by rw [← VL.len_app, VL.take_app_drop]
        omega
      obtain ⟨wx, hwx⟩ : ∃ wx, wx = wr.alloc (.cells #[.int .i64 k', .int .i64 n', .string s', .slice sa' sub'.len sc'] 24) := ⟨_, rfl⟩
      have hbx : Below wr.heap.size wr wx := by rw [hwx]; exact (Below.refl _ _).alloc (Nat.le_refl _) _
      have hxz : wx.heap.size = wr.heap.size + 1 := by rw [hwx]; simp
      have IHC := Lib.hid (clone_c (sub'.size + 1) k' n' s' sub' sa' sc' wx (by omega) (by omega) hcl (hrs.keep (fun b hb => hbx.block b (by omega)) (fun b hb => by omega)))
      have CX := Lib.hid (hC.out.move hbx)
      have HSA := Lib.hid hA
      have HWX := Lib.hid hwx
      subst hA
      clear hrs hd hcd hwx hbx hbr
      go_wp2_with fail
      rw [← HWX.out]
      refine IHC.out.mono ?_
      rintro e w3 ⟨sb, cb, rfl, hcb, hrb, hb3⟩
      have C3 := Lib.hid (CX.out.move hb3)
      have HB3 := Lib.hid hb3
      have HRB := Lib.hid hrb
      have h3z := hb3.size
      clear hb3 hrb c0 c1 c2 c3
      go_wp2_with (at_builtin; refine wpList_append_own_at _ rfl (.tmp 12) (.tmp 15) 22 rfl wa.heap.size 24 i0 _ 4 56 Tryz.underlying22 hi0 hz0 hz1 hz2 rfl (by decide) bv (l.take i).len xs rfl (own_below C3.out.own ((Below.refl _ _).alloc (Nat.le_refl _) _)) ⟨w3.heap.size, 0, none⟩ 1 1 [.int .i64 k', .int .i64 n', .string s', .slice sb sub'.len cb] rfl rfl ?c1 ?c2 ?c3 ?c4 ?c5 ?c6
                   case c1 => exact cell_four_new w3 _ rfl _ _ _ _ _
                   case c2 => intro u hu; simp at hu; rcases hu with rfl | rfl | rfl | rfl <;> rfl
                   case c3 => unfold maxLen; omega
                   case c4 => omega
                   case c5 => simp; omega
                   intro V' w5 hown' hgrow _ hob
                   have ST := Lib.hid (CInv.step CX.out HB3.out hcb HRB.out hown' hgrow hob)
                   clear hown' hgrow hob)
      go_roundg g
      case measure => omega
      case rel => exact ⟨V', i + 1, _, rfl, by go_num, by omega, by show CInv _ _ _ _ (l.take (i + 1)) _; rw [hts.out]; exact ST.out⟩
    · obtain rfl : i = l.len := by omega
      have hr := HR.out.below hbr (by omega)
      have z0 := hr.c0; have z1 := hr.c1; have z2 := hr.c2; have z3 := hr.c3; have f0 := hr.fr 0; have f1 := hr.fr 1; have f2 := hr.fr 2; have f3 := hr.fr 3
      obtain ⟨sb, cb, hbv, hcb, hrb⟩ := hC.out.rep
      rw [VL.take_len] at hbv hcb hrb
      have HF := Lib.hid (list_end (HB.out.trans (below_le' hbr (by omega))) (by omega) hr hcb (hrb.wide (fun c hc => ⟨by omega, hc.2⟩)))
      clear hC
      subst hbv
      clear hr hbr hrb
      go_wp2_with fail
      exact ret_cell4 Tryz.results13 w.heap.size rfl rfl HF.out.1 HF.out.2
end Go.Proofs.YtbalpfpcbckghaaGreatDoor
