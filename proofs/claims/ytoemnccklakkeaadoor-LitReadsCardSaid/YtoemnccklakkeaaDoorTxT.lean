/-
  lit.text: the walk.
-/
import Derived.Test.YtoemnccklakkeaaDoorTxW
namespace Go.Proofs.YtoemnccklakkeaaDoor
open Go.RowKit Go.Lib
set_option linter.unusedVariables false

theorem grown_below {B : Nat} {w w1 w2 : World} {row : Option Nat} (h : Below B w w1) (hz : B ≤ w1.heap.size) (hg : w1.grownBy w2 row) (hr : ∀ k, row = some k → B ≤ k) : Below B w w2 :=
  ⟨hg.os.trans h.os, hg.tape.trans h.tape, hg.output.trans h.output, Nat.le_trans h.size hg.size,
   fun k hk => (hg.block k (by omega) (fun e => by have := hr k e.symm; omega)).trans (h.block k hk)⟩
theorem i64_drop : ∀ (i : Nat) (l : VL), l.i64 → (l.drop i).i64
  | 0, l, h => by rw [VL.drop]; exact h
  | i + 1, .nil, h => h
  | i + 1, .cons _ _ _ _ r, h => i64_drop i r h.2.2.2
theorem ok_drop : ∀ (i : Nat) (l : VL) (d : Int), OkL l d → OkL (l.drop i) d
  | 0, l, d, h => by rw [VL.drop]; exact h
  | i + 1, .nil, d, h => h
  | i + 1, .cons _ _ _ _ r, d, h => ok_drop i r d h.2.2.2
theorem cost_drop : ∀ (i : Nat) (l : VL), cost (l.drop i) ≤ cost l
  | 0, l => by rw [VL.drop]; exact Int.le_refl _
  | i + 1, .nil => Int.le_refl _
  | i + 1, .cons k n s sub r => by have := cost_drop i r; have := cost_ge sub; have := mOf_ge k s; rw [VL.drop, cost]; omega
theorem len_cost : ∀ l : VL, (l.len : Int) ≤ cost l
  | .nil => Int.le_refl _
  | .cons k n s sub r => by have := len_cost r; have := cost_ge sub; have := mOf_ge k s; rw [VL.len, cost]; omega

/-- What a call of text is to show. -/
def TextC (N : Nat) : Prop := ∀ (k n : Int) (s : ByteArray) (sub : VL) (sa : Option Addr) (sc : Nat) (d : Int) (w : World), sub.size < N → OkL (val1 k n s sub) d → (val1 k n s sub).i64 → cost (val1 k n s sub) ≤ 4096 → sub.len ≤ sc →
  RpL w (fun b => b < w.heap.size) sub sa → TxAt w →
  Calls Tryd.prog 48 #[.agg #[.int .i64 k, .int .i64 n, .string s, .slice sa sub.len sc]] w fun e w' => e = .returned (.string ⟨(txt1 k n s (txtL sub)).toArray⟩) ∧ Below w.heap.size w w'

theorem str_nil_add (t : ByteArray) : (⟨#[]⟩ : ByteArray) ++ t = t := by apply ByteArray.ext; simp

set_option maxRecDepth 100000 in
set_option maxHeartbeats 2000000 in
theorem text_step (N : Nat) (ih : ∀ N', N' < N → TextC N') : TextC N := by
  intro k n s sub sa sc d w hN hok h64 hcost hsc hrep hst
  have hroom := hst.room
  obtain ⟨hown, hoks⟩ := OkL_one hok
  obtain ⟨hn0, hn1, h64s, _⟩ := h64
  obtain ⟨wa, hwa⟩ : ∃ wa, wa = w.alloc (.cells #[.int .i64 k, .int .i64 n, .string s, .slice sa sub.len sc] 31) := ⟨_, rfl⟩
  have hba : Below w.heap.size w wa := by rw [hwa]; exact (Below.refl _ _).alloc (Nat.le_refl _) _
  have hwz : wa.heap.size = w.heap.size + 1 := by rw [hwa]; simp
  have hV : StB wa w.heap.size (.int .i64 k) (.int .i64 n) (.string s) (.slice sa sub.len sc) := by rw [hwa]; exact StB.new w _ _ _ _
  have v0 := hV.c0; have v1 := hV.c1; have v2 := hV.c2; have v3 := hV.c3
  have hsta : TxAt wa := hst.below hba (Nat.le_refl _)
  have HBA := Lib.hid hba
  have HWA := Lib.hid hwa
  have HWZ := Lib.hid hwz
  have HST := Lib.hid hsta
  have hcs : cost (val1 k n s sub) = 1 + mOf k s + cost sub := by unfold val1; rw [cost, cost]; omega
  have FC := fun (W : World) (hW : TxAt W) => Lib.hid (Tryd.strconv_FormatInt_10 n (by omega) (by omega) W hW.tab)
  obtain ⟨t, ht⟩ : ∃ t : ByteArray, t = ⟨(itoa n).toArray⟩ := ⟨_, rfl⟩
  have htl : t.size ≤ 20 := by
    have h1 : t.size = t.data.toList.length := by rw [Array.length_toList]; rfl
    rw [h1, ht]; exact itoa_len hn0 hn1
  rw [← ht] at FC
  rw [hwa] at v0 v1 v2 v3
  rcases own_ok hown with ⟨rfl, -⟩ | ⟨rfl, -⟩ | ⟨rfl, -⟩ | ⟨rfl, hm0, hm1, -⟩ | ⟨rfl, -⟩
  · have HR := Lib.hid (show (⟨(txt1 0 n s (txtL sub)).toArray⟩ : ByteArray) = t by rw [ht]; rfl)
    rw [HR.out]
    clear hba hV hsta hwa hwz ht hrep hst hok hown hoks hcs HR
    go_enter Tryd.func48, Tryd.ntmps48
    go_wp2_with fail
    rw [← HWA.out]
    refine (FC _ HST.out).out.mono ?_
    rintro e w3 ⟨rfl, kk, os, hw3⟩
    have HB3 := Lib.hid (show Below w.heap.size w w3 by rw [hw3]; exact HBA.out.trans (below_grow _ _ HBA.out.size _ _))
    clear hw3
    go_wp2_with fail
    go_ret
    exact ⟨ret_str (str_nil_add t), HB3.out⟩
  · have HR := Lib.hid (show (⟨(txt1 1 n s (txtL sub)).toArray⟩ : ByteArray) = ⟨#[35]⟩ ++ t by rw [ht]; apply ByteArray.ext; simp [txt1])
    rw [HR.out]
    clear hba hV hsta hwa hwz ht hrep hst hok hown hoks hcs HR
    go_enter Tryd.func48, Tryd.ntmps48
    go_wp2_with fail
    rw [← HWA.out]
    refine (FC _ HST.out).out.mono ?_
    rintro e w3 ⟨rfl, kk, os, hw3⟩
    have HB3 := Lib.hid (show Below w.heap.size w w3 by rw [hw3]; exact HBA.out.trans (below_grow _ _ HBA.out.size _ _))
    clear hw3
    go_wp2_with fail
    go_ret
    exact ⟨rfl, HB3.out⟩
  · have QC := Lib.hid (quote_c s wa (by
      have : mOf 2 s = s.size := rfl
      have := cost_ge sub
      omega) HST.out.room HST.out.mx)
    rw [show (⟨(quoL s.data.toList).toArray⟩ : ByteArray) = ⟨(txt1 2 n s (txtL sub)).toArray⟩ from rfl] at QC
    clear hba hV hsta hwa hwz ht hrep hst hok hown hoks hcs FC
    go_enter Tryd.func48, Tryd.ntmps48
    go_wp2_with fail
    rw [← HWA.out]
    refine QC.out.mono ?_
    rintro e w3 ⟨rfl, hb3⟩
    have HB3 := Lib.hid (HBA.out.trans (below_le' hb3 HBA.out.size))
    clear hb3
    go_wp2_with fail
    go_ret
    exact ⟨rfl, HB3.out⟩
  · have NC := Lib.hid (name_l n wa hn0 hn1)
    rw [show nmS n = ⟨(txt1 3 n s (txtL sub)).toArray⟩ from rfl] at NC
    clear hba hV hsta hwa hwz ht hrep hst hok hown hoks hcs FC
    go_enter Tryd.func48, Tryd.ntmps48
    go_wp2_with fail
    rw [← HWA.out]
    refine NC.out.mono ?_
    rintro e w3 ⟨rfl, hb3⟩
    have HB3 := Lib.hid (HBA.out.trans (below_le' hb3 HBA.out.size))
    clear hb3
    go_wp2_with fail
    go_ret
    exact ⟨rfl, HB3.out⟩
  · obtain ⟨i0, hi0, hz0, hz1, hz2⟩ := info_parts str_info
    have hcsub : cost sub ≤ 4096 := by have : mOf 4 s = 0 := rfl; omega
    have HRP := Lib.hid (hrep.keep (w' := wa) (fun b hb => hba.block b hb) (fun b hb => hb))
    clear hba hV hsta hwa hwz ht hrep hst hok hown hcs FC
    go_enter Tryd.func48, Tryd.ntmps48
    go_wp2_with fail
    rw [← HWA.out]
    go_loopg [4, 31] sub.len (fun kk ov v wr => ∃ (bv : Value) (i : Nat), bv = ov ∧ v = .int .i64 i ∧ i + kk = sub.len ∧ wr.ownsRow (w.heap.size + 1) 9 1 bv (txtL (sub.take i)).length (strs (txtL (sub.take i))) ∧ Below (w.heap.size + 1) wa wr)
    case atStart => exact ⟨.slice none 0 0, 0, rfl, rfl, by omega, World.ownsRow_nil _ _ _ _, Below.refl _ _⟩
    case round =>
      obtain ⟨bv, i, rfl, rfl, hik, hrow, hbr⟩ := hrel
      have hrz := hbr.size
      have hwz := HWZ.out
      by_cases hi : i < sub.len
      · obtain ⟨g, rfl⟩ : ∃ g, gk = g + 1 := ⟨gk - 1, by omega⟩
        obtain ⟨k', n', s', sub', hd⟩ := VL.drop_of_lt i sub hi
        have hts := VL.take_succ i sub k' n' s' sub' hd
        have hrw := HRP.out.keep (w' := wr) (fun b hb => hbr.block b (by omega)) (fun b hb => hb)
        obtain ⟨b, o, hsa⟩ : ∃ b o, sa = some ⟨b, o, none⟩ := by
          cases sub with
          | nil => simp [VL.len] at hi
          | cons _ _ _ _ _ => obtain ⟨b, o, _, _, h, _⟩ := hrw; exact ⟨b, o, h⟩
        rw [hsa] at hrw
        have hdr := RpL.drop i sub b o hrw
        rw [hd] at hdr
        obtain ⟨b', o', sa', sc', hA, hSb, c0, c1, c2, c3, hcl, hrs, _⟩ := hdr
        injection hA with hA
        injection hA with hA1 hA2
        subst hA1
        subst hA2
        have hod := ok_drop i sub (d + 1) hoks
        rw [hd] at hod
        have h6d := i64_drop i sub h64s
        rw [hd] at h6d
        have hcd := cost_drop i sub
        rw [hd, cost] at hcd
        have hcr := cost_ge (sub.drop (i + 1))
        have hszd := VL.size_drop i sub
        rw [hd] at hszd
        simp only [VL.size] at hszd
        have hln := len_cost sub
        obtain ⟨wx, hwx⟩ : ∃ wx, wx = wr.alloc (.cells #[.int .i64 k', .int .i64 n', .string s', .slice sa' sub'.len sc'] 31) := ⟨_, rfl⟩
        have hbx : Below (w.heap.size + 1) wa wx := by rw [hwx]; exact hbr.alloc (by omega) _
        have hbx0 : Below wr.heap.size wr wx := by rw [hwx]; exact (Below.refl _ _).alloc (Nat.le_refl _) _
        have hxz : wx.heap.size = wr.heap.size + 1 := by rw [hwx]; simp
        have IHC := Lib.hid (ih (sub'.size + 1) (by omega) k' n' s' sub' sa' sc' (d + 1) wx (by omega) ⟨hod.1, hod.2.1, hod.2.2.1, trivial⟩ ⟨h6d.1, h6d.2.1, h6d.2.2.1, trivial⟩ (by unfold val1; rw [cost, cost]; omega) hcl
          (hrs.keep (fun b hb => hbx0.block b (by omega)) (fun b hb => by omega)) (HST.out.below hbx (by omega)))
        obtain ⟨x, hx⟩ : ∃ x, x = txt1 k' n' s' (txtL sub') := ⟨_, rfl⟩
        rw [← hx] at IHC
        have hrow1 := own_below hrow hbx0
        have HT := Lib.hid (show txtL (sub.take (i + 1)) = txtL (sub.take i) ++ [x] by rw [hts, txtL_app, hx]; rfl)
        have HROW := Lib.hid hrow1
        have HBX := Lib.hid hbx
        have HSA := Lib.hid hsa
        have HWX := Lib.hid hwx
        subst hsa
        have hll : (txtL (sub.take i)).length ≤ 4096 := by
          have := len_cost (sub.take i)
          have h2 : (sub.take i).len + (sub.drop i).len = sub.len := by rw [← VL.len_app, VL.take_app_drop]
          rw [txtL_len]; omega
        rw [Nat.mul_comm 4 i] at c0 c1 c2 c3
        clear hrw hrs hrow hrow1 hbr hbx hbx0 hd hts hod h6d hcd hx hwx
        go_wp2_with fail
        rw [← HWX.out]
        refine IHC.out.mono ?_
        rintro e w5 ⟨rfl, hb5⟩
        have hrow5 := Lib.hid (own_below HROW.out hb5)
        have hb5' := Lib.hid (HBX.out.trans (below_le' hb5 (by have := HBX.out.size; omega)))
        have h5z := hb5.size
        clear hb5
        go_wp2_with (at_builtin; refine wpList_append_own _ rfl (.tmp 35) (.tmp 38) 56 rfl (w.heap.size + 1) 9 i0 (.string ⟨#[]⟩) 1 16 Tryd.underlying56 hi0 hz0 hz1 hz2 rfl (by decide) bv (txtL (sub.take i)).length (strs (txtL (sub.take i))) rfl (own_below hrow5.out ((Below.refl _ _).alloc (Nat.le_refl _) _)) ⟨w5.heap.size, 0, none⟩ 1 1 [.string ⟨x.toArray⟩] rfl rfl ?c1 ?c2 ?c3 ?c4 ?c5 ?c6
                     case c1 => exact cell_one_new _ _ _
                     case c2 => intro u hu; simp at hu; subst hu; rfl
                     case c3 => unfold maxLen; omega
                     case c4 => omega
                     case c5 => simp; omega
                     intro v' w11 hown' hgrow _
                     have HB11 := Lib.hid (grown_below (hb5'.out.alloc (by omega) _) (by simp; omega) hgrow (fun k hk => own_ge hrow5.out k hk))
                     have HO11 := Lib.hid (strs_snoc hown')
                     clear hown' hgrow)
        go_roundg g
        case measure => omega
        case rel => exact ⟨v', i + 1, rfl, by go_num, by omega, by rw [HT.out]; exact HO11.out, HB11.out⟩
      · obtain rfl : i = sub.len := by omega
        rw [VL.take_len] at hrow
        have hjl : (join (txtL sub) [44, 32]).length ≤ 100000 := by
          have h1 := join_len (txtL sub)
          have h2 := txtL_len_le sub (d + 1) hoks h64s
          omega
        have JC := Lib.hid (join_own hrow (by rw [txtL_len]; have := len_cost sub; omega) (by omega))
        obtain ⟨j, hj⟩ : ∃ j : ByteArray, j = ⟨(join (txtL sub) [44, 32]).toArray⟩ := ⟨_, rfl⟩
        rw [← hj] at JC
        have hjs : j.size ≤ 100000 := by
          have h1 : j.size = j.data.toList.length := by rw [Array.length_toList]; rfl
          rw [h1, hj]; exact hjl
        have HR := Lib.hid (show (⟨(txt1 4 n s (txtL sub)).toArray⟩ : ByteArray) = ⟨#[123]⟩ ++ j ++ ⟨#[125]⟩ by rw [hj]; apply ByteArray.ext; simp [txt1])
        have HBR := Lib.hid (HBA.out.trans (below_le' hbr (by omega)))
        clear hrow hbr hj hjl
        go_wp2_with fail
        refine JC.out.mono ?_
        rintro e w6 ⟨rfl, hb6⟩
        have HB6 := Lib.hid (HBR.out.trans (below_le' hb6 HBR.out.size))
        clear hb6
        go_wp2_with fail
        go_ret
        exact ⟨ret_str HR.out.symm, HB6.out⟩

theorem text_c (N : Nat) : TextC N := by
  induction N using Nat.strongRecOn with
  | _ N ih => exact text_step N ih
end Go.Proofs.YtoemnccklakkeaaDoor
