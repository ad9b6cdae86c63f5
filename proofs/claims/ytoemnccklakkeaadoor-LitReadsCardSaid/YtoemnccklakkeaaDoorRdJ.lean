/-
  The walk of the reader's list.
-/
import Derived.Test.YtoemnccklakkeaaDoorRdI
namespace Go.Proofs.YtoemnccklakkeaaDoor
open Go.RowKit Go.Lib

set_option maxRecDepth 100000 in
set_option maxHeartbeats 2000000 in
theorem list_c (f : Nat) (ih : ∀ f', f' < f → ValC f') (R : Nat) (s : ByteArray) (i : Nat) (w : World) (h : RdAt w R s i true) (hs : s.size ≤ 1000000000) (hq : pk s i = 123) (hf : 2 * (s.size - i) + 1 ≤ f) :
    Calls Tryd.prog 62 #[.pointer (some ⟨R, 0, none⟩)] w (PVal w R s (brSp s f i)) := by
  obtain ⟨i0, hi0, hz0, hz1, hz2⟩ := info_parts val_info
  have hi : i < s.size := pk_lt (by rw [hq]; decide)
  have hRl := h.lt
  have tk := fun W hW => take_c R s i true 123 W hW hs
  have e1 : tkOk s i true 123 = true := by simp [tkOk, hi, hq]
  have e2 : tkAt s i true 123 = i + 1 := by unfold tkAt; rw [e1]; rfl
  rw [e1, e2] at tk
  have TK := Lib.hid tk
  have pk1 := Lib.hid (fun W hW => peek_c R s (i + 1) true W hW)
  have IH := Lib.hid ih
  clear tk e1 e2 hq ih
  obtain ⟨wa, hwa⟩ : ∃ wa, wa = (w.alloc (.cells #[.int .i64 0, .int .i64 0, .string ⟨#[]⟩, .slice none 0 0] 31)).alloc (.cells #[.int .i64 4, .int .i64 0, .string ⟨#[]⟩, .slice none 0 0] 31) := ⟨_, rfl⟩
  have hra : Rds w wa R s i true := by rw [hwa]; exact ((Rds.of h).alloc _).alloc _
  have hb2 : StB wa w.heap.size (.int .i64 0) (.int .i64 0) (.string ⟨#[]⟩) (.slice none 0 0) := by rw [hwa]; exact (StB.new w _ _ _ _).alloc _
  have hb3 : StB wa (w.heap.size + 1) (.int .i64 4) (.int .i64 0) (.string ⟨#[]⟩) (.slice none 0 0) := by rw [hwa]; have := StB.new (w.alloc (.cells #[.int .i64 0, .int .i64 0, .string ⟨#[]⟩, .slice none 0 0] 31)) (.int .i64 4) (.int .i64 0) (.string ⟨#[]⟩) (.slice none 0 0); simpa using this
  have HA := Lib.hid hra
  have HB2 := Lib.hid hb2
  have HB3 := Lib.hid hb3
  have hza : wa.heap.size = w.heap.size + 2 := by rw [hwa]; simp
  have HZA := Lib.hid hza
  clear hra hb2 hb3 hza
  go_enter Tryd.func62, Tryd.ntmps62
  go_wp2_with fail
  rw [← hwa]
  refine (TK.out _ HA.out.at_).mono ?_
  rintro e w1 ⟨rfl, hr1⟩
  have gb1 : some w.heap.size ≠ some R := fun e => by injection e with e; omega
  have gb2 : some (w.heap.size + 1) ≠ some R := fun e => by injection e with e; omega
  have hb2 := HB2.out.only hr1.grown gb1
  have hb3 := HB3.out.only hr1.grown gb2
  have HR1 := Lib.hid (HA.out.trans hr1)
  have hz1 : w.heap.size + 2 ≤ w1.heap.size := by have := hr1.grown.size; have := HZA.out; omega
  clear hr1
  by_cases hq : pk s (i + 1) = 125
  · have HSP := Lib.hid (show brSp s f i = (i + 2, true, val1 4 0 ByteArray.empty .nil) by unfold brSp; rw [if_pos hq])
    have hi2 : i + 1 < s.size := pk_lt (by rw [hq]; decide)
    have PK := Lib.hid (show ∀ W, RdAt W R s (i + 1) true → Calls Tryd.prog 57 #[.pointer (some ⟨R, 0, none⟩)] W fun e w' => e = .returned (.int .u8 125) ∧ ∃ n, w' = W.drewN n from fun W hW => by
      have := pk1.out W hW
      rw [hq] at this
      exact this)
    have tk := fun W hW => take_c R s (i + 1) true 125 W hW hs
    have e1 : tkOk s (i + 1) true 125 = true := by simp [tkOk, hi2, hq]
    have e2 : tkAt s (i + 1) true 125 = i + 2 := by unfold tkAt; rw [e1]; rfl
    rw [e1, e2] at tk
    have TK2 := Lib.hid tk
    clear tk e1 e2 hq pk1
    go_wp2_with fail
    refine (PK.out _ HR1.out.at_).mono ?_
    rintro e w2 ⟨rfl, n2, rfl⟩
    go_wp2_with fail
    refine (TK2.out _ (HR1.out.at_.drewN n2)).mono ?_
    rintro e w3 ⟨rfl, hr3⟩
    have hc2 := (hb2.drewN n2).only hr3.grown gb1
    have hc3 := (hb3.drewN n2).only hr3.grown gb2
    have k20 := hc2.c0; have k21 := hc2.c1; have k22 := hc2.c2; have k23 := hc2.c3
    have k30 := hc3.c0; have k31 := hc3.c1; have k32 := hc3.c2; have k33 := hc3.c3
    have m20 := hc2.fr 0; have m21 := hc2.fr 1; have m22 := hc2.fr 2; have m23 := hc2.fr 3
    have HR3 := Lib.hid (Rds.trans (HR1.out.drewN n2) hr3)
    clear hr3 hb2 hb3
    go_wp2_with fail
    refine ret_cell4 Tryd.results62 w.heap.size rfl rfl (hc2.set4 _ _ _ _) ?_
    rw [HSP.out]
    exact ⟨4, 0, ⟨#[]⟩, none, 0, 0, rfl, HR3.out.far4 (Nat.le_refl _) hRl _ _ _ _, fun _ => ⟨.nil, rfl, rfl, Nat.le_refl _, trivial⟩⟩
  · have HSP := Lib.hid (show brSp s f i = ((lstSp s f (i + 1) .nil).1, (lstSp s f (i + 1) .nil).2.1, val1 4 0 ByteArray.empty (lstSp s f (i + 1) .nil).2.2) by unfold brSp; rw [if_neg hq])
    have nq := ne_byte (x := pk s (i + 1)) 125 125 rfl hq
    obtain ⟨c1, hc1⟩ : ∃ c : Nat, c = (pk s (i + 1)).toNat := ⟨_, rfl⟩
    rw [← hc1] at nq pk1
    obtain ⟨nq1, nq2⟩ := nq
    clear hq hc1
    go_wp2_with fail
    refine (pk1.out _ HR1.out.at_).mono ?_
    rintro e w2 ⟨rfl, n2, rfl⟩
    have HR2 := Lib.hid (HR1.out.drewN n2)
    have HC2 := Lib.hid (hb2.drewN n2)
    have HC3 := Lib.hid (hb3.drewN n2)
    clear hb2 hb3
    obtain ⟨wL, hwL⟩ : ∃ wL, wL = w1.drewN n2 := ⟨_, rfl⟩
    have hzL : w.heap.size + 2 ≤ wL.heap.size := by rw [hwL]; exact hz1
    rw [← hwL] at HR2 HC2 HC3
    rw [← hwL]
    clear hwL hz1
    go_wp2_with fail
    have HL0 := Lib.hid (show LInv w wL R s (i + 1) (.slice none 0 0) .nil [] from ⟨HR2.out, HC2.out, HC3.out, World.ownsRow_nil _ _ _ _, rfl, hzL⟩)
    clear HR2 HC2 HC3 HR1 HA hwa HB2 HB3 TK pk1 nq1 nq2 gb1 gb2
    go_loopg [] f (fun k wr => ∃ (V : Value) (j : Nat) (acc : VL) (xs : List Value), LInv w wr R s j V acc xs ∧ j ≤ s.size ∧ 2 * (s.size - j) + 3 ≤ k ∧ k ≤ f ∧ acc.len ≤ j ∧ Hid (lstSp s k j acc = lstSp s f (i + 1) .nil))
    case atStart => exact ⟨.slice none 0 0, i + 1, .nil, [], HL0.out, by omega, by omega, Nat.le_refl _, Nat.zero_le _, rfl⟩
    case round =>
      obtain ⟨V, j, acc, xs, hli, hj, hk, hkf, hal, hqq⟩ := hrel
      obtain ⟨k, rfl⟩ : ∃ k, gk = k + 1 := ⟨gk - 1, by omega⟩
      have hrj := hli.rds.at_
      obtain ⟨VA, VC, rfl⟩ := own_form hli.own
      have LI := Lib.hid hli
      clear hli
      go_wp2_with fail
      refine (IH.out k (by omega) R s j wr hrj hs hj (by omega)).mono ?_
      rintro e w3 hpv
      obtain ⟨vk, vn, vt, va, vl, vc, rfl, hr3, hval⟩ := hpv
      have hpl := valSp_place s k j hj
      obtain ⟨q, okb, vv, hrr⟩ : ∃ q okb vv, valSp s k j = (q, okb, vv) := ⟨_, _, _, rfl⟩
      have HLS := Lib.hid (show lstSp s (k + 1) j acc = if okb = false then (q, false, acc) else if pk s q = 44 then if pk s (q + 1) = 32 then lstSp s k (q + 2) (acc.app vv) else (q + 1, false, acc.app vv) else if pk s q = 125 then (q + 1, true, acc.app vv) else (q, false, acc.app vv) by rw [lstSp, hrr])
      rw [hrr] at hr3 hval hpl
      simp only at hr3 hval hpl
      obtain ⟨hpl1, hpl2⟩ := hpl
      clear hrr
      have gR : R < w3.heap.size := hr3.at_.lt
      cases okb with
      | false =>
        have HLS2 := Lib.hid (HLS.out.trans (if_pos rfl))
        obtain ⟨m2, m3, mo, mc, mz⟩ := LI.out.move hr3 hRl
        have M2 := Lib.hid (m2.alloc (.cells #[.int .i64 vk, .int .i64 vn, .string vt, .slice va vl vc] 31))
        have M3 := Lib.hid (m3.alloc (.cells #[.int .i64 vk, .int .i64 vn, .string vt, .slice va vl vc] 31))
        have MR := Lib.hid ((LI.out.rds.trans hr3).alloc (.cells #[.int .i64 vk, .int .i64 vn, .string vt, .slice va vl vc] 31))
        have k20 := M2.out.c0; have k21 := M2.out.c1; have k22 := M2.out.c2; have k23 := M2.out.c3
        have k30 := M3.out.c0; have k31 := M3.out.c1; have k32 := M3.out.c2; have k33 := M3.out.c3
        have f20 := M2.out.fr 0; have f21 := M2.out.fr 1; have f22 := M2.out.fr 2; have f23 := M2.out.fr 3
        have kr := MR.out.at_.c2
        clear hval hr3 m2 m3 mo mc mz HLS
        go_wp2_with fail
        refine ret_cell4 Tryd.results62 w.heap.size rfl rfl (M2.out.set4 _ _ _ _) ?_
        rw [HSP.out, ← hqq.out, HLS2.out]
        exact ⟨4, 0, ⟨#[]⟩, VA, acc.len, VC, rfl, MR.out.far4 (Nat.le_refl _) hRl _ _ _ _, fun e => by cases e⟩
      | true =>
        have HLS2 := Lib.hid (HLS.out.trans (if_neg (by decide)))
        obtain ⟨sub, hvv, hvl, hsc, hrep⟩ := hval rfl
        subst hvl
        rw [hvv] at HLS2
        have RP := Lib.hid hrep
        have R3 := Lib.hid hr3
        obtain ⟨m2, m3, mo, mc, mz⟩ := LI.out.move hr3 hRl
        have M3 := Lib.hid (m3.alloc (.cells #[.int .i64 vk, .int .i64 vn, .string vt, .slice va sub.len vc] 31))
        have MR := Lib.hid ((LI.out.rds.trans hr3).alloc (.cells #[.int .i64 vk, .int .i64 vn, .string vt, .slice va sub.len vc] 31))
        have MO := Lib.hid mo
        have NX := StB.new w3 (.int .i64 vk) (.int .i64 vn) (.string vt) (.slice va sub.len vc)
        have k33 := M3.out.c3
        have n0 := NX.c0; have n1 := NX.c1; have n2' := NX.c2; have n3 := NX.c3
        have kr := MR.out.at_.c2
        clear hval hr3 m2 m3 mo mc HLS hvv hrep NX
        go_wp2_with (at_builtin; refine wpList_append_own_at _ rfl (.tmp 20) (.tmp 22) 29 rfl (w.heap.size + 2) 31 i0 _ 4 56 Tryd.underlying29 hi0 hz0 hz1 hz2 rfl (by decide) (.slice VA acc.len VC) acc.len xs rfl ((MO.out.alloc _).alloc _) ⟨w3.heap.size + 1, 0, none⟩ 1 1 [.int .i64 vk, .int .i64 vn, .string vt, .slice va sub.len vc] rfl rfl ?c1 ?c2 ?c3 ?c4 ?c5 ?_
                     case c1 => exact cell_four_new (w3.alloc _) _ (by simp) _ _ _ _ _
                     case c2 => intro u hu; simp at hu; rcases hu with rfl | rfl | rfl | rfl <;> rfl
                     case c3 => unfold maxLen; omega
                     case c4 => omega
                     case c5 => simp; omega
                     intro V' w5 hown' hgrow _ hob
                     obtain ⟨VA', VC', hV'⟩ := own_form hown'
                     rw [hV'] at hown' hob ⊢
                     have s5 := LInv.grow LI.out R3.out hRl hgrow
                     have s53 := s5.c3
                     have s5f := s5.fr 3
                     have ST := Lib.hid (LInv.step LI.out R3.out hRl hsc RP.out hown' hgrow hob)
                     clear hown' hgrow hob hV' s5)
        obtain ⟨w6, hw6⟩ : ∃ w6, w6 = w5.setCell ⟨w.heap.size + 1, 3, none⟩ (.slice VA' (acc.len + 1) VC') := ⟨_, rfl⟩
        rw [← hw6] at ST
        rw [← hw6]
        clear hw6 s53 s5f k33 n0 n1 n2' n3 kr M3 MR MO LI
        obtain ⟨xs', hxs'⟩ : ∃ xs', xs' = xs ++ [.int .i64 vk, .int .i64 vn, .string vt, .slice va sub.len vc] := ⟨_, rfl⟩
        obtain ⟨acc', hacc'⟩ : ∃ acc', acc' = acc.app (val1 vk vn vt sub) := ⟨_, rfl⟩
        have hal' : acc'.len = acc.len + 1 := by rw [hacc', VL.len_app]; rfl
        have HAL := Lib.hid hal'
        rw [← hxs', ← hacc'] at ST
        rw [← hacc'] at HLS2
        clear hxs' hacc' hal' RP
        have h6 := ST.out.rds.at_
        have pq := fun W hW => peek_c R s q true W hW
        by_cases q44 : pk s q = 44
        · have HL3 := Lib.hid (HLS2.out.trans (if_pos q44))
          have hq2 : q < s.size := pk_lt (by rw [q44]; decide)
          have PQ := Lib.hid (show ∀ W, RdAt W R s q true → Calls Tryd.prog 57 #[.pointer (some ⟨R, 0, none⟩)] W fun e w' => e = .returned (.int .u8 44) ∧ ∃ n, w' = W.drewN n from fun W hW => by
            have := pq W hW
            rw [q44] at this
            exact this)
          have tq := fun W hW => take_c R s q true 44 W hW hs
          have e1 : tkOk s q true 44 = true := by simp [tkOk, hq2, q44]
          have e2 : tkAt s q true 44 = q + 1 := by unfold tkAt; rw [e1]; rfl
          rw [e1, e2] at tq
          have TQ := Lib.hid tq
          have tq1 := fun W hW => take_c R s (q + 1) true 32 W hW hs
          clear tq e1 e2 q44 pq
          by_cases q32 : pk s (q + 1) = 32
          · have HL4 := Lib.hid (HL3.out.trans (if_pos q32))
            have hq3 : q + 1 < s.size := pk_lt (by rw [q32]; decide)
            have e1 : tkOk s (q + 1) true 32 = true := by simp [tkOk, hq3, q32]
            have e2 : tkAt s (q + 1) true 32 = q + 2 := by unfold tkAt; rw [e1]; rfl
            rw [e1, e2] at tq1
            have TQ1 := Lib.hid tq1
            clear tq1 e1 e2 q32
            go_wp2_with fail
            refine (PQ.out _ h6).mono ?_
            rintro e w7 ⟨rfl, n7, rfl⟩
            go_wp2_with fail
            refine (TQ.out _ (h6.drewN n7)).mono ?_
            rintro e w8 ⟨rfl, hr8⟩
            go_wp2_with fail
            refine (TQ1.out _ hr8.at_).mono ?_
            rintro e w9 ⟨rfl, hr9⟩
            have hr9' : Rds w6 w9 R s (q + 2) true := (((Rds.of h6).drewN n7).trans hr8).trans hr9
            have kr9 := hr9.at_.c2
            have LI9 := Lib.hid (ST.out.ok hr9' hRl)
            clear hr8 hr9 hr9'
            go_wp2_with fail
            go_roundg k
            case measure => omega
            case rel => exact ⟨.slice VA' (acc.len + 1) VC', q + 2, acc', xs', LI9.out, by omega, by omega, by omega, by have := HAL.out; omega, HL4.out.symm.trans hqq.out⟩
          · have HL4 := Lib.hid (HL3.out.trans (if_neg q32))
            have e1 : tkOk s (q + 1) true 32 = false := by simp [tkOk, q32]
            have e2 : tkAt s (q + 1) true 32 = q + 1 := by unfold tkAt; rw [e1]; rfl
            rw [e1, e2] at tq1
            have TQ1 := Lib.hid tq1
            clear tq1 e1 e2 q32
            go_wp2_with fail
            refine (PQ.out _ h6).mono ?_
            rintro e w7 ⟨rfl, n7, rfl⟩
            go_wp2_with fail
            refine (TQ.out _ (h6.drewN n7)).mono ?_
            rintro e w8 ⟨rfl, hr8⟩
            go_wp2_with fail
            refine (TQ1.out _ hr8.at_).mono ?_
            rintro e w9 ⟨rfl, hr9⟩
            have hr9' : Rds w6 w9 R s (q + 1) false := (((Rds.of h6).drewN n7).trans hr8).trans hr9
            obtain ⟨m2, m3, mo, mc, mz9⟩ := ST.out.move hr9' hRl
            have kr9 := hr9.at_.c2
            have k20 := m2.c0; have k21 := m2.c1; have k22 := m2.c2; have k23 := m2.c3
            have k30 := m3.c0; have k31 := m3.c1; have k32 := m3.c2; have k33 := m3.c3
            have f20 := m2.fr 0; have f21 := m2.fr 1; have f22 := m2.fr 2; have f23 := m2.fr 3
            have M2 := Lib.hid m2
            have R9 := Lib.hid (ST.out.rds.trans hr9')
            clear hr8 hr9 hr9' m2 m3 mo mc
            go_wp2_with fail
            refine ret_cell4 Tryd.results62 w.heap.size rfl rfl (M2.out.set4 _ _ _ _) ?_
            rw [HSP.out, ← hqq.out, HL4.out]
            exact ⟨4, 0, ⟨#[]⟩, VA', acc.len + 1, VC', rfl, R9.out.far4 (Nat.le_refl _) hRl _ _ _ _, fun e => by cases e⟩
        · have HL3 := Lib.hid (HLS2.out.trans (if_neg q44))
          have nq := ne_byte (x := pk s q) 44 44 rfl q44
          obtain ⟨c2, hc2⟩ : ∃ c : Nat, c = (pk s q).toNat := ⟨_, rfl⟩
          rw [← hc2] at nq pq
          obtain ⟨nq1, nq2⟩ := nq
          have PQ := Lib.hid pq
          have HT : Hid (∀ W, RdAt W R s q true → Calls Tryd.prog 86 #[.pointer (some ⟨R, 0, none⟩), .int .u8 125] W fun e w' => e = .returned (.tuple #[]) ∧ Rds W w' R s (lstSp s (k + 1) j acc).1 (lstSp s (k + 1) j acc).2.1) := by
            intro W hW
            have ht := take_c R s q true 125 W hW hs
            by_cases q125 : pk s q = 125
            · have hq2 : q < s.size := pk_lt (by rw [q125]; decide)
              have e1 : tkOk s q true 125 = true := by simp [tkOk, hq2, q125]
              have e2 : tkAt s q true 125 = q + 1 := by unfold tkAt; rw [e1]; rfl
              rw [HL3.out, if_pos q125]
              rw [e1, e2] at ht
              exact ht
            · have e1 : tkOk s q true 125 = false := by simp [tkOk, q125]
              have e2 : tkAt s q true 125 = q := by unfold tkAt; rw [e1]; rfl
              rw [HL3.out, if_neg q125]
              rw [e1, e2] at ht
              exact ht
          have HV : Hid ((lstSp s (k + 1) j acc).2.2 = acc') := by
            show _ = _
            rw [HL3.out]
            split <;> rfl
          clear pq hc2 q44
          go_wp2_with fail
          refine (PQ.out _ h6).mono ?_
          rintro e w7 ⟨rfl, n7, rfl⟩
          go_wp2_with fail
          refine (HT.out _ (h6.drewN n7)).mono ?_
          rintro e w8 ⟨rfl, hr8⟩
          have hr8' : Rds w6 w8 R s (lstSp s (k + 1) j acc).1 (lstSp s (k + 1) j acc).2.1 := ((Rds.of h6).drewN n7).trans hr8
          obtain ⟨m2, m3, mo, mc, mz8⟩ := ST.out.move hr8' hRl
          have k20 := m2.c0; have k21 := m2.c1; have k22 := m2.c2; have k23 := m2.c3
          have k30 := m3.c0; have k31 := m3.c1; have k32 := m3.c2; have k33 := m3.c3
          have f20 := m2.fr 0; have f21 := m2.fr 1; have f22 := m2.fr 2; have f23 := m2.fr 3
          have M2 := Lib.hid m2
          have MO := Lib.hid mo
          have MC := Lib.hid mc
          have R8 := Lib.hid (ST.out.rds.trans hr8')
          have RL := Lib.hid (own_rep (S := fun b => w.heap.size + 2 ≤ b ∧ b < w8.heap.size) mo (mc.keep (fun _ _ => rfl) (fun b hb => ⟨hb.1, hb.2.1⟩)) (fun g hg => ⟨own_ge mo g hg, own_lt mo g hg⟩))
          clear hr8 hr8' m2 m3 mo mc
          go_wp2_with fail
          refine ret_cell4 Tryd.results62 w.heap.size rfl rfl (M2.out.set4 _ _ _ _) ?_
          rw [HSP.out, ← hqq.out, HV.out]
          obtain ⟨sa, sc, hse, hsl, hrp⟩ := RL.out
          injection hse with hs1 hs2 hs3
          subst hs1; subst hs3
          refine ⟨4, 0, ⟨#[]⟩, VA', acc.len + 1, VC', rfl, R8.out.far4 (Nat.le_refl _) hRl _ _ _ _, fun _ => ⟨acc', rfl, HAL.out.symm, hsl, ?_⟩⟩
          exact hrp.keep (fun b hb => heap_set4 _ _ _ _ _ _ _ (by have := hb.1; omega)) (fun b hb => ⟨by have := hb.1; omega, by rw [size_set4]; exact hb.2⟩)
end Go.Proofs.YtoemnccklakkeaaDoor
