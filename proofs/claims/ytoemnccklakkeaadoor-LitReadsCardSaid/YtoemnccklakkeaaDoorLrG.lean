/-
  The reference's reader: list.
-/
import Derived.Test.YtoemnccklakkeaaDoorLrF
import Derived.Maps.AppendAt
import Derived.Deep.DeepCutAuto
namespace Go.Proofs.YtoemnccklakkeaaDoor
open Go.RowKit Go.Lib
set_option linter.unusedVariables false

/-- What holds at the head of the list's loop. -/
structure LInvR (w wr : World) (R : Nat) (s : ByteArray) (j : Nat) (V : Value) (acc : VL) (xs : List Value) : Prop where
  rds : Rrs w wr R s j
  b2 : StB wr w.heap.size (.int .i64 0) (.int .i64 0) (.string ⟨#[]⟩) (.slice none 0 0)
  b3 : StB wr (w.heap.size + 1) (.int .i64 4) (.int .i64 0) (.string ⟨#[]⟩) V
  own : wr.ownsRow (w.heap.size + 2) 31 4 V acc.len xs
  cells : CellsOf wr (fun b => w.heap.size + 2 ≤ b ∧ b < wr.heap.size ∧ V.ownBlock ≠ some b) acc xs
  size : w.heap.size + 2 ≤ wr.heap.size

theorem LInvR.move {w wr wr' : World} {R : Nat} {s : ByteArray} {j j' : Nat} {V : Value} {acc : VL} {xs : List Value} (h : LInvR w wr R s j V acc xs) (hr : Rrs wr wr' R s j') (hR : R < w.heap.size) :
    StB wr' w.heap.size (.int .i64 0) (.int .i64 0) (.string ⟨#[]⟩) (.slice none 0 0) ∧ StB wr' (w.heap.size + 1) (.int .i64 4) (.int .i64 0) (.string ⟨#[]⟩) V ∧ wr'.ownsRow (w.heap.size + 2) 31 4 V acc.len xs ∧
      CellsOf wr' (fun b => w.heap.size + 2 ≤ b ∧ b < wr'.heap.size ∧ V.ownBlock ≠ some b) acc xs ∧ w.heap.size + 2 ≤ wr'.heap.size :=
  ⟨h.b2.only hr.grown (fun e => by injection e with e; omega), h.b3.only hr.grown (fun e => by injection e with e; omega), own_keep h.own hr.grown (by omega),
   h.cells.keep (fun b hb => hr.grown.block b hb.2.1 (fun e => by injection e with e; omega)) (fun b hb => ⟨hb.1, Nat.lt_of_lt_of_le hb.2.1 hr.grown.size, hb.2.2⟩), Nat.le_trans h.size hr.grown.size⟩
theorem LInvR.ok {w wr wr' : World} {R : Nat} {s : ByteArray} {j j' : Nat} {V : Value} {acc : VL} {xs : List Value} (h : LInvR w wr R s j V acc xs) (hr : Rrs wr wr' R s j') (hR : R < w.heap.size) : LInvR w wr' R s j' V acc xs :=
  ⟨h.rds.trans hr, (h.move hr hR).1, (h.move hr hR).2.1, (h.move hr hR).2.2.1, (h.move hr hR).2.2.2.1, (h.move hr hR).2.2.2.2⟩

theorem LInvR.grow {w wr w3 w5 : World} {R : Nat} {s : ByteArray} {j q : Nat} {V : Value} {acc : VL} {xs : List Value} (h : LInvR w wr R s j V acc xs) (hr : Rrs wr w3 R s q) (hR : R < w.heap.size) {o1 o2 : Obj}
    (hg : ((w3.alloc o1).alloc o2).grownBy w5 V.ownBlock) : StB w5 (w.heap.size + 1) (.int .i64 4) (.int .i64 0) (.string ⟨#[]⟩) V := by
  obtain ⟨_, m3, _, _, _⟩ := h.move hr hR
  have hlt := m3.lt
  have hsz : ((w3.alloc o1).alloc o2).heap.size = w3.heap.size + 2 := by simp
  have h1 := hg.block (w.heap.size + 1) (by omega) (fun e => by have := own_ge h.own _ e.symm; omega)
  exact (h1.trans ((Below.heap_alloc _ _ _ (by simp; omega)).trans (Below.heap_alloc _ _ _ hlt))).trans m3

theorem LInvR.step {w wr w3 w5 : World} {R : Nat} {s : ByteArray} {j q : Nat} {V V' : Value} {acc : VL} {xs : List Value} (h : LInvR w wr R s j V acc xs) (hr : Rrs wr w3 R s q) (hR : R < w.heap.size)
    {k n : Int} {t : ByteArray} {sub : VL} {sa : Option Addr} {sc : Nat} (hsc : sub.len ≤ sc) (hrep : RpL w3 (fun b => wr.heap.size ≤ b ∧ b < w3.heap.size) sub sa) {o1 o2 : Obj}
    (hown : w5.ownsRow (w.heap.size + 2) 31 4 V' (acc.len + 1) (xs ++ [.int .i64 k, .int .i64 n, .string t, .slice sa sub.len sc])) (hg : ((w3.alloc o1).alloc o2).grownBy w5 V.ownBlock)
    (hob : V'.ownBlock = V.ownBlock ∨ V'.ownBlock = some ((w3.alloc o1).alloc o2).heap.size) :
    LInvR w (w5.setCell ⟨w.heap.size + 1, 3, none⟩ V') R s q V' (acc.app (val1 k n t sub)) (xs ++ [.int .i64 k, .int .i64 n, .string t, .slice sa sub.len sc]) := by
  obtain ⟨m2, m3, mo, mc, mz⟩ := h.move hr hR
  have hVg : ∀ g, V.ownBlock = some g → w.heap.size + 2 ≤ g ∧ g < wr.heap.size := fun g hg => ⟨own_ge h.own g hg, own_lt h.own g hg⟩
  have hsz : ((w3.alloc o1).alloc o2).heap.size = w3.heap.size + 2 := by simp
  have hz5 : w3.heap.size + 2 ≤ w5.heap.size := by have := hg.size; omega
  have hz3 := hr.grown.size
  have blk : ∀ b, b < w3.heap.size → V.ownBlock ≠ some b → w5.heap[b]? = w3.heap[b]? := fun b hb hne => by
    have h1 := hg.block b (by omega) (fun e => hne e.symm)
    rw [h1, Below.heap_alloc _ _ _ (by simp; omega), Below.heap_alloc _ _ _ hb]
  have hV'b : ∀ b, b < w3.heap.size → V.ownBlock ≠ some b → V'.ownBlock ≠ some b := fun b hb hne e => by
    rcases hob with e2 | e2
    · exact hne (e2.symm.trans e)
    · rw [e] at e2
      injection e2 with e2
      omega
  have hb2ne : V.ownBlock ≠ some w.heap.size := fun e => by have := (hVg _ e).1; omega
  have hb3ne : V.ownBlock ≠ some (w.heap.size + 1) := fun e => by have := (hVg _ e).1; omega
  have hRne : V.ownBlock ≠ some R := fun e => by have := (hVg _ e).1; omega
  have hb2lt := m2.lt
  have hb3lt := m3.lt
  have s2 : StB w5 w.heap.size (.int .i64 0) (.int .i64 0) (.string ⟨#[]⟩) (.slice none 0 0) := (blk _ hb2lt hb2ne).trans m2
  have s3 : StB w5 (w.heap.size + 1) (.int .i64 4) (.int .i64 0) (.string ⟨#[]⟩) V := (blk _ hb3lt hb3ne).trans m3
  have r5 : Rrs w w5 R s q := Rrs.append (((h.rds.trans hr).alloc o1).alloc o2) hg hR (fun k hk => by have := (hVg k hk).1; omega)
  have keepc : ∀ b, w.heap.size + 2 ≤ b → (w5.setCell ⟨w.heap.size + 1, 3, none⟩ V').heap[b]? = w5.heap[b]? := fun b hb => Below.heap_setCell _ _ _ _ (by show b ≠ w.heap.size + 1; omega)
  have hzs : (w5.setCell ⟨w.heap.size + 1, 3, none⟩ V').heap.size = w5.heap.size := by simp [World.setCell]
  refine ⟨r5.far (p := ⟨w.heap.size + 1, 3, none⟩) (by show w.heap.size ≤ w.heap.size + 1; omega) hR V', s2.far (p := ⟨w.heap.size + 1, 3, none⟩) (by show w.heap.size ≠ w.heap.size + 1; omega) V', s3.set3 V', ?_, ?_, ?_⟩
  · rw [VL.len_app]
    exact own_set hown (by omega) 3
  · refine CellsOf.app _ _ _ _ ?_ ⟨sa, sc, [], rfl, hsc, ?_, rfl⟩
    · refine mc.keep (fun b hb => ?_) (fun b hb => ⟨hb.1, by rw [hzs]; have := hb.2.1; omega, hV'b b hb.2.1 hb.2.2⟩)
      rw [keepc b hb.1, blk b hb.2.1 hb.2.2]
    · have hne : ∀ b, wr.heap.size ≤ b → V.ownBlock ≠ some b := fun b hb e => by have := (hVg b e).2; omega
      have hsz0 := h.size
      refine hrep.keep (fun b hb => ?_) (fun b hb => ⟨by have := hb.1; omega, by rw [hzs]; have := hb.2; omega, hV'b b hb.2 (hne b hb.1)⟩)
      rw [keepc b (by have := hb.1; omega), blk b hb.2 (hne b hb.1)]
  · rw [hzs]; omega


/-- What a call of the reference's value is to show. -/
def ValRC (f : Nat) : Prop := ∀ (R : Nat) (s : ByteArray) (i : Nat) (w : World), RrAt w R s i → s.size ≤ 1000000000 → i ≤ s.size → 2 * (s.size - i) + 2 ≤ f →
  Calls Tryd.prog 41 #[.pointer (some ⟨R, 0, none⟩)] w (PRef w R s (valR s f i))
/-- What the reference's list reads, at a place where a bracket opens. -/
def brR (s : ByteArray) (f i : Nat) : Nat × Bool × VL :=
  if pk s (i + 1) = 125 then (i + 2, true, val1 4 0 ByteArray.empty .nil)
  else ((lstR s f (i + 1) .nil).1, (lstR s f (i + 1) .nil).2.1, val1 4 0 ByteArray.empty (lstR s f (i + 1) .nil).2.2)
theorem valR_place (s : ByteArray) (f i : Nat) (h : i ≤ s.size) : i ≤ (valR s f i).1 ∧ (valR s f i).1 ≤ s.size := by rw [(val_agr s f i h).1]; exact valSp_place s f i h

set_option maxRecDepth 100000 in
set_option maxHeartbeats 4000000 in
theorem listR_c (f : Nat) (ih : ∀ f', f' < f → ValRC f') (R : Nat) (s : ByteArray) (i : Nat) (w : World) (h : RrAt w R s i) (hs : s.size ≤ 1000000000) (hi : i < s.size) (hf : 2 * (s.size - i) + 1 ≤ f) :
    Calls Tryd.prog 70 #[.pointer (some ⟨R, 0, none⟩)] w (PRef w R s (brR s f i)) := by
  obtain ⟨i0, hi0, hz0, hz1, hz2⟩ := info_parts val_info
  have hRl := h.lt
  have c1 := h.c1
  have cf := h.fr 1
  have IH := Lib.hid ih
  obtain ⟨wb, hwb⟩ : ∃ wb, wb = w.setCell ⟨R, 1, none⟩ (.int .i64 ((i : Int) + 1)) := ⟨_, rfl⟩
  have hzb : wb.heap.size = w.heap.size := by rw [hwb]; simp [World.setCell]
  obtain ⟨wa, hwa⟩ : ∃ wa, wa = (wb.alloc (.cells #[.int .i64 0, .int .i64 0, .string ⟨#[]⟩, .slice none 0 0] 31)).alloc (.cells #[.int .i64 4, .int .i64 0, .string ⟨#[]⟩, .slice none 0 0] 31) := ⟨_, rfl⟩
  have hra : Rrs w wa R s (i + 1) := by rw [hwa, hwb]; exact (((Rrs.of h).set1 (i + 1)).alloc _).alloc _
  have hb2 : StB wa w.heap.size (.int .i64 0) (.int .i64 0) (.string ⟨#[]⟩) (.slice none 0 0) := by rw [hwa, ← hzb]; exact (StB.new wb _ _ _ _).alloc _
  have hb3 : StB wa (w.heap.size + 1) (.int .i64 4) (.int .i64 0) (.string ⟨#[]⟩) (.slice none 0 0) := by rw [hwa, ← hzb]; have := StB.new (wb.alloc (.cells #[.int .i64 0, .int .i64 0, .string ⟨#[]⟩, .slice none 0 0] 31)) (.int .i64 4) (.int .i64 0) (.string ⟨#[]⟩) (.slice none 0 0); simpa using this
  have hza : wa.heap.size = w.heap.size + 2 := by rw [hwa]; simp; omega
  have HA := Lib.hid hra
  have HB2 := Lib.hid hb2
  have HB3 := Lib.hid hb3
  have HZA := Lib.hid hza
  have HWA := Lib.hid (hwb ▸ hwa)
  clear hra hb2 hb3 hza hwa hwb hzb ih h
  go_enter Tryd.func70, Tryd.ntmps70
  go_wp2_with fail
  rw [← HWA.out]
  have d0 := HA.out.at_.c0
  have d1 := HA.out.at_.c1
  have df := HA.out.at_.fr 1
  have HIN := Lib.hid (show i + 1 ≤ s.size from hi)
  clear c1 cf HWA
  obtain ⟨j1, hj1⟩ : ∃ j1, j1 = i + 1 := ⟨_, rfl⟩
  rw [← hj1] at d1 HIN HA
  have HJ1 := Lib.hid hj1
  by_cases hq : pk s (i + 1) = 125
  · have HSP := Lib.hid (show brR s f i = (i + 2, true, val1 4 0 ByteArray.empty .nil) by unfold brR; rw [if_pos hq])
    have hlt : j1 < s.size := by rw [hj1]; exact pk_lt (by rw [hq]; decide)
    have t1 : decide ((j1 : Int) < (s.size : Int)) = true := by rw [decide_eq_true_eq]; omega
    have t2 : ((s[j1].toNat : Int) == 125) = true := by rw [← pk_in s j1 hlt, hj1, hq]; rfl
    have k20 := HB2.out.c0; have k21 := HB2.out.c1; have k22 := HB2.out.c2; have k23 := HB2.out.c3
    have k30 := HB3.out.c0; have k31 := HB3.out.c1; have k32 := HB3.out.c2; have k33 := HB3.out.c3
    have m20 := HB2.out.fr 0; have m21 := HB2.out.fr 1; have m22 := HB2.out.fr 2; have m23 := HB2.out.fr 3
    have hne2 : w.heap.size ≠ R := by omega
    have hne3 : w.heap.size + 1 ≠ R := by omega
    clear hq hj1
    go_wp2_with fail
    go_quiet (fail)
    go_wp2_with fail
    refine ret_cell4_tmp Tryd.results70 w.heap.size rfl rfl (StB.set4 (a := .int .i64 0) (b := .int .i64 0) (c := .string ⟨#[]⟩) (d := .slice none 0 0) (by first | exact (HB2.out.drewN _).far (p := ⟨R, 1, none⟩) (by show w.heap.size ≠ R; omega) _ | exact (HB2.out.far (p := ⟨R, 1, none⟩) (by show w.heap.size ≠ R; omega) _).drewN _) _ _ _ _) ?_
    rw [HSP.out]
    exact PRef.mk4 rfl (by show Rrs _ _ _ _ (i + 2); rw [show i + 2 = j1 + 1 by have := HJ1.out; omega]; first | exact (HA.out.drewN _).set1 (j1 + 1) | exact (HA.out.set1 (j1 + 1)).drewN _) hRl rfl
  · have HSP := Lib.hid (show brR s f i = ((lstR s f (i + 1) .nil).1, (lstR s f (i + 1) .nil).2.1, val1 4 0 ByteArray.empty (lstR s f (i + 1) .nil).2.2) by unfold brR; rw [if_neg hq])
    have hway : (∃ h : j1 < s.size, ((s[j1].toNat : Int) == 125) = false) ∨ ¬ j1 < s.size := by
      by_cases hlt : j1 < s.size
      · refine .inl ⟨hlt, ?_⟩
        rw [← pk_in s j1 hlt]; exact (ne_byte 125 125 rfl (by rw [hj1]; exact hq)).1
      · exact .inr hlt
    have HL0 := Lib.hid (fun n => show LInvR w (wa.drewN n) R s j1 (.slice none 0 0) .nil [] from ⟨HA.out.drewN n, HB2.out.drewN n, HB3.out.drewN n, World.ownsRow_nil _ _ _ _, rfl, by have := HZA.out; show w.heap.size + 2 ≤ wa.heap.size; omega⟩)
    rw [← hj1] at HSP
    have hji : i < j1 := by omega
    clear hq hj1 HA HB2 HB3 HZA
    go_cut [38] from 17 to 38 (fun c wx => c = .bool false ∧ ∃ n, wx = wa.drewN n)
    case first =>
      rcases hway with ⟨hlt, t2⟩ | hlt
      · have t1 : decide ((j1 : Int) < (s.size : Int)) = true := by rw [decide_eq_true_eq]; omega
        go_quiet (fail)
        go_wp2_with fail
        go_meet
        exact ⟨rfl, _, rfl⟩
      · have t1 : decide ((j1 : Int) < (s.size : Int)) = false := by rw [decide_eq_false_iff_not]; omega
        have t3 : decide (j1 < s.size) = false := by rw [decide_eq_false_iff_not]; omega
        go_quiet (fail)
        go_wp2_with fail
        go_meet
        exact ⟨rfl, _, rfl⟩
    case rest =>
      obtain ⟨rfl, n0, rfl⟩ := hcut
      obtain ⟨wL, hwL⟩ : ∃ wL, wL = wa.drewN n0 := ⟨_, rfl⟩
      have HL1 := Lib.hid (hwL ▸ HL0.out n0)
      rw [← hwL]
      clear hwL hway d0 d1 df HL0
      go_wp2_with fail
      go_loopg [] f (fun k wr => ∃ (V : Value) (j : Nat) (acc : VL) (xs : List Value), LInvR w wr R s j V acc xs ∧ j ≤ s.size ∧ 2 * (s.size - j) + 3 ≤ k ∧ k ≤ f ∧ acc.len ≤ j ∧ Hid (lstR s k j acc = lstR s f j1 .nil))
      case atStart => exact ⟨.slice none 0 0, j1, .nil, [], HL1.out, HIN.out, by have := HJ1.out; omega, Nat.le_refl _, Nat.zero_le _, rfl⟩
      case round =>
        obtain ⟨V, j, acc, xs, hli, hj, hk, hkf, hal, hqq⟩ := hrel
        obtain ⟨k, rfl⟩ : ∃ k, gk = k + 1 := ⟨gk - 1, by omega⟩
        have hrj := hli.rds.at_
        obtain ⟨VA, VC, rfl⟩ := own_form hli.own
        have LI := Lib.hid hli
        clear hli
        go_wp2_with fail
        refine (IH.out k (by omega) R s j wr hrj hs hj (by omega)).mono ?_
        rintro e w3 hpv
        obtain ⟨vk, vn, vt, va, vl, vc, rfl, hr3, hval⟩ := hpv
        have hpl := valR_place s k j hj
        obtain ⟨q, okb, vv, hrr⟩ : ∃ q okb vv, valR s k j = (q, okb, vv) := ⟨_, _, _, rfl⟩
        have HLS := Lib.hid (show lstR s (k + 1) j acc = if okb = false then (q, false, acc) else if pk s q = 125 then (q + 1, true, acc.app vv) else if pk s q = 44 then if pk s (q + 1) = 32 then lstR s k (q + 2) (acc.app vv) else (q + 1, false, acc.app vv) else (q, false, acc.app vv) by rw [lstR, hrr])
        rw [hrr] at hr3 hval hpl
        simp only at hr3 hval hpl
        rw [hrr]
        simp only
        obtain ⟨hpl1, hpl2⟩ := hpl
        clear hrr
        cases okb with
        | false =>
          have HLS2 := Lib.hid (HLS.out.trans (if_pos rfl))
          obtain ⟨m2, m3, mo, mc, mz⟩ := LI.out.move hr3 hRl
          have M2 := Lib.hid (m2.alloc (.cells #[.int .i64 vk, .int .i64 vn, .string vt, .slice va vl vc] 31))
          have MR := Lib.hid ((LI.out.rds.trans hr3).alloc (.cells #[.int .i64 vk, .int .i64 vn, .string vt, .slice va vl vc] 31))
          have k20 := M2.out.c0; have k21 := M2.out.c1; have k22 := M2.out.c2; have k23 := M2.out.c3
          have f20 := M2.out.fr 0; have f21 := M2.out.fr 1; have f22 := M2.out.fr 2; have f23 := M2.out.fr 3
          clear hval hr3 m2 m3 mo mc mz HLS
          go_wp2_with fail
          refine ret_cell4_tmp Tryd.results70 w.heap.size rfl rfl (M2.out.set4 _ _ _ _) ?_
          rw [HSP.out, ← hqq.out, HLS2.out]
          exact PRef.bad rfl MR.out hRl
        | true =>
          have HLS2 := Lib.hid (HLS.out.trans (if_neg (by decide)))
          obtain ⟨sub, hvv, hvl, hsc, hrep⟩ := hval rfl
          subst hvl
          rw [hvv] at HLS2
          have RP := Lib.hid hrep
          have R3 := Lib.hid hr3
          obtain ⟨m2, m3, mo, mc, mz⟩ := LI.out.move hr3 hRl
          have M3 := Lib.hid (m3.alloc (.cells #[.int .i64 vk, .int .i64 vn, .string vt, .slice va sub.len vc] 31))
          have MO := Lib.hid mo
          have NX := StB.new w3 (.int .i64 vk) (.int .i64 vn) (.string vt) (.slice va sub.len vc)
          have k33 := M3.out.c3
          have n0 := NX.c0; have n1 := NX.c1; have n2' := NX.c2; have n3 := NX.c3
          clear hval hr3 m2 m3 mo mc HLS hvv hrep NX
          go_wp2_with (at_builtin; refine wpList_append_own_at _ rfl (.tmp 57) (.tmp 59) 29 rfl (w.heap.size + 2) 31 i0 _ 4 56 Tryd.underlying29 hi0 hz0 hz1 hz2 rfl (by decide) (.slice VA acc.len VC) acc.len xs rfl ((MO.out.alloc _).alloc _) ⟨w3.heap.size + 1, 0, none⟩ 1 1 [.int .i64 vk, .int .i64 vn, .string vt, .slice va sub.len vc] rfl rfl ?c1 ?c2 ?c3 ?c4 ?c5 ?_
                       case c1 => exact cell_four_new (w3.alloc _) _ (by simp) _ _ _ _ _
                       case c2 => intro u hu; simp at hu; rcases hu with rfl | rfl | rfl | rfl <;> rfl
                       case c3 => unfold maxLen; omega
                       case c4 => omega
                       case c5 => simp; omega
                       intro V' w5 hown' hgrow _ hob
                       obtain ⟨VA', VC', hV'⟩ := own_form hown'
                       rw [hV'] at hown' hob ⊢
                       have s5 := LInvR.grow LI.out R3.out hRl hgrow
                       have s53 := s5.c3
                       have s5f := s5.fr 3
                       have ST := Lib.hid (LInvR.step LI.out R3.out hRl hsc RP.out hown' hgrow hob)
                       clear hown' hgrow hob hV' s5)
          obtain ⟨w6, hw6⟩ : ∃ w6, w6 = w5.setCell ⟨w.heap.size + 1, 3, none⟩ (.slice VA' (acc.len + 1) VC') := ⟨_, rfl⟩
          rw [← hw6] at ST
          rw [← hw6]
          clear hw6 s53 s5f k33 n0 n1 n2' n3 M3 MO LI
          obtain ⟨xs', hxs'⟩ : ∃ xs', xs' = xs ++ [.int .i64 vk, .int .i64 vn, .string vt, .slice va sub.len vc] := ⟨_, rfl⟩
          obtain ⟨acc', hacc'⟩ : ∃ acc', acc' = acc.app (val1 vk vn vt sub) := ⟨_, rfl⟩
          have hal' : acc'.len = acc.len + 1 := by rw [hacc', VL.len_app]; rfl
          have HAL := Lib.hid hal'
          rw [← hxs', ← hacc'] at ST
          rw [← hacc'] at HLS2
          clear hxs' hacc' hal' RP
          have d0 := ST.out.rds.at_.c0
          have d1 := ST.out.rds.at_.c1
          have df := ST.out.rds.at_.fr 1
          by_cases q125 : pk s q = 125
          · have HLS3 := Lib.hid (HLS2.out.trans (if_pos q125))
            have hlt : q < s.size := pk_lt (by rw [q125]; decide)
            have t1 : decide ((q : Int) < (s.size : Int)) = true := by rw [decide_eq_true_eq]; omega
            have t2 : ((s[q].toNat : Int) == 125) = true := by rw [← pk_in s q hlt, q125]; rfl
            have k20 := ST.out.b2.c0; have k21 := ST.out.b2.c1; have k22 := ST.out.b2.c2; have k23 := ST.out.b2.c3
            have k30 := ST.out.b3.c0; have k31 := ST.out.b3.c1; have k32 := ST.out.b3.c2; have k33 := ST.out.b3.c3
            have f20 := ST.out.b2.fr 0; have f21 := ST.out.b2.fr 1; have f22 := ST.out.b2.fr 2; have f23 := ST.out.b2.fr 3
            have hne2 : w.heap.size ≠ R := by omega
            have hne3 : w.heap.size + 1 ≠ R := by omega
            have RL := Lib.hid (own_rep (S := fun b => w.heap.size + 2 ≤ b ∧ b < w6.heap.size) ST.out.own (ST.out.cells.keep (fun _ _ => rfl) (fun b hb => ⟨hb.1, hb.2.1⟩)) (fun g hg => ⟨own_ge ST.out.own g hg, own_lt ST.out.own g hg⟩))
            clear q125
            go_wp2_with fail
            go_quiet (fail)
            go_wp2_with fail
            refine ret_cell4_tmp Tryd.results70 w.heap.size rfl rfl (StB.set4 (a := .int .i64 0) (b := .int .i64 0) (c := .string ⟨#[]⟩) (d := .slice none 0 0) (by first | exact (ST.out.b2.drewN _).far (p := ⟨R, 1, none⟩) (by show w.heap.size ≠ R; omega) _ | exact (ST.out.b2.far (p := ⟨R, 1, none⟩) (by show w.heap.size ≠ R; omega) _).drewN _) _ _ _ _) ?_
            rw [HSP.out, ← hqq.out, HLS3.out]
            obtain ⟨sa, sc, hse, hsl, hrp⟩ := RL.out
            injection hse with hs1 hs2 hs3
            subst hs1; subst hs3
            refine ⟨4, 0, ⟨#[]⟩, VA', acc.len + 1, VC', rfl, Rrs.far4 (by first | exact (ST.out.rds.drewN _).set1 (q + 1) | exact (ST.out.rds.set1 (q + 1)).drewN _) (Nat.le_refl _) hRl _ _ _ _, fun _ => ⟨acc', rfl, HAL.out.symm, hsl, ?_⟩⟩
            exact hrp.keep (fun b hb => by rw [heap_set4 _ _ _ _ _ _ _ (by have := hb.1; omega)]; first | exact Below.heap_setCell _ _ _ _ (by show b ≠ R; have := hb.1; omega) | exact Below.heap_setCell w6 _ _ _ (by show b ≠ R; have := hb.1; omega)) (fun b hb => ⟨by have := hb.1; omega, by rw [size_set4]; simp [World.setCell]; exact hb.2⟩)
          · have HLS3 := Lib.hid (HLS2.out.trans (if_neg q125))
            have hway : (∃ h : q < s.size, ((s[q].toNat : Int) == 125) = false) ∨ (¬ q < s.size ∧ decide (q < s.size) = false) := by
              by_cases hlt : q < s.size
              · exact .inl ⟨hlt, by rw [← pk_in s q hlt]; exact (ne_byte 125 125 rfl q125).1⟩
              · exact .inr ⟨hlt, by rw [decide_eq_false_iff_not]; exact hlt⟩
            clear q125 HLS2
            go_wp2_with fail
            go_cut [83] from 62 to 83 (fun c wx => c = .bool false ∧ ∃ n, wx = w6.drewN n)
            case first =>
              rcases hway with ⟨hlq, t2⟩ | ⟨hlq, t2⟩
              · have t1 : decide ((q : Int) < (s.size : Int)) = true := by rw [decide_eq_true_eq]; omega
                go_quiet (fail)
                go_wp2_with fail
                go_meet
                exact ⟨rfl, _, rfl⟩
              · have t1 : decide ((q : Int) < (s.size : Int)) = false := by rw [decide_eq_false_iff_not]; omega
                go_quiet (fail)
                go_wp2_with fail
                go_meet
                exact ⟨rfl, _, rfl⟩
            case rest =>
              obtain ⟨rfl, n7, rfl⟩ := hcut
              obtain ⟨w7, hw7⟩ : ∃ w7, w7 = w6.drewN n7 := ⟨_, rfl⟩
              have R7 := Lib.hid (show Rrs w6 w7 R s q by rw [hw7]; exact (Rrs.of ST.out.rds.at_).drewN _)
              rw [← hw7]
              clear hw7 d0 d1 df hway
              go_wp2_with fail
              go_loopg [7] 3 (fun k' v7 wv => ∃ c p : Nat, v7 = .int .i64 c ∧ c + k' = 3 ∧ c ≤ 2 ∧ p = q + c ∧ Hid (Rrs w6 wv R s p) ∧ Hid ((1 ≤ c → pk s q = 44) ∧ (2 ≤ c → pk s (q + 1) = 32)))
              case atStart => exact ⟨0, q, rfl, rfl, by omega, rfl, R7.out, ⟨fun h => by omega, fun h => by omega⟩⟩
              case round =>
                obtain ⟨c, p, rfl, hck, hc2, hpc, hrv, hcs⟩ := hrel
                have e0 := hrv.out.at_.c0
                have e1 := hrv.out.at_.c1
                have ef := hrv.out.at_.fr 1
                have HPC := Lib.hid hpc
                obtain ⟨m2, m3, mo, mc, mz9⟩ := ST.out.move hrv.out hRl
                have M2 := Lib.hid m2
                have RV := Lib.hid (ST.out.rds.trans hrv.out)
                have k20 := m2.c0; have k21 := m2.c1; have k22 := m2.c2; have k23 := m2.c3
                have f20 := m2.fr 0; have f21 := m2.fr 1; have f22 := m2.fr 2; have f23 := m2.fr 3
                clear m2 m3 mo mc mz9 hpc
                have hc : c = 0 ∨ c = 1 ∨ c = 2 := by omega
                rcases hc with rfl | rfl | rfl
                · obtain ⟨g, rfl⟩ : ∃ g, gk = g + 1 := ⟨gk - 1, by omega⟩
                  have HB := Lib.hid (fun (hch : ¬ pk s p = 44) => show lstR s (k + 1) j acc = (p, false, acc') from by rw [HPC.out] at hch ⊢; exact HLS3.out.trans (if_neg hch))
                  by_cases hch : pk s p = 44
                  · have hlt : p < s.size := pk_lt (by rw [hch]; decide)
                    have t1 : decide ((s.size : Int) ≤ (p : Int)) = false := by rw [decide_eq_false_iff_not]; omega
                    have t2 : ¬ s.size ≤ p := by omega
                    have t3 : ((s[p].toNat : Int) != (((⟨#[44, 32]⟩ : ByteArray)[0]).toNat : Int)) = false := by rw [← pk_in s p hlt, hch]; rfl
                    have HCS := Lib.hid (show (1 ≤ 1 → pk s q = 44) ∧ (2 ≤ 1 → pk s (q + 1) = 32) from ⟨fun _ => by rw [show q = p by have := HPC.out; omega]; exact hch, fun h => by omega⟩)
                    clear hch HB
                    go_wp2_with fail
                    go_quiet (fail)
                    go_wp2_with fail
                    go_roundg g
                    case measure => omega
                    case rel => exact ⟨1, p + 1, rfl, by omega, by omega, by have := HPC.out; show p + 1 = q + 1; omega, by first | exact (hrv.out.drewN _).set1 (p + 1) | exact (hrv.out.set1 (p + 1)).drewN _, HCS.out⟩
                  · have HB := Lib.hid (HB.out hch)
                    have hway : (∃ h : p < s.size, ((s[p].toNat : Int) != (((⟨#[44, 32]⟩ : ByteArray)[0]).toNat : Int)) = true) ∨ s.size ≤ p := by
                      by_cases hlt : p < s.size
                      · exact .inl ⟨hlt, by rw [← pk_in s p hlt]; exact (ne_byte 44 44 rfl hch).2⟩
                      · exact .inr (by omega)
                    clear hch
                    rcases hway with ⟨hlt, t3⟩ | hge
                    · have t1 : decide ((s.size : Int) ≤ (p : Int)) = false := by rw [decide_eq_false_iff_not]; omega
                      have t2 : ¬ s.size ≤ p := by omega
                      go_wp2_with fail
                      go_quiet (fail)
                      go_wp2_with fail
                      refine ret_cell4_tmp Tryd.results70 w.heap.size rfl rfl (StB.set4 (a := .int .i64 0) (b := .int .i64 0) (c := .string ⟨#[]⟩) (d := .slice none 0 0) (M2.out.drewN _) _ _ _ _) ?_
                      rw [HSP.out, ← hqq.out, HB.out]
                      exact PRef.bad rfl (RV.out.drewN _) hRl
                    · have t1 : decide ((s.size : Int) ≤ (p : Int)) = true := by rw [decide_eq_true_eq]; omega
                      go_wp2_with fail
                      go_quiet (fail)
                      go_wp2_with fail
                      refine ret_cell4_tmp Tryd.results70 w.heap.size rfl rfl (StB.set4 (a := .int .i64 0) (b := .int .i64 0) (c := .string ⟨#[]⟩) (d := .slice none 0 0) (M2.out.drewN _) _ _ _ _) ?_
                      rw [HSP.out, ← hqq.out, HB.out]
                      exact PRef.bad rfl (RV.out.drewN _) hRl
                · obtain ⟨g, rfl⟩ : ∃ g, gk = g + 1 := ⟨gk - 1, by omega⟩
                  have HB := Lib.hid (fun (hch : ¬ pk s p = 32) => show lstR s (k + 1) j acc = (p, false, acc') from by rw [HPC.out] at hch ⊢; exact (HLS3.out.trans (if_pos (hcs.out.1 (by omega)))).trans (if_neg hch))
                  by_cases hch : pk s p = 32
                  · have hlt : p < s.size := pk_lt (by rw [hch]; decide)
                    have t1 : decide ((s.size : Int) ≤ (p : Int)) = false := by rw [decide_eq_false_iff_not]; omega
                    have t2 : ¬ s.size ≤ p := by omega
                    have t3 : ((s[p].toNat : Int) != (((⟨#[44, 32]⟩ : ByteArray)[1]).toNat : Int)) = false := by rw [← pk_in s p hlt, hch]; rfl
                    have HCS := Lib.hid (show (1 ≤ 2 → pk s q = 44) ∧ (2 ≤ 2 → pk s (q + 1) = 32) from ⟨fun _ => hcs.out.1 (by omega), fun _ => by rw [show q + 1 = p by have := HPC.out; omega]; exact hch⟩)
                    clear hch HB
                    go_wp2_with fail
                    go_quiet (fail)
                    go_wp2_with fail
                    go_roundg g
                    case measure => omega
                    case rel => exact ⟨2, p + 1, rfl, by omega, by omega, by have := HPC.out; show p + 1 = q + 2; omega, by first | exact (hrv.out.drewN _).set1 (p + 1) | exact (hrv.out.set1 (p + 1)).drewN _, HCS.out⟩
                  · have HB := Lib.hid (HB.out hch)
                    have hway : (∃ h : p < s.size, ((s[p].toNat : Int) != (((⟨#[44, 32]⟩ : ByteArray)[1]).toNat : Int)) = true) ∨ s.size ≤ p := by
                      by_cases hlt : p < s.size
                      · exact .inl ⟨hlt, by rw [← pk_in s p hlt]; exact (ne_byte 32 32 rfl hch).2⟩
                      · exact .inr (by omega)
                    clear hch
                    rcases hway with ⟨hlt, t3⟩ | hge
                    · have t1 : decide ((s.size : Int) ≤ (p : Int)) = false := by rw [decide_eq_false_iff_not]; omega
                      have t2 : ¬ s.size ≤ p := by omega
                      go_wp2_with fail
                      go_quiet (fail)
                      go_wp2_with fail
                      refine ret_cell4_tmp Tryd.results70 w.heap.size rfl rfl (StB.set4 (a := .int .i64 0) (b := .int .i64 0) (c := .string ⟨#[]⟩) (d := .slice none 0 0) (M2.out.drewN _) _ _ _ _) ?_
                      rw [HSP.out, ← hqq.out, HB.out]
                      exact PRef.bad rfl (RV.out.drewN _) hRl
                    · have t1 : decide ((s.size : Int) ≤ (p : Int)) = true := by rw [decide_eq_true_eq]; omega
                      go_wp2_with fail
                      go_quiet (fail)
                      go_wp2_with fail
                      refine ret_cell4_tmp Tryd.results70 w.heap.size rfl rfl (StB.set4 (a := .int .i64 0) (b := .int .i64 0) (c := .string ⟨#[]⟩) (d := .slice none 0 0) (M2.out.drewN _) _ _ _ _) ?_
                      rw [HSP.out, ← hqq.out, HB.out]
                      exact PRef.bad rfl (RV.out.drewN _) hRl
                · have HL4 := Lib.hid ((HLS3.out.trans (if_pos (hcs.out.1 (by omega)))).trans (if_pos (hcs.out.2 (by omega))))
                  have hp2 : p ≤ s.size := by have := pk_lt (s := s) (i := q + 1) (by rw [hcs.out.2 (by omega)]; decide); have := HPC.out; omega
                  have LI9 := Lib.hid (ST.out.ok hrv.out hRl)
                  go_wp2_with fail
                  go_roundg k
                  case measure => omega
                  case rel => exact ⟨.slice VA' (acc.len + 1) VC', p, acc', xs', LI9.out, hp2, by have := HPC.out; omega, by omega, by have := HAL.out; have := HPC.out; omega, by have := HPC.out; rw [this]; exact HL4.out.symm.trans hqq.out⟩
end Go.Proofs.YtoemnccklakkeaaDoor
