/-
  LitSays: the walk of the law.
-/
import Derived.Test.YtoemnccklakkeaaDoorRtX
import Derived.Test.YtoemnccklakkeaaDoorBkB
import Derived.Test.YtoemnccklakkeaaDoorNbW
import Derived.Deep.RegionHeld3
namespace Go.Proofs.YtoemnccklakkeaaDoor
open Go.RowKit Go.Lib
set_option linter.unusedVariables false

/-- Read, where all is right. -/
theorem read_ok {ea : Nat → Addr} {s : ByteArray} {w w' : World} {e : Ending} {k n : Int} {t : ByteArray} {sub : VL} (hr : rdV s = (s.size, true, val1 k n t sub)) (h0 : (walk1 k n t sub 1 4096).1 = 0) (h : RdOut ea s w e w') :
    Below w.heap.size w w' ∧ ∃ (sa : Option Addr) (sc : Nat), sub.len ≤ sc ∧ RpL w' (fun b => b < w'.heap.size) sub sa ∧ e = .returned (.tuple #[.agg #[.int .i64 k, .int .i64 n, .string t, .slice sa sub.len sc], .nilIface]) := by
  obtain ⟨hb, ⟨hbad, _⟩ | ⟨_, k', n', t', sub', hv, h⟩⟩ := h
  · exact absurd ⟨by rw [hr], by rw [hr]; exact Nat.le_refl _⟩ hbad
  · rw [hr] at hv
    injection hv with e1 e2 e3 e4 _
    subst e1; subst e2; subst e3; subst e4
    rcases h with ⟨h, _⟩ | ⟨_, sa, sc, hsc, hrep, rfl⟩
    · exact absurd h0 h
    · exact ⟨hb, sa, sc, hsc, hrep.wide (fun b hb => hb.2), rfl⟩
theorem txt_len {k n : Int} {s : ByteArray} {sub : VL} (h0 : (walk1 k n s sub 1 4096).1 = 0) (h64 : (val1 k n s sub).i64) : (txt1 k n s (txtL sub)).length ≤ 100000 := by
  have h1 := txtL_len_le (val1 k n s sub) 1 (walk1_ok h0) h64
  have h2 := walk1_cost k n s sub 1 4096 (by omega) h0
  have h3 : cost (val1 k n s sub) = 1 + mOf k s + cost sub := by unfold val1; rw [cost, cost]; omega
  have h4 : ((txtL (val1 k n s sub)).map fun x => x.length + 2).sum = (txt1 k n s (txtL sub)).length + 2 := by simp [txtL, val1]
  rw [h4] at h1
  omega
theorem cell_below {w W : World} (hb : Below w.heap.size w W) {p : Addr} {v : Value} (h : w.cell? p = some v) : W.cell? p = some v := by
  have hlt : p.block < w.heap.size := by
    unfold World.cell? at h
    rcases Nat.lt_or_ge p.block w.heap.size with hlt | hge
    · exact hlt
    · rw [Array.getElem?_eq_none hge] at h; cases h
  exact (World.cell?_of_block (w := w) (hb.block _ hlt)).trans h

set_option maxRecDepth 100000 in
set_option maxHeartbeats 4000000 in
theorem litSays_c (k n : Int) (s : ByteArray) (sub : VL) (sa : Option Addr) (sc : Nat) (ea : Nat → Addr) (w : World) (hfit : (val1 k n s sub).fit) (h64 : (val1 k n s sub).i64) (hsc : sub.len ≤ sc)
    (hrep : RpL w (fun b => b < w.heap.size) sub sa) (he : ErrsAt w ea) (htx : TxAt w) :
    Calls Tryd.prog 5 #[.agg #[.int .i64 k, .int .i64 n, .string s, .slice sa sub.len sc]] w fun e w' => e = .returned (.bool true) ∧ Below w.heap.size w w' := by
  have hroom := htx.room
  obtain ⟨wa, hwa⟩ : ∃ wa, wa = w.alloc (.cells #[.int .i64 k, .int .i64 n, .string s, .slice sa sub.len sc] 31) := ⟨_, rfl⟩
  have hba : Below w.heap.size w wa := by rw [hwa]; exact (Below.refl _ _).alloc (Nat.le_refl _) _
  have hwz : wa.heap.size = w.heap.size + 1 := by rw [hwa]; simp
  have hV : StB wa w.heap.size (.int .i64 k) (.int .i64 n) (.string s) (.slice sa sub.len sc) := by rw [hwa]; exact StB.new w _ _ _ _
  have HV := fun (W : World) (hW : Below wa.heap.size wa W) => hV.below' hW
  have hw : ∀ W, Below wa.heap.size wa W → Below w.heap.size w W := fun W hW => hba.trans (below_le' hW (by omega))
  have HE := fun (W : World) (hW : Below wa.heap.size wa W) => he.below (hw W hW) (Nat.le_of_lt hroom)
  have HX := fun (W : World) (hW : Below wa.heap.size wa W) => htx.below (hw W hW) (Nat.le_refl _)
  have HR := fun (W : World) (hW : Below wa.heap.size wa W) => hrep.keep (w' := W) (S' := fun b => b < W.heap.size) (fun b hb => (hw W hW).block b hb) (fun b hb => by have := (hw W hW).size; omega)
  have F := Lib.hid (first_c ea wa (HE wa (Below.refl _ _)))
  have RC := Lib.hid (fun W hW => right_c k n s sub sa sc W hfit hsc (HR W hW))
  have PC := Lib.hid (fun W hW => Plain_c k n s sub sa sc ea W (HE W hW) (HX W hW) hfit h64 hsc (HR W hW))
  have QC := Lib.hid (fun W hW => PlainR_c k n s sub sa sc W (HX W hW) hfit h64 hsc (HR W hW))
  have TC := Lib.hid (fun W hW => Text_c k n s sub sa sc ea W (HE W hW) (HX W hW) hfit h64 hsc (HR W hW))
  have UC := Lib.hid (fun W hW => TextR_c k n s sub sa sc W (HX W hW) hfit h64 hsc (HR W hW))
  have SC := Lib.hid (fun W hW (sa' : Option Addr) (sc' : Nat) (hsc' : sub.len ≤ sc') (hr' : RpL W (fun b => b < W.heap.size) sub sa') => sameV_c k n s sub sa sc k n s sub sa' sc' W hfit hfit hsc hsc' (HR W hW) hr')
  rw [same1_iff.2 ⟨rfl, rfl, rfl, rfl⟩] at SC
  obtain ⟨h1, h2⟩ := rightB_txt k n s sub
  obtain ⟨r, hr⟩ : ∃ r, r = rightB k n s sub := ⟨_, rfl⟩
  rw [← hr] at RC h1 h2
  have HVV := Lib.hid HV
  have HB := Lib.hid hba
  have HW := Lib.hid hw
  have HWA := Lib.hid hwa
  have HEE := Lib.hid HE
  cases r with
  | false =>
    clear hba hV HV hw HE HX HR hwa hrep he htx PC QC TC UC SC hr h1 h2
    go_enter Tryd.func5, Tryd.ntmps5
    go_wp2_with fail
    rw [← HWA.out]
    refine F.out.mono ?_
    rintro e w2 ⟨rfl, hb2⟩
    have hv2 := HVV.out _ hb2
    have u0 := hv2.c0; have u1 := hv2.c1; have u2 := hv2.c2; have u3 := hv2.c3
    have HB2 := Lib.hid hb2
    clear hb2 hv2
    go_wp2_with fail
    refine (RC.out _ HB2.out).mono ?_
    rintro e w3 ⟨rfl, hb3⟩
    have HB3 := Lib.hid (HB2.out.trans (below_le' hb3 HB2.out.size))
    clear hb3
    go_wp2_with fail
    go_returns
    exact ⟨rfl, HW.out _ HB3.out⟩
  | true =>
    obtain ⟨e1, e2, hright⟩ := h1 rfl
    obtain ⟨T, hT⟩ : ∃ T : ByteArray, T = ⟨(txt1 k n s (txtL sub)).toArray⟩ := ⟨_, rfl⟩
    obtain ⟨Q, hQ⟩ : ∃ Q : ByteArray, Q = plnV k n s sub := ⟨_, rfl⟩
    rw [e1, ← hT] at TC UC
    rw [← hQ] at PC QC
    have hTl : T.data.toList = txt1 k n s (txtL sub) := by rw [hT]
    have hTs : T.size ≤ 100000 := by
      have h3 : T.size = T.data.toList.length := by rw [Array.length_toList]; rfl
      rw [h3, hTl]; exact txt_len hright h64
    have hRB := rdV_back (walk1_ok hright) h64 hTl
    have RD := Lib.hid (fun W hW => read_c T ea W (HE W hW) (by omega))
    have RK := Lib.hid (fun (W W' : World) (e : Ending) (h : RdOut ea T W e W') => read_ok hRB hright h)
    have hts := str_eq T
    have hqs := str_eq Q
    clear hba hV HV hw HE HX HR hwa hrep he htx hr h1 h2 hTl hRB hT hQ hright e1 e2
    go_enter Tryd.func5, Tryd.ntmps5
    go_wp2_with fail
    rw [← HWA.out]
    refine F.out.mono ?_
    rintro e w2 ⟨rfl, hb2⟩
    have hv2 := HVV.out _ hb2
    have u0 := hv2.c0; have u1 := hv2.c1; have u2 := hv2.c2; have u3 := hv2.c3
    have HB2 := Lib.hid hb2
    clear hb2 hv2
    go_wp2_with fail
    refine (RC.out _ HB2.out).mono ?_
    rintro e w3 ⟨rfl, hb3⟩
    have HB3 := Lib.hid (HB2.out.trans (below_le' hb3 HB2.out.size))
    have hv3 := HVV.out _ HB3.out
    clear hb3 u0 u1 u2 u3
    have u0 := hv3.c0; have u1 := hv3.c1; have u2 := hv3.c2; have u3 := hv3.c3
    clear hv3
    go_wp2_with fail
    refine (TC.out _ HB3.out).mono ?_
    rintro e w4 ⟨rfl, hb4⟩
    have HB4 := Lib.hid (HB3.out.trans (below_le' hb4 HB3.out.size))
    clear hb4 u0 u1 u2 u3
    go_wp2_with fail
    refine (RD.out _ HB4.out).mono ?_
    intro e w5 hout
    obtain ⟨hb5, sa', sc', hsc', hrep', rfl⟩ := RK.out _ _ _ hout
    have HB5 := Lib.hid (HB4.out.trans (below_le' hb5 HB4.out.size))
    clear hout hb5
    obtain ⟨w6, hw6⟩ : ∃ w6, w6 = w5.alloc (.cells #[.int .i64 k, .int .i64 n, .string s, .slice sa' sub.len sc'] 31) := ⟨_, rfl⟩
    have hb6 : Below wa.heap.size wa w6 := by rw [hw6]; exact HB5.out.alloc HB5.out.size _
    have hb56 : Below w5.heap.size w5 w6 := by rw [hw6]; exact (Below.refl _ _).alloc (Nat.le_refl _) _
    have hv6 := HVV.out _ hb6
    have hu6 : StB w6 w5.heap.size (.int .i64 k) (.int .i64 n) (.string s) (.slice sa' sub.len sc') := by rw [hw6]; exact StB.new w5 _ _ _ _
    have hr6 := hrep'.keep (w' := w6) (S' := fun b => b < w6.heap.size) (fun b hb => hb56.block b hb) (fun b hb => by have := hb56.size; omega)
    obtain ⟨S, hS⟩ : ∃ S : World → Prop, S = fun W => W.cell? ⟨w.heap.size, 0, none⟩ = some (.int .i64 k) ∧ W.cell? ⟨w.heap.size, 1, none⟩ = some (.int .i64 n) ∧ W.cell? ⟨w.heap.size, 2, none⟩ = some (.string s) ∧ W.cell? ⟨w.heap.size, 3, none⟩ = some (.slice sa sub.len sc) ∧
      W.cell? ⟨w5.heap.size, 0, none⟩ = some (.int .i64 k) ∧ W.cell? ⟨w5.heap.size, 1, none⟩ = some (.int .i64 n) ∧ W.cell? ⟨w5.heap.size, 2, none⟩ = some (.string s) ∧ W.cell? ⟨w5.heap.size, 3, none⟩ = some (.slice sa' sub.len sc') ∧ Below w6.heap.size w6 W := ⟨_, rfl⟩
    have KS : ∀ W, Below w6.heap.size w6 W → S W := fun W hW => by
      rw [hS]
      exact ⟨cell_below hW hv6.c0, cell_below hW hv6.c1, cell_below hW hv6.c2, cell_below hW hv6.c3, cell_below hW hu6.c0, cell_below hW hu6.c1, cell_below hW hu6.c2, cell_below hW hu6.c3, hW⟩
    have BS : ∀ W, S W → Below w6.heap.size w6 W := fun W h => by rw [hS] at h; exact h.2.2.2.2.2.2.2.2
    have BA : ∀ W, S W → Below wa.heap.size wa W := fun W h => hb6.trans (below_le' (BS W h) hb6.size)
    have C1 := Lib.hid (fun W (h : S W) => (UC.out W (BA W h)).mono (R' := fun e W' => e = .returned (.string T) ∧ S W') fun e W' h' => ⟨h'.1, KS _ ((BS W h).trans (below_le' h'.2 (BS W h).size))⟩)
    have C2 := Lib.hid (fun W (h : S W) => (PC.out W (BA W h)).mono (R' := fun e W' => e = .returned (.string Q) ∧ S W') fun e W' h' => ⟨h'.1, KS _ ((BS W h).trans (below_le' h'.2 (BS W h).size))⟩)
    have C3 := Lib.hid (fun W (h : S W) => (QC.out W (BA W h)).mono (R' := fun e W' => e = .returned (.string Q) ∧ S W') fun e W' h' => ⟨h'.1, KS _ ((BS W h).trans (below_le' h'.2 (BS W h).size))⟩)
    have C4 := Lib.hid (fun W (h : S W) => (SC.out W (BA W h) sa' sc' hsc' (hr6.keep (w' := W) (fun b hb => (BS W h).block b hb) (fun b hb => by have := (BS W h).size; omega))).mono (R' := fun e W' => e = .returned (.bool true) ∧ S W') fun e W' h' => ⟨h'.1, KS _ ((BS W h).trans (below_le' h'.2 (BS W h).size))⟩)
    have K0 : S w6.drew := KS _ (Below.refl _ _).drew
    have BAA := Lib.hid BA
    have HW6 := Lib.hid hw6
    clear KS BS BA hv6 hu6 hr6 hb56 hb6 hw6 hrep'
    subst hS
    go_wp2_with fail
    rw [← HW6.out]
    go_region_held3 (fun W => W.cell? ⟨w.heap.size, 0, none⟩ = some (.int .i64 k) ∧ W.cell? ⟨w.heap.size, 1, none⟩ = some (.int .i64 n) ∧ W.cell? ⟨w.heap.size, 2, none⟩ = some (.string s) ∧ W.cell? ⟨w.heap.size, 3, none⟩ = some (.slice sa sub.len sc) ∧
      W.cell? ⟨w5.heap.size, 0, none⟩ = some (.int .i64 k) ∧ W.cell? ⟨w5.heap.size, 1, none⟩ = some (.int .i64 n) ∧ W.cell? ⟨w5.heap.size, 2, none⟩ = some (.string s) ∧ W.cell? ⟨w5.heap.size, 3, none⟩ = some (.slice sa' sub.len sc') ∧ Below w6.heap.size w6 W)
      (first | assumption | exact K0)
      (first
        | (go_at_call 23; refine (C1.out _ ?_).mono ?_; assumption; rintro e w' ⟨rfl, hs⟩)
        | (go_at_call 24; refine (C2.out _ ?_).mono ?_; assumption; rintro e w' ⟨rfl, hs⟩)
        | (go_at_call 25; refine (C3.out _ ?_).mono ?_; assumption; rintro e w' ⟨rfl, hs⟩)
        | (go_at_call 20; refine (C4.out _ ?_).mono ?_; assumption; rintro e w' ⟨rfl, hs⟩))
    all_goals
      go_wp2_with fail
      go_returns
      exact ⟨rfl, HW.out _ (BAA.out _ (by assumption))⟩
end Go.Proofs.YtoemnccklakkeaaDoor
