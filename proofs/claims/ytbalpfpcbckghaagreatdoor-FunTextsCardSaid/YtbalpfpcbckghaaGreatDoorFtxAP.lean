/- Contracts of the functions that the statement reaches, and the plain mathematics beneath: several texts joined. -/
import Derived.Test.YtbalpfpcbckghaaGreatDoorFtxAO
namespace Go.Proofs.YtbalpfpcbckghaaGreatDoor
open Go.RowKit Go.Lib
set_option linter.unusedVariables false

set_option maxRecDepth 100000 in
set_option maxHeartbeats 8000000 in
theorem funTexts_t (k n : Int) (s : ByteArray) (sub : VL) (sa : Option Addr) (sc : Nat) (l : List (List UInt8)) (A : Option Addr) (c : Nat) (n0 : Int) (ea : Nat → Addr) (w : World) (hfit : (val1 k n s sub).fit) (h64 : (val1 k n s sub).i64) (hsc : sub.len ≤ sc)
    (hrep : RpL w (fun b => b < w.heap.size) sub sa) (hlen : l.length ≤ 9223372036854775807) (hstr : StrO w A l) (hn0 : -9223372036854775808 ≤ n0) (hn1 : n0 ≤ 9223372036854775807) (hea : ErrsAt w ea) (hst : StrcAt w) (htx : TxAt w) (hsp : SpaceAt w) (hmd : MdAt w ea) (hgw : l.all goodW = true) :
    Calls Tryz.prog 4 #[.agg #[.int .i64 k, .int .i64 n, .string s, .slice sa sub.len sc], .slice A l.length c, .int .i64 n0] w fun e w' => e = .returned (.bool true) ∧ Below w.heap.size w w' := by
  have hroom := htx.room
  obtain ⟨i0, hi0, hz0, hz1, hz2⟩ := info_parts val_info
  have he : FnEnv w := ⟨hsp, htx.mx, hroom⟩
  obtain ⟨wa, hwa⟩ : ∃ wa, wa = w.alloc (.cells #[.int .i64 k, .int .i64 n, .string s, .slice sa sub.len sc] 24) := ⟨_, rfl⟩
  have hba : Below w.heap.size w wa := by rw [hwa]; exact (Below.refl _ _).alloc (Nat.le_refl _) _
  have hwz : wa.heap.size = w.heap.size + 1 := by rw [hwa]; simp
  have hV : StB wa w.heap.size (.int .i64 k) (.int .i64 n) (.string s) (.slice sa sub.len sc) := by rw [hwa]; exact StB.new w _ _ _ _
  have HV := fun (W : World) (hW : Below wa.heap.size wa W) => hV.below' hW
  have hw : ∀ W, Below wa.heap.size wa W → Below w.heap.size w W := fun W hW => hba.trans (below_le' hW (by omega))
  have HE := fun (W : World) (hW : Below wa.heap.size wa W) => hea.below (hw W hW) (Nat.le_of_lt hroom)
  have HX := fun (W : World) (hW : Below wa.heap.size wa W) => htx.below (hw W hW) (Nat.le_refl _)
  have HN := fun (W : World) (hW : Below wa.heap.size wa W) => he.below (hw W hW) (Nat.le_of_lt hroom)
  have HM := fun (W : World) (hW : Below wa.heap.size wa W) => hmd.below (hw W hW)
  have HR := fun (W : World) (hW : Below wa.heap.size wa W) => hrep.keep (w' := W) (S' := fun b => b < W.heap.size) (fun b hb => (hw W hW).block b hb) (fun b hb => by have := (hw W hW).size; omega)
  have F := Lib.hid (funfirst_c ea wa (HN wa (Below.refl _ _)) (HE wa (Below.refl _ _)))
  have RC := Lib.hid (fun W hW => right_c k n s sub sa sc W hfit hsc (HR W hW))
  have UC := Lib.hid (fun W hW => TextR_c k n s sub sa sc W (HX W hW) hfit h64 hsc (HR W hW))
  have SO := fun (W : World) (hW : Below wa.heap.size wa W) => hstr.below (hw W hW)
  have TXC := Lib.hid (fun W hW => texts_c A c l 12 20 W (SO W hW) (by decide) (by decide) hlen)
  obtain ⟨tb, htb⟩ : ∃ tb, tb = textsB l 12 20 := ⟨_, rfl⟩
  rw [← htb] at TXC
  obtain ⟨r, hr⟩ : ∃ r, r = rightB k n s sub := ⟨_, rfl⟩
  rw [← hr] at RC
  have HVV := Lib.hid HV
  have HB := Lib.hid hba
  have HW := Lib.hid hw
  have HWA := Lib.hid hwa
  have HEE := Lib.hid HE
  have HTB := Lib.hid htb
  have HRR := Lib.hid hr
  have HSO := Lib.hid SO
  have LIT := Lib.hid (fun (hr1 : rightB k n s sub = true) (W : World) (hW : Below wa.heap.size wa W) (g : Nat) (hg : StB W g (.int .i64 k) (.int .i64 n) (.string s) (.slice sa sub.len sc)) =>
    callLit k n s sub (some ⟨g, 0, none⟩) 1 ea W (HN W hW) (HE W hW) (HM W hW) (HX W hW) hfit h64 hr1 (Nat.le_refl _) ⟨g, 0, sa, sc, rfl, hg.lt, hg.c0, hg.c1, hg.c2, hg.c3, hsc, HR W hW, trivial⟩)
  have ABS := Lib.hid (fun (W : World) (hW : Below wa.heap.size wa W) (g : Nat) (hg : StB W g (.int .i64 0) (.int .i64 n0) (.string ⟨#[]⟩) (.slice none 0 0)) =>
    callAbs n0 (some ⟨g, 0, none⟩) 1 ea W (HN W hW) (HE W hW) (Nat.le_refl _) ⟨g, 0, none, 0, rfl, hg.lt, hg.c0, hg.c1, hg.c2, hg.c3, Nat.le_refl _, trivial, trivial⟩)
  have TOI := Lib.hid (fun (W : World) (hW : Below wa.heap.size wa W) (g : Nat) (hg : StB W g (.int .i64 2) (.int .i64 0) (.string ⟨(itoa n0).toArray⟩) (.slice none 0 0)) =>
    callToint n0 (some ⟨g, 0, none⟩) 1 ea W (HN W hW) (HE W hW) (hst.below (hw W hW) (Nat.le_refl _)) hn0 hn1 (Nat.le_refl _) ⟨g, 0, none, 0, rfl, hg.lt, hg.c0, hg.c1, hg.c2, hg.c3, Nat.le_refl _, trivial, trivial⟩)
  have TOS := Lib.hid (fun (W : World) (hW : Below wa.heap.size wa W) (g : Nat) (hg : g < W.heap.size) (hh : W.heap[g]? = some (.cells #[.int .i64 0, .int .i64 n0, .string ⟨#[]⟩, .slice none 0 0, .int .i64 2, .int .i64 0, .string ⟨#[120]⟩, .slice none 0 0] 24)) =>
    callTostr n0 (some ⟨g, 0, none⟩) 2 ea W (HN W hW) (HE W hW) (HX W hW) hn0 hn1 (Nat.le_refl _)
      ⟨g, 0, none, 0, rfl, hg, cell_of_row _ _ 0 _ _ _ hh, cell_of_row _ _ 1 _ _ _ hh, cell_of_row _ _ 2 _ _ _ hh, cell_of_row _ _ 3 _ _ _ hh, Nat.le_refl _, trivial,
        g, 4, none, 0, rfl, hg, cell_of_row _ _ 4 _ _ _ hh, cell_of_row _ _ 5 _ _ _ hh, cell_of_row _ _ 6 _ _ _ hh, cell_of_row _ _ 7 _ _ _ hh, Nat.le_refl _, trivial, trivial⟩)
  have TNC := Lib.hid (fun (W : World) (hW : Below wa.heap.size wa W) => TextR_c 0 n0 ⟨#[]⟩ .nil none 0 W (HX W hW) (by exact ⟨by decide, by decide, trivial, trivial⟩) (by exact ⟨hn0, hn1, trivial, trivial⟩) (Nat.le_refl _) trivial)
  rw [num_txt] at TNC
  have JOI := Lib.hid (fun (ws : List (List UInt8)) (W : World) (hW : Below wa.heap.size wa W) (g : Nat) (sb : Option Addr) (cb : Nat) (hg : StB W g (.int .i64 4) (.int .i64 0) (.string ⟨#[]⟩) (.slice sb (strV ws).len cb)) (hcb : (strV ws).len ≤ cb) (hrb : RpL W (fun b => b < W.heap.size) (strV ws) sb) (hpr : ∀ x ∈ ws, prB x = true) (hsum : sumW ws ≤ 4000) (hwl : ws.length ≤ 4000) (hx : ∀ x ∈ ws, x.length ≤ 4000) =>
    callJoin ws (some ⟨g, 0, none⟩) 1 ea W (HN W hW) (HE W hW) (Nat.le_refl _) hpr hsum hwl hx ⟨g, 0, sb, cb, rfl, hg.lt, hg.c0, hg.c1, hg.c2, hg.c3, hcb, hrb, trivial⟩)
  have WOR := Lib.hid (fun (ws : List (List UInt8)) (W : World) (hW : Below wa.heap.size wa W) (g : Nat) (sb : Option Addr) (cb : Nat) (hg : StB W g (.int .i64 2) (.int .i64 0) (.string ⟨(joinW ws).toArray⟩) (.slice sb VL.nil.len cb)) (hcb : VL.nil.len ≤ cb) (hpr : ∀ x ∈ ws, prB x = true) (hgd : ∀ x ∈ ws, (32 : UInt8) ∉ x ∧ x ≠ []) (hsum : sumW ws ≤ 4000) (hwl : ws.length ≤ 4000) (hx : ∀ x ∈ ws, x.length ≤ 4000) =>
    callWords ws (some ⟨g, 0, none⟩) 1 ea W (HN W hW) (HE W hW) (Nat.le_refl _) hpr hgd hsum hwl hx ⟨g, 0, sb, cb, rfl, hg.lt, hg.c0, hg.c1, hg.c2, hg.c3, hcb, trivial, trivial⟩)
  obtain ⟨X, hX⟩ : ∃ X : ByteArray, X = ⟨(itoa n0).toArray⟩ := ⟨_, rfl⟩
  have hXs : X.size ≤ 1000 := by rw [hX, ba_size]; have := itoa_len hn0 hn1; omega
  rw [← hX] at TOI TNC
  have hX2 : (⟨(itoa n0 ++ [120]).toArray⟩ : ByteArray) = X ++ ⟨#[120]⟩ := by
    rw [hX]
    apply ByteArray.ext
    rw [ByteArray.data_append]
    simp
  rw [hX2] at TOS
  have VI := Lib.hid (fun W => valI_c n0 W)
  have VX := Lib.hid (fun W => valS_c ⟨#[120]⟩ W)
  have VT := Lib.hid (fun W => valS_c X W)
  have HGW := Lib.hid hgw
  clear hgw hX hX2 hba hV HV hw HE HX HN HM HR SO hwa hrep hea hst htx hsp hmd he hstr htb hr
  go_enter Tryz.func4, Tryz.ntmps4
  go_wp2_with fail
  rw [← HWA.out]
  refine F.out.mono ?_
  rintro e w2 ⟨rfl, hb2⟩
  have hv2 := HVV.out _ hb2
  have u0 := hv2.c0; have u1 := hv2.c1; have u2 := hv2.c2; have u3 := hv2.c3
  have HB2 := Lib.hid hb2
  clear hb2 hv2
  go_wp2_with fail
  refine (RC.out _ HB2.out).mono ?_
  rintro e w3 ⟨rfl, hb3⟩
  have HB3 := Lib.hid (HB2.out.trans (below_le' hb3 HB2.out.size))
  have hv3 := HVV.out _ HB3.out
  clear hb3 u0 u1 u2 u3
  have u0 := hv3.c0; have u1 := hv3.c1; have u2 := hv3.c2; have u3 := hv3.c3
  clear hv3
  cases r with
  | false =>
    go_wp2_with fail
    go_returns
    exact ⟨rfl, HW.out _ HB3.out⟩
  | true =>
    go_wp2_with fail
    refine (TXC.out _ HB3.out).mono ?_
    rintro e w4 ⟨rfl, rfl⟩
    cases tb with
    | false =>
      go_wp2_with fail
      go_returns
      exact ⟨rfl, HW.out _ HB3.out⟩
    | true =>
      have LI := Lib.hid (LIT.out HRR.out.symm)
      have hlm := HTB.out
      unfold textsB at hlm
      rw [eq_comm, Bool.and_eq_true, decide_eq_true_eq, List.all_eq_true] at hlm
      obtain ⟨hl12, hl20⟩ := hlm
      have HL20 := Lib.hid (fun x hx => of_decide_eq_true (hl20 x hx))
      clear hl20 LIT RC TXC F
      obtain ⟨w5, hw5⟩ : ∃ w5, w5 = w3.alloc (.cells #[.int .i64 k, .int .i64 n, .string s, .slice sa sub.len sc] 24) := ⟨_, rfl⟩
      have hb5 : Below wa.heap.size wa w5 := by rw [hw5]; exact HB3.out.alloc HB3.out.size _
      have LC := Lib.hid (LI.out w5 hb5 w3.heap.size (by rw [hw5]; exact StB.new w3 _ _ _ _))
      have HW5 := Lib.hid hw5
      have HB5 := Lib.hid hb5
      clear hw5 hb5 LI
      obtain ⟨T, hT⟩ : ∃ T, T = txtV k n s sub := ⟨_, rfl⟩
      rw [← hT] at LC UC
      clear hT
      go_wp2_with fail
      rw [← HW5.out]
      refine LC.out.mono ?_
      rintro e w6 ⟨k1, n1, S1, code, ⟨sa1, sc1, rfl, hsc1, hr1, hb6⟩, hS1⟩
      have HB6 := Lib.hid (HB5.out.trans (below_le' hb6 HB5.out.size))
      have HS1 := Lib.hid hS1
      obtain ⟨w7, hw7⟩ : ∃ w7, w7 = w6.alloc (.cells #[.int .i64 k1, .int .i64 n1, .string S1, .slice sa1 VL.nil.len sc1] 24) := ⟨_, rfl⟩
      have hb7 : Below wa.heap.size wa w7 := by rw [hw7]; exact HB6.out.alloc HB6.out.size _
      have hg7 : StB w7 w6.heap.size (.int .i64 k1) (.int .i64 n1) (.string S1) (.slice sa1 VL.nil.len sc1) := by rw [hw7]; exact StB.new w6 _ _ _ _
      have hv7 := HVV.out _ hb7
      have v0 := hv7.c0; have v1 := hv7.c1; have v2 := hv7.c2; have v3 := hv7.c3; have g2 := hg7.c2
      have HG7 := Lib.hid hg7
      have HV7 := Lib.hid hv7
      have HB7 := Lib.hid hb7
      have HW7 := Lib.hid hw7
      clear hb6 hr1 hsc1 hS1 u0 u1 u2 u3 LC hw7 hb7 hg7 hv7
      go_wp2_with fail
      rw [← HW7.out]
      go_cut [59] (fun v wx => v = .bool false ∧ Hid (Below wa.heap.size wa wx))
      case first =>
        by_cases hbig : T.size < 4096
        · obtain ⟨e1, e2⟩ := HS1.out hbig
          subst e1
          subst e2
          have hts := str_eq S1
          have hbI : (S1.size : Int) < 4096 := by omega
          obtain ⟨S, hS⟩ : ∃ S : World → Prop, S = fun W => W.cell? ⟨w.heap.size, 0, none⟩ = some (.int .i64 k) ∧ W.cell? ⟨w.heap.size, 1, none⟩ = some (.int .i64 n) ∧ W.cell? ⟨w.heap.size, 2, none⟩ = some (.string s) ∧ W.cell? ⟨w.heap.size, 3, none⟩ = some (.slice sa sub.len sc) ∧
            W.cell? ⟨w6.heap.size, 2, none⟩ = some (.string S1) ∧ Below w7.heap.size w7 W := ⟨_, rfl⟩
          have KS : ∀ W, Below w7.heap.size w7 W → S W := fun W hW => by
            rw [hS]
            exact ⟨cell_below hW v0, cell_below hW v1, cell_below hW v2, cell_below hW v3, cell_below hW g2, hW⟩
          have BS : ∀ W, S W → Below w7.heap.size w7 W := fun W h => by rw [hS] at h; exact h.2.2.2.2.2
          have BA : ∀ W, S W → Below wa.heap.size wa W := fun W h => HB7.out.trans (below_le' (BS W h) HB7.out.size)
          have C1 := Lib.hid (fun W (h : S W) => (UC.out W (BA W h)).mono (R' := fun e W' => e = .returned (.string S1) ∧ S W') fun e W' h' => ⟨h'.1, KS _ ((BS W h).trans (below_le' h'.2 (BS W h).size))⟩)
          have K0 : S w7.drew := KS _ (Below.refl _ _).drew
          have BAA := Lib.hid BA
          clear KS BS BA v0 v1 v2 v3 g2 hbig
          subst hS
          go_region_held3 (fun W => W.cell? ⟨w.heap.size, 0, none⟩ = some (.int .i64 k) ∧ W.cell? ⟨w.heap.size, 1, none⟩ = some (.int .i64 n) ∧ W.cell? ⟨w.heap.size, 2, none⟩ = some (.string s) ∧ W.cell? ⟨w.heap.size, 3, none⟩ = some (.slice sa sub.len sc) ∧
            W.cell? ⟨w6.heap.size, 2, none⟩ = some (.string S1) ∧ Below w7.heap.size w7 W)
            (first | with_reducible assumption | with_reducible exact K0)
            (first
              | (go_at_call 19; refine (C1.out _ ?_).mono ?_; assumption; rintro e w' ⟨rfl, hs⟩))
          all_goals
            go_wp2_with fail
            go_meet
            exact ⟨rfl, BAA.out _ (by assumption)⟩
        · have hbI : ¬ (T.size : Int) < 4096 := by omega
          have hbd : decide ((T.size : Int) < 4096) = false := decide_eq_false hbI
          have KS : ∀ W, Below w7.heap.size w7 W → W.cell? ⟨w.heap.size, 0, none⟩ = some (.int .i64 k) ∧ W.cell? ⟨w.heap.size, 1, none⟩ = some (.int .i64 n) ∧ W.cell? ⟨w.heap.size, 2, none⟩ = some (.string s) ∧ W.cell? ⟨w.heap.size, 3, none⟩ = some (.slice sa sub.len sc) ∧ Below w7.heap.size w7 W := fun W hW =>
            ⟨cell_below hW v0, cell_below hW v1, cell_below hW v2, cell_below hW v3, hW⟩
          have HKS := Lib.hid KS
          clear KS hbig v0 v1 v2 v3 g2
          refine wp_region_held_drew (S := (fun W => W.cell? ⟨w.heap.size, 0, none⟩ = some (.int .i64 k) ∧ W.cell? ⟨w.heap.size, 1, none⟩ = some (.int .i64 n) ∧ W.cell? ⟨w.heap.size, 2, none⟩ = some (.string s) ∧ W.cell? ⟨w.heap.size, 3, none⟩ = some (.slice sa sub.len sc) ∧ Below w7.heap.size w7 W)) (by kernel_rfl) (HKS.out _ (Below.refl _ _).drew) (fun hHeld => ?_)
          refine wpAnyH_take (i := 0) (oi := _) (v := (.agg #[.int .i64 k, .int .i64 n, .string s, .slice sa sub.len sc])) rfl (by kernel_rfl) (by kernel_rfl) (by kernel_rfl) (fun _ _ _ h => h) (Or.inl ⟨by rfl, fun W hSw => ?_⟩) (by with_reducible assumption) ?_
          · (try dsimp only at hSw); go_simp
          change wpAnyH _ _ _ _ _ _ _ (Act.put _ (some 45) _) _
          simp only [Act.put, List.setIfInBounds_toArray, List.set_cons_zero, List.set_cons_succ]
          refine wpAnyH_ready (rs := [1]) (by kernel_rfl) (by simp) ?_
          refine AllReadyH.cons (o := _) rfl (fun K hK => ?_) AllReadyH.nil
          go_simp
          go_at_call 19
          refine (UC.out _ (HB7.out.trans (below_le' hHeld.2.2.2.2 HB7.out.size))).mono ?_
          rintro e w8 ⟨rfl, hb8⟩
          have hs8 := HKS.out w8 (hHeld.2.2.2.2.trans (below_le' hb8 hHeld.2.2.2.2.size))
          clear hb8 hHeld
          refine hK.out _ _ hs8 (fun hHeld => ?_)
          clear hK K
          refine wpAnyH_take (i := 2) (oi := _) (v := (.int .i64 (T.size : Int))) rfl (by kernel_rfl) (by kernel_rfl) (by kernel_rfl) (fun _ _ _ h => h) (Or.inl ⟨by rfl, fun W hSw => ?_⟩) (by with_reducible assumption) ?_
          · (try dsimp only at hSw); go_simp
          change wpAnyH _ _ _ _ _ _ _ (Act.put _ (some 47) _) _
          simp only [Act.put, List.setIfInBounds_toArray, List.set_cons_zero, List.set_cons_succ]
          refine wpAnyH_take (i := 3) (oi := _) (v := (.bool false)) rfl (by kernel_rfl) (by kernel_rfl) (by kernel_rfl) (fun _ _ _ h => h) (Or.inl ⟨by rfl, fun W hSw => ?_⟩) (by with_reducible assumption) ?_
          · (try dsimp only at hSw); go_simp
          change wpAnyH _ _ _ _ _ _ _ (Act.put _ (some 48) _) _
          simp only [Act.put, List.setIfInBounds_toArray, List.set_cons_zero, List.set_cons_succ]
          refine wpAnyH_take (i := 4) (oi := _) (v := (.bool false)) rfl (by kernel_rfl) (by kernel_rfl) (by kernel_rfl) (fun _ _ _ h => h) (Or.inl ⟨by rfl, fun W hSw => ?_⟩) (by with_reducible assumption) ?_
          · (try dsimp only at hSw); go_simp
          change wpAnyH _ _ _ _ _ _ _ (Act.put _ (some 49) _) _
          simp only [Act.put, List.setIfInBounds_toArray, List.set_cons_zero, List.set_cons_succ]
          refine wpAnyH_take (i := 5) (oi := _) (v := undef) rfl (by kernel_rfl) (by kernel_rfl) (by kernel_rfl) (fun _ _ _ h => h) (Or.inr ⟨by rfl, rfl⟩) (by with_reducible assumption) ?_
          change wpAnyH _ _ _ _ _ _ _ (Act.put _ (some 50) _) _
          simp only [Act.put, List.setIfInBounds_toArray, List.set_cons_zero, List.set_cons_succ]
          refine wpAnyH_take (i := 6) (oi := _) (v := undef) rfl (by kernel_rfl) (by kernel_rfl) (by kernel_rfl) (fun _ _ _ h => h) (Or.inr ⟨by rfl, rfl⟩) (by with_reducible assumption) ?_
          change wpAnyH _ _ _ _ _ _ _ (Act.put _ (some 51) _) _
          simp only [Act.put, List.setIfInBounds_toArray, List.set_cons_zero, List.set_cons_succ]
          refine wpAnyH_take (i := 7) (oi := _) (v := undef) rfl (by kernel_rfl) (by kernel_rfl) (by kernel_rfl) (fun _ _ _ h => h) (Or.inr ⟨by rfl, rfl⟩) (by with_reducible assumption) ?_
          change wpAnyH _ _ _ _ _ _ _ (Act.put _ (some 52) _) _
          simp only [Act.put, List.setIfInBounds_toArray, List.set_cons_zero, List.set_cons_succ]
          refine wpAnyH_take (i := 8) (oi := _) (v := undef) rfl (by kernel_rfl) (by kernel_rfl) (by kernel_rfl) (fun _ _ _ h => h) (Or.inr ⟨by rfl, rfl⟩) (by with_reducible assumption) ?_
          change wpAnyH _ _ _ _ _ _ _ (Act.put _ (some 53) _) _
          simp only [Act.put, List.setIfInBounds_toArray, List.set_cons_zero, List.set_cons_succ]
          refine wpAnyH_take (i := 9) (oi := _) (v := undef) rfl (by kernel_rfl) (by kernel_rfl) (by kernel_rfl) (fun _ _ _ h => h) (Or.inr ⟨by rfl, rfl⟩) (by with_reducible assumption) ?_
          change wpAnyH _ _ _ _ _ _ _ (Act.put _ (some 54) _) _
          simp only [Act.put, List.setIfInBounds_toArray, List.set_cons_zero, List.set_cons_succ]
          refine wpAnyH_take (i := 10) (oi := _) (v := undef) rfl (by kernel_rfl) (by kernel_rfl) (by kernel_rfl) (fun _ _ _ h => h) (Or.inr ⟨by rfl, rfl⟩) (by with_reducible assumption) ?_
          change wpAnyH _ _ _ _ _ _ _ (Act.put _ (some 55) _) _
          simp only [Act.put, List.setIfInBounds_toArray, List.set_cons_zero, List.set_cons_succ]
          refine wpAnyH_take (i := 11) (oi := _) (v := undef) rfl (by kernel_rfl) (by kernel_rfl) (by kernel_rfl) (fun _ _ _ h => h) (Or.inr ⟨by rfl, rfl⟩) (by with_reducible assumption) ?_
          change wpAnyH _ _ _ _ _ _ _ (Act.put _ (some 56) _) _
          simp only [Act.put, List.setIfInBounds_toArray, List.set_cons_zero, List.set_cons_succ]
          refine wpAnyH_take (i := 12) (oi := _) (v := undef) rfl (by kernel_rfl) (by kernel_rfl) (by kernel_rfl) (fun _ _ _ h => h) (Or.inr ⟨by rfl, rfl⟩) (by with_reducible assumption) ?_
          change wpAnyH _ _ _ _ _ _ _ (Act.put _ (some 57) _) _
          simp only [Act.put, List.setIfInBounds_toArray, List.set_cons_zero, List.set_cons_succ]
          refine wpAnyH_take (i := 13) (oi := _) (v := undef) rfl (by kernel_rfl) (by kernel_rfl) (by kernel_rfl) (fun _ _ _ h => h) (Or.inr ⟨by rfl, rfl⟩) (by with_reducible assumption) ?_
          change wpAnyH _ _ _ _ _ _ _ (Act.put _ (some 58) _) _
          simp only [Act.put, List.setIfInBounds_toArray, List.set_cons_zero, List.set_cons_succ]
          refine wpAnyH_take (i := 14) (oi := _) (v := (.bool false)) rfl (by kernel_rfl) (by kernel_rfl) (by kernel_rfl) (fun _ _ _ h => h) (Or.inl ⟨by rfl, fun W hSw => ?_⟩) (by with_reducible assumption) ?_
          · (try dsimp only at hSw); go_simp
          change wpAnyH _ _ _ _ _ _ _ (Act.put _ (some 59) _) _
          simp only [Act.put, List.setIfInBounds_toArray, List.set_cons_zero, List.set_cons_succ]
          refine wpAnyH_done (by kernel_rfl) ?_ _
          go_wp2_with fail
          go_meet
          exact ⟨rfl, HB7.out.trans (below_le' hs8.2.2.2.2 HB7.out.size)⟩
      case rest =>
        obtain ⟨rfl, hb8⟩ := hcut
        have HB8 := Lib.hid hb8.out
        clear hb8 v0 v1 v2 v3 g2 HG7 HV7 HW7 HS1 HB6 HB5 HW5 HB3 HB2 HB7 UC HVV
        generalize hw8 : wc = w8 at HB8 ⊢
        clear hw8
        go_wp2_with fail
        go_loopg [10, 11, 12] l.length (fun kk av gv iv wr => ∃ (i : Nat) (V : Value) (xs : List Value), V = av ∧ gv = .bool ((l.take i).all goodW) ∧ iv = .int .i64 (i : Int) ∧ i + kk = l.length ∧ Hid (CInv w8.heap.size w8 wr V (strV (l.take i)) xs))
        case atStart => exact ⟨0, _, [], rfl, rfl, rfl, by omega, Lib.hid (CInv.nil w8)⟩
        case round =>
          obtain ⟨i, V, xs, rfl, rfl, rfl, hik, hC⟩ := hrel
          have hrz := hC.out.size
          obtain ⟨gb, hgb⟩ : ∃ gb, gb = (l.take i).all goodW := ⟨_, rfl⟩
          rw [← hgb]
          have HGB := Lib.hid hgb
          clear hgb
          have hol : (strV (l.take i)).len = i := by rw [strV_len, List.length_take]; omega
          by_cases hi : i < l.length
          · obtain ⟨kk, rfl⟩ : ∃ kk, gk = kk + 1 := ⟨gk - 1, by omega⟩
            have hiI : (i : Int) < (l.length : Int) := by omega
            have hi0I : (0 : Int) ≤ (i : Int) := by omega
            obtain ⟨x, hx⟩ : ∃ x, l[i]? = some x := ⟨_, List.getElem?_eq_getElem hi⟩
            obtain ⟨bx, hbx⟩ : ∃ bx : ByteArray, bx = ⟨x.toArray⟩ := ⟨_, rfl⟩
            have hx20 := HL20.out x (List.mem_of_getElem? hx)
            have hbl : bx.data.toList = x := by rw [hbx]
            have hbz : bx.size ≤ 20 := by rw [hbx, ba_size]; exact hx20
            have hso := HSO.out w8 HB8.out
            have SN := Lib.hid (strV_take l i x hx)
            have TK := Lib.hid (show (l.take (i + 1)).all goodW = ((l.take i).all goodW && goodW x) by rw [List.take_succ_eq_append_getElem hi, List.all_append, show l[i] = x from Option.some.inj ((List.getElem?_eq_getElem hi).symm.trans hx)]; simp)
            rcases hso with rfl | ⟨g, o, rfl, hg, hcs⟩
            · cases hi
            have hcx8 := hcs i x hx
            rw [← hbx] at hcx8 SN
            have hcx := cell_below hC.out.below hcx8
            have CX8 := Lib.hid hcx8
            have VC := Lib.hid (valS_c bx wr)
            have HBX := Lib.hid hbl
            have HHI := Lib.hid hol
            clear hcs hbx hbl hx hol hcx8
            have hbz2 : bx.size ≤ 1000000 := by omega
            have IXC := Lib.hid (fun W => refIndex_sp bx W hbz2)
            have PRC := Lib.hid (fun W => printed_c bx W (by omega))
            rw [HBX.out] at IXC PRC
            go_wp2_with fail
            refine VC.out.mono ?_
            rintro e w9 ⟨rfl, hw9⟩
            have hb9 : Below wr.heap.size wr w9 := by rw [← hw9]; exact (Below.refl _ _).alloc (Nat.le_refl _) _
            have C9 := Lib.hid (hC.out.move hb9)
            have HB9 := Lib.hid hb9
            have h9z := hb9.size
            have hcx9 := cell_below hb9 hcx
            have q2 : (bx.toList == (⟨#[]⟩ : ByteArray).toList) = decide (x = []) := by
              rw [Lib.toList_data, HBX.out, show (⟨#[]⟩ : ByteArray).toList = [] by rw [Lib.toList_data]]
              cases x <;> rfl
            have q1 : (bx.toList == []) = decide (x = []) := by
              rw [Lib.toList_data, HBX.out]
              cases x <;> rfl
            clear hw9 hb9 VC hcx
            cases gb with
            | false =>
              go_wp2_with (at_builtin; refine wpList_append_own_at _ rfl (.tmp 66) (.tmp 72) 22 rfl w8.heap.size 24 i0 _ 4 56 Tryz.underlying22 hi0 hz0 hz1 hz2 rfl (by decide) V (strV (l.take i)).len xs rfl (own_below C9.out.own ((Below.refl _ _).alloc (Nat.le_refl _) _)) ⟨w9.heap.size, 0, none⟩ 1 1 [.int .i64 2, .int .i64 0, .string bx, .slice none 0 0] rfl rfl ?c1 ?c2 ?c3 ?c4 ?c5 ?c6
                           case c1 => exact cell_four_new w9 _ rfl _ _ _ _ _
                           case c2 => intro u hu; simp at hu; rcases hu with rfl | rfl | rfl | rfl <;> rfl
                           case c3 => unfold maxLen; have := HHI.out; omega
                           case c4 => have := HHI.out; omega
                           case c5 => have := HHI.out; simp; omega
                           intro V' w10 hown' hgrow _ hob
                           have ST := Lib.hid (CInv.step (sub := .nil) hC.out HB9.out (Nat.le_refl _) trivial hown' hgrow hob)
                           clear hown' hgrow hob)
              go_roundg kk
              case measure => omega
              case rel => exact ⟨i + 1, V', _, rfl, by rw [TK.out, ← HGB.out]; rfl, by go_num, by omega, Lib.hid (by rw [← SN.out]; exact ST.out)⟩
            | true =>
              by_cases hx0 : x = []
              · have dx : decide (x = []) = true := decide_eq_true hx0
                have GX := Lib.hid (show goodW x = false by rw [hx0]; rfl)
                rw [dx] at q1 q2
                clear hx0 dx
                go_wp2_with (at_builtin; refine wpList_append_own_at _ rfl (.tmp 66) (.tmp 72) 22 rfl w8.heap.size 24 i0 _ 4 56 Tryz.underlying22 hi0 hz0 hz1 hz2 rfl (by decide) V (strV (l.take i)).len xs rfl (own_below C9.out.own ((Below.refl _ _).alloc (Nat.le_refl _) _)) ⟨w9.heap.size, 0, none⟩ 1 1 [.int .i64 2, .int .i64 0, .string bx, .slice none 0 0] rfl rfl ?d1 ?d2 ?d3 ?d4 ?d5 ?d6
                             case d1 => exact cell_four_new w9 _ rfl _ _ _ _ _
                             case d2 => intro u hu; simp at hu; rcases hu with rfl | rfl | rfl | rfl <;> rfl
                             case d3 => unfold maxLen; have := HHI.out; omega
                             case d4 => have := HHI.out; omega
                             case d5 => have := HHI.out; simp; omega
                             intro V' w10 hown' hgrow _ hob
                             have ST := Lib.hid (CInv.step (sub := .nil) hC.out HB9.out (Nat.le_refl _) trivial hown' hgrow hob)
                             have hcx10 := cell_below ST.out.below CX8.out
                             clear hown' hgrow hob hcx9)
                go_roundg kk
                case measure => omega
                case rel => exact ⟨i + 1, V', _, rfl, by rw [TK.out, ← HGB.out, GX.out]; rfl, by go_num, by omega, Lib.hid (by rw [← SN.out]; exact ST.out)⟩
              · have dx : decide (x = []) = false := decide_eq_false hx0
                have X0 := Lib.hid hx0
                rw [dx] at q1 q2
                clear hx0 dx
                go_wp2_with (at_builtin; refine wpList_append_own_at _ rfl (.tmp 66) (.tmp 72) 22 rfl w8.heap.size 24 i0 _ 4 56 Tryz.underlying22 hi0 hz0 hz1 hz2 rfl (by decide) V (strV (l.take i)).len xs rfl (own_below C9.out.own ((Below.refl _ _).alloc (Nat.le_refl _) _)) ⟨w9.heap.size, 0, none⟩ 1 1 [.int .i64 2, .int .i64 0, .string bx, .slice none 0 0] rfl rfl ?e1 ?e2 ?e3 ?e4 ?e5 ?e6
                             case e1 => exact cell_four_new w9 _ rfl _ _ _ _ _
                             case e2 => intro u hu; simp at hu; rcases hu with rfl | rfl | rfl | rfl <;> rfl
                             case e3 => unfold maxLen; have := HHI.out; omega
                             case e4 => have := HHI.out; omega
                             case e5 => have := HHI.out; simp; omega
                             intro V' w10 hown' hgrow _ hob
                             have ST := Lib.hid (CInv.step (sub := .nil) hC.out HB9.out (Nat.le_refl _) trivial hown' hgrow hob)
                             have hcx10 := cell_below ST.out.below CX8.out
                             clear hown' hgrow hob hcx9)
                refine (IXC.out _).mono ?_
                rintro e w11 ⟨r, rfl, hr, rfl⟩
                by_cases hr0 : r = 0
                · subst hr0
                  have GX := Lib.hid (goodW_pr X0.out (hr.1 rfl))
                  clear hr
                  go_wp2_with fail
                  refine (PRC.out _).mono ?_
                  rintro e w12 ⟨rfl, rfl⟩
                  go_wp2_with fail
                  go_roundg kk
                  case measure => omega
                  case rel => exact ⟨i + 1, V', _, rfl, by rw [TK.out, ← HGB.out, GX.out]; rfl, by go_num, by omega, Lib.hid (by rw [← SN.out]; exact ST.out)⟩
                · have hrb : (r == 0) = false := by simp [hr0]
                  have GX := Lib.hid (goodW_no (Classical.byContradiction fun h => hr0 (hr.2 h)))
                  clear hr
                  go_wp2_with fail
                  go_roundg kk
                  case measure => omega
                  case rel => exact ⟨i + 1, V', _, rfl, by rw [TK.out, ← HGB.out, GX.out]; rfl, by go_num, by omega, Lib.hid (by rw [← SN.out]; exact ST.out)⟩
          · have hiI : ¬ (i : Int) < (l.length : Int) := by omega
            have HBR := Lib.hid (HB8.out.trans (below_le' hC.out.below HB8.out.size))
            have hil : i = l.length := by omega
            have HGA := Lib.hid (show gb = l.all goodW by rw [HGB.out, hil, List.take_length])
            have hC2 := hC.out
            rw [show l.take i = l by rw [hil, List.take_length]] at hC2
            obtain ⟨sa2, sc2, hV, hsc2, hrp2⟩ := hC2.rep
            have HRP := Lib.hid (hrp2.wide (S' := fun b => b < wr.heap.size) (fun b hb => hb.2))
            have HSC := Lib.hid hsc2
            have hll := strV_len l
            rw [hll] at hV hsc2
            subst hV
            clear hC hC2 hrp2 hil hll HGB HSO HB8
            cases gb with
            | false => exact absurd (HGA.out.trans HGW.out) (by decide)
            | true =>
              have hall := List.all_eq_true.1 HGA.out.symm
              have hpr : ∀ x ∈ l, prB x = true := fun x hx => (goodW_ok (hall x hx)).1
              have hgd : ∀ x ∈ l, (32 : UInt8) ∉ x ∧ x ≠ [] := fun x hx => (goodW_ok (hall x hx)).2
              have hsum : sumW l ≤ 4000 := by
                have h1 := sumW_le l 20 HL20.out
                have h2 : l.length * (20 + 1) ≤ 12 * (20 + 1) := Nat.mul_le_mul_right _ hl12
                omega
              have hx4 : ∀ x ∈ l, x.length ≤ 4000 := fun x hx => by have := HL20.out x hx; omega
              have hcost : cost (strV l) ≤ 100000 := by rw [strV_cost]; omega
              have LCC := Lib.hid (fun W (hW : Below wr.heap.size wr W) => valL_c (strV l) sa2 sc2 W hcost HSC.out (HRP.out.keep (fun b hb => hW.block b hb) (fun b hb => by have := hW.size; omega)))
              rw [strV_len] at LCC
              have JC := Lib.hid (fun W hW g sb cb hg hcb hrb => JOI.out l W hW g sb cb hg hcb hrb hpr hsum (by omega) hx4)
              have WC := Lib.hid (fun W hW g sb cb hg hcb => WOR.out l W hW g sb cb hg hcb hpr hgd hsum (by omega) hx4)
              clear hall hpr hgd hsum hx4 hcost JOI WOR HGA
              go_wp2_with fail
              refine (LCC.out _ (Below.refl _ _)).mono ?_
              rintro e c1 ⟨sb, cb, rfl, hcb, hrb, hb1⟩
              have b1 : Below wr.heap.size wr c1 := hb1
              obtain ⟨c2, h2⟩ : ∃ c2, c2 = c1.alloc (.cells #[.int .i64 4, .int .i64 0, .string ⟨#[]⟩, .slice sb (strV l).len cb] 24) := ⟨_, rfl⟩
              have b12 : Below c1.heap.size c1 c2 := by rw [h2]; exact (Below.refl _ _).alloc (Nat.le_refl _) _
              have b2 : Below wr.heap.size wr c2 := b1.trans (below_le' b12 b1.size)
              have CJ := Lib.hid (JC.out c2 (HBR.out.trans (below_le' b2 HBR.out.size)) c1.heap.size sb cb (by rw [h2]; exact StB.new c1 _ _ _ _) hcb (hrb.keep (fun b hb => b12.block b hb.2) (fun b hb => by have := b12.size; omega)))
              have W2 := Lib.hid h2
              have B2 := Lib.hid b2
              clear h2 b12 b2 b1 hb1 hrb hcb JC
              go_wp2_with fail
              rw [← W2.out]
              refine CJ.out.mono ?_
              rintro e c3 ⟨sj, cj, rfl, hcj, hrj, hb3⟩
              have b3 := B2.out.trans (below_le' hb3 B2.out.size)
              obtain ⟨c4, h4⟩ : ∃ c4, c4 = c3.alloc (.cells #[.int .i64 2, .int .i64 0, .string ⟨(joinW l).toArray⟩, .slice sj VL.nil.len cj] 24) := ⟨_, rfl⟩
              have b4 : Below wr.heap.size wr c4 := by rw [h4]; exact b3.alloc b3.size _
              have g4 : StB c4 c3.heap.size (.int .i64 2) (.int .i64 0) (.string ⟨(joinW l).toArray⟩) (.slice sj VL.nil.len cj) := by rw [h4]; exact StB.new c3 _ _ _ _
              have v0 := g4.c0; have v1 := g4.c1; have v2 := g4.c2; have v3 := g4.c3
              obtain ⟨c5, h5⟩ : ∃ c5, c5 = c4.alloc (.cells #[.int .i64 2, .int .i64 0, .string ⟨(joinW l).toArray⟩, .slice sj VL.nil.len cj] 24) := ⟨_, rfl⟩
              have b5 : Below wr.heap.size wr c5 := by rw [h5]; exact b4.alloc b4.size _
              have CW := WC.out c5 (HBR.out.trans (below_le' b5 HBR.out.size)) c4.heap.size sj cj (by rw [h5]; exact StB.new c4 _ _ _ _) hcj
              rw [show c4.heap.size = c3.heap.size + 1 by rw [h4]; simp] at CW
              have CW := Lib.hid CW
              have W4 := Lib.hid h4
              have W5 := Lib.hid h5
              have B5 := Lib.hid b5
              clear b3 hb3 hrj hcj h4 h5 b4 b5 g4 CJ W2 B2 WC
              go_wp2_with fail
              rw [← W4.out, ← W5.out]
              refine CW.out.mono ?_
              rintro e c6 ⟨sw, cw, rfl, hcw, hrw, hb6⟩
              have b6 := B5.out.trans (below_le' hb6 B5.out.size)
              obtain ⟨c7, h7⟩ : ∃ c7, c7 = c6.alloc (.cells #[.int .i64 4, .int .i64 0, .string ⟨#[]⟩, .slice sw (strV l).len cw] 24) := ⟨_, rfl⟩
              have b67 : Below c6.heap.size c6 c7 := by rw [h7]; exact (Below.refl _ _).alloc (Nat.le_refl _) _
              have b7 : Below wr.heap.size wr c7 := b6.trans (below_le' b67 b6.size)
              have g7 : StB c7 c6.heap.size (.int .i64 4) (.int .i64 0) (.string ⟨#[]⟩) (.slice sw (strV l).len cw) := by rw [h7]; exact StB.new c6 _ _ _ _
              have hr7 := hrw.keep (w' := c7) (S' := fun b => b < c7.heap.size) (fun b hb => b67.block b hb.2) (fun b hb => by have := b67.size; omega)
              obtain ⟨S, hS⟩ : ∃ S : World → Prop, S = fun W => W.cell? ⟨c6.heap.size, 0, none⟩ = some (.int .i64 4) ∧ W.cell? ⟨c6.heap.size, 1, none⟩ = some (.int .i64 0) ∧ W.cell? ⟨c6.heap.size, 2, none⟩ = some (.string ⟨#[]⟩) ∧ W.cell? ⟨c6.heap.size, 3, none⟩ = some (.slice sw (strV l).len cw) ∧ Below c7.heap.size c7 W := ⟨_, rfl⟩
              have KS : ∀ W, Below c7.heap.size c7 W → S W := fun W hW => by
                rw [hS]
                exact ⟨cell_below hW g7.c0, cell_below hW g7.c1, cell_below hW g7.c2, cell_below hW g7.c3, hW⟩
              have BS : ∀ W, S W → Below c7.heap.size c7 W := fun W h => by rw [hS] at h; exact h.2.2.2.2
              have BA : ∀ W, S W → Below wa.heap.size wa W := fun W h => HBR.out.trans (below_le' (b7.trans (below_le' (BS W h) b7.size)) HBR.out.size)
              have L2 := Lib.hid (fun W (h : S W) => (LCC.out W (b7.trans (below_le' (BS W h) b7.size))).mono (R' := fun e W' => ∃ (sd : Option Addr) (cd : Nat), e = .returned (.agg #[.int .i64 4, .int .i64 0, .string ⟨#[]⟩, .slice sd (strV l).len cd]) ∧ (strV l).len ≤ cd ∧ RpL W' (fun b => b < W'.heap.size) (strV l) sd ∧ S W') fun e W' h' => by
                obtain ⟨sd, cd, he, hcd, hrd, hbd⟩ := h'
                exact ⟨sd, cd, he, hcd, hrd.wide (fun b hb => hb.2), KS _ ((BS W h).trans (below_le' hbd (BS W h).size))⟩)
              have VS := Lib.hid (fun W (sd : Option Addr) (cd : Nat) (h : S W) (hcd : (strV l).len ≤ cd) (hrd : RpL W (fun b => b < W.heap.size) (strV l) sd) =>
                (show Calls Tryz.prog 15 #[.agg #[.int .i64 4, .int .i64 0, .string ⟨#[]⟩, .slice sw (strV l).len cw], .agg #[.int .i64 4, .int .i64 0, .string ⟨#[]⟩, .slice sd (strV l).len cd]] W fun e W' => e = .returned (.bool true) ∧ S W' by
                  have hv := vsameS_c l sw sd cw cd W (by omega) (by rw [← strV_len]; exact hcw) (by rw [← strV_len]; exact hcd) (hr7.keep (fun b hb => (BS W h).block b hb) (fun b hb => by have := (BS W h).size; omega)) hrd
                  rw [← strV_len] at hv
                  exact hv.mono fun e W' h' => ⟨h'.1, KS _ ((BS W h).trans (below_le' h'.2 (BS W h).size))⟩))
              have K0 : S c7.drew := KS _ (Below.refl _ _).drew
              have BAA := Lib.hid BA
              have W7 := Lib.hid h7
              clear KS BS BA g7 hr7 b67 b7 b6 h7 hrw hcw hb6 v0 v1 v2 v3 CW W4 W5 B5 LCC
              subst hS
              go_wp2_with fail
              rw [← W7.out]
              go_cut [123] (fun v wx => v = .bool false ∧ Hid (Below wa.heap.size wa wx))
              case first =>
                go_region_held3 (fun W => W.cell? ⟨c6.heap.size, 0, none⟩ = some (.int .i64 4) ∧ W.cell? ⟨c6.heap.size, 1, none⟩ = some (.int .i64 0) ∧ W.cell? ⟨c6.heap.size, 2, none⟩ = some (.string ⟨#[]⟩) ∧ W.cell? ⟨c6.heap.size, 3, none⟩ = some (.slice sw (strV l).len cw) ∧ Below c7.heap.size c7 W)
                  (first | with_reducible assumption | with_reducible exact K0)
                  (first
                    | (go_at_call 13; refine (L2.out _ ?_).mono ?_; assumption; rintro e w' ⟨sd, cd, rfl, hcd, hrd, hs⟩)
                    | (go_at_call 15; refine (VS.out _ _ _ ?_ ?_ ?_).mono ?_; assumption; assumption; assumption; rintro e w' ⟨rfl, hs⟩))
                all_goals
                  go_wp2_with fail
                  go_meet
                  exact ⟨rfl, BAA.out _ (by assumption)⟩
              case rest =>
                obtain ⟨rfl, hbz⟩ := hcut
                have HBZ := Lib.hid hbz.out
                clear hbz L2 VS K0 BAA W7
                generalize hwz2 : wc = wz at HBZ ⊢
                clear hwz2
                go_wp2_with fail
                refine (VI.out _).mono ?_
                rintro e a1 ⟨rfl, h1⟩
                have b1 : Below wa.heap.size wa a1 := by rw [← h1]; exact HBZ.out.alloc HBZ.out.size _
                have B1 := Lib.hid b1
                clear h1 b1
                go_wp2_with fail
                refine (VX.out _).mono ?_
                rintro e a2 ⟨rfl, h2⟩
                have b2 : Below wa.heap.size wa a2 := by rw [← h2]; exact B1.out.alloc B1.out.size _
                obtain ⟨a3, h3⟩ : ∃ a3, a3 = a2.alloc (.cells #[.int .i64 0, .int .i64 n0, .string ⟨#[]⟩, .slice none 0 0, .int .i64 2, .int .i64 0, .string ⟨#[120]⟩, .slice none 0 0] 24) := ⟨_, rfl⟩
                have b3 : Below wa.heap.size wa a3 := by rw [h3]; exact b2.alloc b2.size _
                have C3 := Lib.hid (TOS.out a3 b3 a2.heap.size (by rw [h3]; simp) (by rw [h3]; exact heap_alloc_new a2 _))
                have W3 := Lib.hid h3
                have B3 := Lib.hid b3
                clear h2 b2 h3 b3 B1
                go_wp2_with fail
                rw [← W3.out]
                refine C3.out.mono ?_
                rintro e a4 ⟨sa4, sc4, rfl, hsc4, hr4, hb4⟩
                have B4 := Lib.hid (B3.out.trans (below_le' hb4 B3.out.size))
                obtain ⟨a5, h5⟩ : ∃ a5, a5 = a4.alloc (.cells #[.int .i64 2, .int .i64 0, .string (X ++ ⟨#[120]⟩), .slice sa4 VL.nil.len sc4] 24) := ⟨_, rfl⟩
                have b5 : Below wa.heap.size wa a5 := by rw [h5]; exact B4.out.alloc B4.out.size _
                have G5 := Lib.hid (show StB a5 a4.heap.size (.int .i64 2) (.int .i64 0) (.string (X ++ ⟨#[120]⟩)) (.slice sa4 VL.nil.len sc4) by rw [h5]; exact StB.new a4 _ _ _ _)
                have W5 := Lib.hid h5
                have B5 := Lib.hid b5
                clear hsc4 hr4 hb4 h5 b5 C3 B3 W3
                go_wp2_with fail
                rw [← W5.out]
                refine (VI.out _).mono ?_
                rintro e a6 ⟨rfl, h6⟩
                have b6 : Below a5.heap.size a5 a6 := by rw [← h6]; exact (Below.refl _ _).alloc (Nat.le_refl _) _
                have B6 := Lib.hid b6
                have D6 := Lib.hid (B5.out.trans (below_le' b6 B5.out.size))
                clear h6 b6 W5
                go_wp2_with fail
                refine (TNC.out _ D6.out).mono ?_
                rintro e a7 ⟨rfl, h7⟩
                have B7 := Lib.hid (B6.out.trans (below_le' h7 B6.out.size))
                clear h7 B6 D6
                go_wp2_with fail
                refine (VT.out _).mono ?_
                rintro e a8 ⟨rfl, h8⟩
                have b8 : Below a5.heap.size a5 a8 := by rw [← h8]; exact B7.out.alloc B7.out.size _
                obtain ⟨a9, h9⟩ : ∃ a9, a9 = a8.alloc (.cells #[.int .i64 2, .int .i64 0, .string X, .slice none 0 0] 24) := ⟨_, rfl⟩
                have b9 : Below a5.heap.size a5 a9 := by rw [h9]; exact b8.alloc b8.size _
                have C9 := Lib.hid (TOI.out a9 (B5.out.trans (below_le' b9 B5.out.size)) a8.heap.size (by rw [h9]; exact StB.new a8 _ _ _ _))
                have W9 := Lib.hid h9
                have B9 := Lib.hid b9
                clear h8 b8 h9 b9 B7
                go_wp2_with fail
                rw [← W9.out]
                refine C9.out.mono ?_
                rintro e a10 ⟨sa10, sc10, rfl, hsc10, hr10, hb10⟩
                have B10 := Lib.hid (B9.out.trans (below_le' hb10 B9.out.size))
                obtain ⟨a11, h11⟩ : ∃ a11, a11 = a10.alloc (.cells #[.int .i64 0, .int .i64 n0, .string ⟨#[]⟩, .slice sa10 VL.nil.len sc10] 24) := ⟨_, rfl⟩
                have b11 : Below a5.heap.size a5 a11 := by rw [h11]; exact B10.out.alloc B10.out.size _
                have G11 := Lib.hid (show StB a11 a10.heap.size (.int .i64 0) (.int .i64 n0) (.string ⟨#[]⟩) (.slice sa10 VL.nil.len sc10) by rw [h11]; exact StB.new a10 _ _ _ _)
                have W11 := Lib.hid h11
                have H11 := Lib.hid (G5.out.below' b11)
                have B11 := Lib.hid (B5.out.trans (below_le' b11 B5.out.size))
                clear hsc10 hr10 hb10 h11 b11 C9 B9 B10 W9 G5 B5
                go_wp2_with fail
                rw [← W11.out]
                refine (VI.out _).mono ?_
                rintro e a12 ⟨rfl, h12⟩
                have b12 : Below a11.heap.size a11 a12 := by rw [← h12]; exact (Below.refl _ _).alloc (Nat.le_refl _) _
                obtain ⟨a13, h13⟩ : ∃ a13, a13 = a12.alloc (.cells #[.int .i64 0, .int .i64 n0, .string ⟨#[]⟩, .slice none 0 0] 24) := ⟨_, rfl⟩
                have b13 : Below a11.heap.size a11 a13 := by rw [h13]; exact b12.alloc b12.size _
                have C13 := Lib.hid (ABS.out a13 (B11.out.trans (below_le' b13 B11.out.size)) a12.heap.size (by rw [h13]; exact StB.new a12 _ _ _ _))
                have W13 := Lib.hid h13
                have B13 := Lib.hid b13
                clear h12 b12 h13 b13 W11
                go_wp2_with fail
                rw [← W13.out]
                refine C13.out.mono ?_
                rintro e a14 ⟨sa14, sc14, rfl, hsc14, hr14, hb14⟩
                have B14 := Lib.hid (B13.out.trans (below_le' hb14 B13.out.size))
                obtain ⟨a15, h15⟩ : ∃ a15, a15 = a14.alloc (.cells #[.int .i64 0, .int .i64 (absP n0), .string ⟨#[]⟩, .slice sa14 VL.nil.len sc14] 24) := ⟨_, rfl⟩
                have b15 : Below a11.heap.size a11 a15 := by rw [h15]; exact B14.out.alloc B14.out.size _
                have G15 := Lib.hid (show StB a15 a14.heap.size (.int .i64 0) (.int .i64 (absP n0)) (.string ⟨#[]⟩) (.slice sa14 VL.nil.len sc14) by rw [h15]; exact StB.new a14 _ _ _ _)
                have W15 := Lib.hid h15
                have I11 := Lib.hid (G11.out.below' b15)
                have I5 := Lib.hid (H11.out.below' b15)
                have B15 := Lib.hid (B11.out.trans (below_le' b15 B11.out.size))
                clear hsc14 hr14 hb14 h15 b15 C13 B13 B14 W13 G11 H11 B11
                go_wp2_with fail
                rw [← W15.out]
                have hxs1 : (X ++ (⟨#[120]⟩ : ByteArray)).size = X.size + 1 := by rw [ByteArray.size_append]; rfl
                have hxx := str_eq (X ++ (⟨#[120]⟩ : ByteArray))
                have hxl : ¬ 9223372036854775807 < X.size + 1 := by omega
                clear W15
                by_cases hq : absP n0 = n0
                · rw [hq] at G15
                  have KS : Hid (∀ W, Below a15.heap.size a15 W → W.cell? ⟨a4.heap.size, 2, none⟩ = some (.string (X ++ ⟨#[120]⟩)) ∧ W.cell? ⟨a10.heap.size, 1, none⟩ = some (.int .i64 n0) ∧ W.cell? ⟨a14.heap.size, 1, none⟩ = some (.int .i64 n0) ∧ Below a15.heap.size a15 W) := Lib.hid (fun W hW =>
                    ⟨cell_below hW I5.out.c2, cell_below hW I11.out.c1, cell_below hW G15.out.c1, hW⟩)
                  refine wp_region_held_drew (S := (fun W => W.cell? ⟨a4.heap.size, 2, none⟩ = some (.string (X ++ ⟨#[120]⟩)) ∧ W.cell? ⟨a10.heap.size, 1, none⟩ = some (.int .i64 n0) ∧ W.cell? ⟨a14.heap.size, 1, none⟩ = some (.int .i64 n0) ∧ Below a15.heap.size a15 W)) (by kernel_rfl) (KS.out _ (Below.refl _ _).drew) (fun hHeld => ?_)
                  refine wpAnyH_take (i := 0) (oi := _) (v := (.int .i64 0)) rfl (by kernel_rfl) (by kernel_rfl) (by kernel_rfl) (fun _ _ _ h => h) (Or.inl ⟨by rfl, fun W hSw => ?_⟩) (by with_reducible assumption) ?_
                  · (try dsimp only at hSw); go_simp
                  change wpAnyH _ _ _ _ _ _ _ (Act.put _ (some 148) _) _
                  simp only [Act.put, List.setIfInBounds_toArray, List.set_cons_zero, List.set_cons_succ]
                  refine wpAnyH_take (i := 1) (oi := _) (v := (.bool true)) rfl (by kernel_rfl) (by kernel_rfl) (by kernel_rfl) (fun _ _ _ h => h) (Or.inl ⟨by rfl, fun W hSw => ?_⟩) (by with_reducible assumption) ?_
                  · (try dsimp only at hSw); go_simp
                  change wpAnyH _ _ _ _ _ _ _ (Act.put _ (some 149) _) _
                  simp only [Act.put, List.setIfInBounds_toArray, List.set_cons_zero, List.set_cons_succ]
                  refine wpAnyH_take (i := 2) (oi := _) (v := (.bool true)) rfl (by kernel_rfl) (by kernel_rfl) (by kernel_rfl) (fun _ _ _ h => h) (Or.inl ⟨by rfl, fun W hSw => ?_⟩) (by with_reducible assumption) ?_
                  · (try dsimp only at hSw); go_simp
                  change wpAnyH _ _ _ _ _ _ _ (Act.put _ (some 150) _) _
                  simp only [Act.put, List.setIfInBounds_toArray, List.set_cons_zero, List.set_cons_succ]
                  refine wpAnyH_take (i := 3) (oi := _) (v := (.pointer (some ⟨a4.heap.size, 2, none⟩))) rfl (by kernel_rfl) (by kernel_rfl) (by kernel_rfl) (fun _ _ _ h => h) (Or.inl ⟨by rfl, fun W hSw => ?_⟩) (by with_reducible assumption) ?_
                  · (try dsimp only at hSw); go_simp
                  change wpAnyH _ _ _ _ _ _ _ (Act.put _ (some 151) _) _
                  simp only [Act.put, List.setIfInBounds_toArray, List.set_cons_zero, List.set_cons_succ]
                  refine wpAnyH_take (i := 4) (oi := _) (v := (.string (X ++ ⟨#[120]⟩))) rfl (by kernel_rfl) (by kernel_rfl) (by kernel_rfl) (fun _ _ _ h => h) (Or.inl ⟨by rfl, fun W hSw => ?_⟩) (by with_reducible assumption) ?_
                  · (try dsimp only at hSw); go_simp
                  change wpAnyH _ _ _ _ _ _ _ (Act.put _ (some 152) _) _
                  simp only [Act.put, List.setIfInBounds_toArray, List.set_cons_zero, List.set_cons_succ]
                  refine wpAnyH_take (i := 5) (oi := _) (v := (.int .i64 n0)) rfl (by kernel_rfl) (by kernel_rfl) (by kernel_rfl) (fun _ _ _ h => h) (Or.inl ⟨by rfl, fun W hSw => ?_⟩) (by with_reducible assumption) ?_
                  · (try dsimp only at hSw); go_simp
                  change wpAnyH _ _ _ _ _ _ _ (Act.put _ (some 153) _) _
                  simp only [Act.put, List.setIfInBounds_toArray, List.set_cons_zero, List.set_cons_succ]
                  refine wpAnyH_ready (rs := [6]) (by kernel_rfl) (by simp) ?_
                  refine AllReadyH.cons (o := _) rfl (fun K hK => ?_) AllReadyH.nil
                  go_simp
                  refine (VI.out _).mono ?_
                  rintro e a16 ⟨rfl, h16⟩
                  have b16 := hHeld.2.2.2.trans (below_le' (show Below _ _ a16 by rw [← h16]; exact (Below.refl _ _).alloc (Nat.le_refl _) _) hHeld.2.2.2.size)
                  have hs16 := KS.out a16 b16
                  clear h16 hHeld
                  refine hK.out _ _ hs16 (fun hHeld => ?_)
                  clear hK K
                  refine wpAnyH_ready (rs := [7]) (by kernel_rfl) (by simp) ?_
                  refine AllReadyH.cons (o := _) rfl (fun K hK => ?_) AllReadyH.nil
                  go_simp
                  refine (TNC.out _ (B15.out.trans (below_le' b16 B15.out.size))).mono ?_
                  rintro e a17 ⟨rfl, h17⟩
                  have b17 := b16.trans (below_le' h17 b16.size)
                  have hs17 := KS.out a17 b17
                  clear h17 hHeld
                  refine hK.out _ _ hs17 (fun hHeld => ?_)
                  clear hK K
                  refine wpAnyH_take (i := 8) (oi := _) (v := (.string (X ++ ⟨#[120]⟩))) rfl (by kernel_rfl) (by kernel_rfl) (by kernel_rfl) (fun _ _ _ h => h) (Or.inl ⟨by rfl, fun W hSw => ?_⟩) (by with_reducible assumption) ?_
                  · (try dsimp only at hSw); go_simp
                  change wpAnyH _ _ _ _ _ _ _ (Act.put _ (some 156) _) _
                  simp only [Act.put, List.setIfInBounds_toArray, List.set_cons_zero, List.set_cons_succ]
                  refine wpAnyH_take (i := 9) (oi := _) (v := (.bool true)) rfl (by kernel_rfl) (by kernel_rfl) (by kernel_rfl) (fun _ _ _ h => h) (Or.inl ⟨by rfl, fun W hSw => ?_⟩) (by with_reducible assumption) ?_
                  · (try dsimp only at hSw); go_simp
                  change wpAnyH _ _ _ _ _ _ _ (Act.put _ (some 157) _) _
                  simp only [Act.put, List.setIfInBounds_toArray, List.set_cons_zero, List.set_cons_succ]
                  refine wpAnyH_take (i := 10) (oi := _) (v := (.bool true)) rfl (by kernel_rfl) (by kernel_rfl) (by kernel_rfl) (fun _ _ _ h => h) (Or.inl ⟨by rfl, fun W hSw => ?_⟩) (by with_reducible assumption) ?_
                  · (try dsimp only at hSw); go_simp
                  change wpAnyH _ _ _ _ _ _ _ (Act.put _ (some 158) _) _
                  simp only [Act.put, List.setIfInBounds_toArray, List.set_cons_zero, List.set_cons_succ]
                  refine wpAnyH_take (i := 11) (oi := _) (v := (.bool true)) rfl (by kernel_rfl) (by kernel_rfl) (by kernel_rfl) (fun _ _ _ h => h) (Or.inl ⟨by rfl, fun W hSw => ?_⟩) (by with_reducible assumption) ?_
                  · (try dsimp only at hSw); go_simp
                  change wpAnyH _ _ _ _ _ _ _ (Act.put _ (some 159) _) _
                  simp only [Act.put, List.setIfInBounds_toArray, List.set_cons_zero, List.set_cons_succ]
                  refine wpAnyH_take (i := 12) (oi := _) (v := (.int .i64 0)) rfl (by kernel_rfl) (by kernel_rfl) (by kernel_rfl) (fun _ _ _ h => h) (Or.inl ⟨by rfl, fun W hSw => ?_⟩) (by with_reducible assumption) ?_
                  · (try dsimp only at hSw); go_simp
                  change wpAnyH _ _ _ _ _ _ _ (Act.put _ (some 160) _) _
                  simp only [Act.put, List.setIfInBounds_toArray, List.set_cons_zero, List.set_cons_succ]
                  refine wpAnyH_take (i := 13) (oi := _) (v := (.bool true)) rfl (by kernel_rfl) (by kernel_rfl) (by kernel_rfl) (fun _ _ _ h => h) (Or.inl ⟨by rfl, fun W hSw => ?_⟩) (by with_reducible assumption) ?_
                  · (try dsimp only at hSw); go_simp
                  change wpAnyH _ _ _ _ _ _ _ (Act.put _ (some 161) _) _
                  simp only [Act.put, List.setIfInBounds_toArray, List.set_cons_zero, List.set_cons_succ]
                  refine wpAnyH_take (i := 14) (oi := _) (v := (.bool true)) rfl (by kernel_rfl) (by kernel_rfl) (by kernel_rfl) (fun _ _ _ h => h) (Or.inl ⟨by rfl, fun W hSw => ?_⟩) (by with_reducible assumption) ?_
                  · (try dsimp only at hSw); go_simp
                  change wpAnyH _ _ _ _ _ _ _ (Act.put _ (some 162) _) _
                  simp only [Act.put, List.setIfInBounds_toArray, List.set_cons_zero, List.set_cons_succ]
                  refine wpAnyH_take (i := 15) (oi := _) (v := (.bool true)) rfl (by kernel_rfl) (by kernel_rfl) (by kernel_rfl) (fun _ _ _ h => h) (Or.inl ⟨by rfl, fun W hSw => ?_⟩) (by with_reducible assumption) ?_
                  · (try dsimp only at hSw); go_simp
                  change wpAnyH _ _ _ _ _ _ _ (Act.put _ (some 163) _) _
                  simp only [Act.put, List.setIfInBounds_toArray, List.set_cons_zero, List.set_cons_succ]
                  refine wpAnyH_take (i := 16) (oi := _) (v := (.pointer (some ⟨a10.heap.size, 1, none⟩))) rfl (by kernel_rfl) (by kernel_rfl) (by kernel_rfl) (fun _ _ _ h => h) (Or.inl ⟨by rfl, fun W hSw => ?_⟩) (by with_reducible assumption) ?_
                  · (try dsimp only at hSw); go_simp
                  change wpAnyH _ _ _ _ _ _ _ (Act.put _ (some 164) _) _
                  simp only [Act.put, List.setIfInBounds_toArray, List.set_cons_zero, List.set_cons_succ]
                  refine wpAnyH_take (i := 17) (oi := _) (v := (.int .i64 n0)) rfl (by kernel_rfl) (by kernel_rfl) (by kernel_rfl) (fun _ _ _ h => h) (Or.inl ⟨by rfl, fun W hSw => ?_⟩) (by with_reducible assumption) ?_
                  · (try dsimp only at hSw); go_simp
                  change wpAnyH _ _ _ _ _ _ _ (Act.put _ (some 165) _) _
                  simp only [Act.put, List.setIfInBounds_toArray, List.set_cons_zero, List.set_cons_succ]
                  refine wpAnyH_take (i := 18) (oi := _) (v := (.int .i64 n0)) rfl (by kernel_rfl) (by kernel_rfl) (by kernel_rfl) (fun _ _ _ h => h) (Or.inl ⟨by rfl, fun W hSw => ?_⟩) (by with_reducible assumption) ?_
                  · (try dsimp only at hSw); go_simp
                  change wpAnyH _ _ _ _ _ _ _ (Act.put _ (some 166) _) _
                  simp only [Act.put, List.setIfInBounds_toArray, List.set_cons_zero, List.set_cons_succ]
                  refine wpAnyH_take (i := 19) (oi := _) (v := (.bool true)) rfl (by kernel_rfl) (by kernel_rfl) (by kernel_rfl) (fun _ _ _ h => h) (Or.inl ⟨by rfl, fun W hSw => ?_⟩) (by with_reducible assumption) ?_
                  · (try dsimp only at hSw); go_simp
                  change wpAnyH _ _ _ _ _ _ _ (Act.put _ (some 167) _) _
                  simp only [Act.put, List.setIfInBounds_toArray, List.set_cons_zero, List.set_cons_succ]
                  refine wpAnyH_take (i := 20) (oi := _) (v := (.bool true)) rfl (by kernel_rfl) (by kernel_rfl) (by kernel_rfl) (fun _ _ _ h => h) (Or.inl ⟨by rfl, fun W hSw => ?_⟩) (by with_reducible assumption) ?_
                  · (try dsimp only at hSw); go_simp
                  change wpAnyH _ _ _ _ _ _ _ (Act.put _ (some 168) _) _
                  simp only [Act.put, List.setIfInBounds_toArray, List.set_cons_zero, List.set_cons_succ]
                  refine wpAnyH_take (i := 21) (oi := _) (v := (.bool true)) rfl (by kernel_rfl) (by kernel_rfl) (by kernel_rfl) (fun _ _ _ h => h) (Or.inl ⟨by rfl, fun W hSw => ?_⟩) (by with_reducible assumption) ?_
                  · (try dsimp only at hSw); go_simp
                  change wpAnyH _ _ _ _ _ _ _ (Act.put _ (some 169) _) _
                  simp only [Act.put, List.setIfInBounds_toArray, List.set_cons_zero, List.set_cons_succ]
                  refine wpAnyH_take (i := 22) (oi := _) (v := (.int .i64 0)) rfl (by kernel_rfl) (by kernel_rfl) (by kernel_rfl) (fun _ _ _ h => h) (Or.inl ⟨by rfl, fun W hSw => ?_⟩) (by with_reducible assumption) ?_
                  · (try dsimp only at hSw); go_simp
                  change wpAnyH _ _ _ _ _ _ _ (Act.put _ (some 170) _) _
                  simp only [Act.put, List.setIfInBounds_toArray, List.set_cons_zero, List.set_cons_succ]
                  refine wpAnyH_take (i := 23) (oi := _) (v := (.bool true)) rfl (by kernel_rfl) (by kernel_rfl) (by kernel_rfl) (fun _ _ _ h => h) (Or.inl ⟨by rfl, fun W hSw => ?_⟩) (by with_reducible assumption) ?_
                  · (try dsimp only at hSw); go_simp
                  change wpAnyH _ _ _ _ _ _ _ (Act.put _ (some 171) _) _
                  simp only [Act.put, List.setIfInBounds_toArray, List.set_cons_zero, List.set_cons_succ]
                  refine wpAnyH_take (i := 24) (oi := _) (v := (.bool true)) rfl (by kernel_rfl) (by kernel_rfl) (by kernel_rfl) (fun _ _ _ h => h) (Or.inl ⟨by rfl, fun W hSw => ?_⟩) (by with_reducible assumption) ?_
                  · (try dsimp only at hSw); go_simp
                  change wpAnyH _ _ _ _ _ _ _ (Act.put _ (some 172) _) _
                  simp only [Act.put, List.setIfInBounds_toArray, List.set_cons_zero, List.set_cons_succ]
                  refine wpAnyH_take (i := 25) (oi := _) (v := (.bool true)) rfl (by kernel_rfl) (by kernel_rfl) (by kernel_rfl) (fun _ _ _ h => h) (Or.inl ⟨by rfl, fun W hSw => ?_⟩) (by with_reducible assumption) ?_
                  · (try dsimp only at hSw); go_simp
                  change wpAnyH _ _ _ _ _ _ _ (Act.put _ (some 173) _) _
                  simp only [Act.put, List.setIfInBounds_toArray, List.set_cons_zero, List.set_cons_succ]
                  refine wpAnyH_take (i := 26) (oi := _) (v := (.pointer (some ⟨a14.heap.size, 1, none⟩))) rfl (by kernel_rfl) (by kernel_rfl) (by kernel_rfl) (fun _ _ _ h => h) (Or.inl ⟨by rfl, fun W hSw => ?_⟩) (by with_reducible assumption) ?_
                  · (try dsimp only at hSw); go_simp
                  change wpAnyH _ _ _ _ _ _ _ (Act.put _ (some 174) _) _
                  simp only [Act.put, List.setIfInBounds_toArray, List.set_cons_zero, List.set_cons_succ]
                  refine wpAnyH_take (i := 27) (oi := _) (v := (.int .i64 n0)) rfl (by kernel_rfl) (by kernel_rfl) (by kernel_rfl) (fun _ _ _ h => h) (Or.inl ⟨by rfl, fun W hSw => ?_⟩) (by with_reducible assumption) ?_
                  · (try dsimp only at hSw); go_simp
                  change wpAnyH _ _ _ _ _ _ _ (Act.put _ (some 175) _) _
                  simp only [Act.put, List.setIfInBounds_toArray, List.set_cons_zero, List.set_cons_succ]
                  refine wpAnyH_take (i := 28) (oi := _) (v := (.int .i64 n0)) rfl (by kernel_rfl) (by kernel_rfl) (by kernel_rfl) (fun _ _ _ h => h) (Or.inl ⟨by rfl, fun W hSw => ?_⟩) (by with_reducible assumption) ?_
                  · (try dsimp only at hSw); go_simp
                  change wpAnyH _ _ _ _ _ _ _ (Act.put _ (some 176) _) _
                  simp only [Act.put, List.setIfInBounds_toArray, List.set_cons_zero, List.set_cons_succ]
                  refine wpAnyH_take (i := 29) (oi := _) (v := (.bool true)) rfl (by kernel_rfl) (by kernel_rfl) (by kernel_rfl) (fun _ _ _ h => h) (Or.inl ⟨by rfl, fun W hSw => ?_⟩) (by with_reducible assumption) ?_
                  · (try dsimp only at hSw); go_simp
                  change wpAnyH _ _ _ _ _ _ _ (Act.put _ (some 177) _) _
                  simp only [Act.put, List.setIfInBounds_toArray, List.set_cons_zero, List.set_cons_succ]
                  refine wpAnyH_take (i := 30) (oi := _) (v := (.bool true)) rfl (by kernel_rfl) (by kernel_rfl) (by kernel_rfl) (fun _ _ _ h => h) (Or.inl ⟨by rfl, fun W hSw => ?_⟩) (by with_reducible assumption) ?_
                  · (try dsimp only at hSw); go_simp
                  change wpAnyH _ _ _ _ _ _ _ (Act.put _ (some 178) _) _
                  simp only [Act.put, List.setIfInBounds_toArray, List.set_cons_zero, List.set_cons_succ]
                  refine wpAnyH_take (i := 31) (oi := _) (v := undef) rfl (by kernel_rfl) (by kernel_rfl) (by kernel_rfl) (fun _ _ _ h => h) (Or.inr ⟨by rfl, rfl⟩) (by with_reducible assumption) ?_
                  change wpAnyH _ _ _ _ _ _ _ (Act.put _ (some 179) _) _
                  simp only [Act.put, List.setIfInBounds_toArray, List.set_cons_zero, List.set_cons_succ]
                  refine wpAnyH_take (i := 32) (oi := _) (v := undef) rfl (by kernel_rfl) (by kernel_rfl) (by kernel_rfl) (fun _ _ _ h => h) (Or.inr ⟨by rfl, rfl⟩) (by with_reducible assumption) ?_
                  change wpAnyH _ _ _ _ _ _ _ (Act.put _ (some 180) _) _
                  simp only [Act.put, List.setIfInBounds_toArray, List.set_cons_zero, List.set_cons_succ]
                  refine wpAnyH_take (i := 33) (oi := _) (v := undef) rfl (by kernel_rfl) (by kernel_rfl) (by kernel_rfl) (fun _ _ _ h => h) (Or.inr ⟨by rfl, rfl⟩) (by with_reducible assumption) ?_
                  change wpAnyH _ _ _ _ _ _ _ (Act.put _ (some 181) _) _
                  simp only [Act.put, List.setIfInBounds_toArray, List.set_cons_zero, List.set_cons_succ]
                  refine wpAnyH_take (i := 34) (oi := _) (v := undef) rfl (by kernel_rfl) (by kernel_rfl) (by kernel_rfl) (fun _ _ _ h => h) (Or.inr ⟨by rfl, rfl⟩) (by with_reducible assumption) ?_
                  change wpAnyH _ _ _ _ _ _ _ (Act.put _ (some 182) _) _
                  simp only [Act.put, List.setIfInBounds_toArray, List.set_cons_zero, List.set_cons_succ]
                  refine wpAnyH_take (i := 35) (oi := _) (v := undef) rfl (by kernel_rfl) (by kernel_rfl) (by kernel_rfl) (fun _ _ _ h => h) (Or.inr ⟨by rfl, rfl⟩) (by with_reducible assumption) ?_
                  change wpAnyH _ _ _ _ _ _ _ (Act.put _ (some 183) _) _
                  simp only [Act.put, List.setIfInBounds_toArray, List.set_cons_zero, List.set_cons_succ]
                  refine wpAnyH_take (i := 36) (oi := _) (v := (.bool true)) rfl (by kernel_rfl) (by kernel_rfl) (by kernel_rfl) (fun _ _ _ h => h) (Or.inl ⟨by rfl, fun W hSw => ?_⟩) (by with_reducible assumption) ?_
                  · (try dsimp only at hSw); go_simp
                  change wpAnyH _ _ _ _ _ _ _ (Act.put _ (some 184) _) _
                  simp only [Act.put, List.setIfInBounds_toArray, List.set_cons_zero, List.set_cons_succ]
                  refine wpAnyH_take (i := 37) (oi := _) (v := (.bool true)) rfl (by kernel_rfl) (by kernel_rfl) (by kernel_rfl) (fun _ _ _ h => h) (Or.inl ⟨by rfl, fun W hSw => ?_⟩) (by with_reducible assumption) ?_
                  · (try dsimp only at hSw); go_simp
                  change wpAnyH _ _ _ _ _ _ _ (Act.put _ (some 185) _) _
                  simp only [Act.put, List.setIfInBounds_toArray, List.set_cons_zero, List.set_cons_succ]
                  refine wpAnyH_take (i := 38) (oi := _) (v := (.bool true)) rfl (by kernel_rfl) (by kernel_rfl) (by kernel_rfl) (fun _ _ _ h => h) (Or.inl ⟨by rfl, fun W hSw => ?_⟩) (by with_reducible assumption) ?_
                  · (try dsimp only at hSw); go_simp
                  change wpAnyH _ _ _ _ _ _ _ (Act.put _ (some 6) _) _
                  simp only [Act.put, List.setIfInBounds_toArray, List.set_cons_zero, List.set_cons_succ]
                  refine wpAnyH_done (by kernel_rfl) ?_ _
                  go_wp2_with fail
                  go_ret
                  exact ⟨rfl, HW.out _ (B15.out.trans (below_le' b17 B15.out.size))⟩
                · have hqn := (absP_or n0).resolve_left hq
                  rw [hqn] at hq G15
                  have KS : Hid (∀ W, Below a15.heap.size a15 W → W.cell? ⟨a4.heap.size, 2, none⟩ = some (.string (X ++ ⟨#[120]⟩)) ∧ W.cell? ⟨a10.heap.size, 1, none⟩ = some (.int .i64 n0) ∧ W.cell? ⟨a14.heap.size, 1, none⟩ = some (.int .i64 (IntKind.i64.wrap (-n0))) ∧ Below a15.heap.size a15 W) := Lib.hid (fun W hW =>
                    ⟨cell_below hW I5.out.c2, cell_below hW I11.out.c1, cell_below hW G15.out.c1, hW⟩)
                  refine wp_region_held_drew (S := (fun W => W.cell? ⟨a4.heap.size, 2, none⟩ = some (.string (X ++ ⟨#[120]⟩)) ∧ W.cell? ⟨a10.heap.size, 1, none⟩ = some (.int .i64 n0) ∧ W.cell? ⟨a14.heap.size, 1, none⟩ = some (.int .i64 (IntKind.i64.wrap (-n0))) ∧ Below a15.heap.size a15 W)) (by kernel_rfl) (KS.out _ (Below.refl _ _).drew) (fun hHeld => ?_)
                  refine wpAnyH_take (i := 0) (oi := _) (v := (.int .i64 0)) rfl (by kernel_rfl) (by kernel_rfl) (by kernel_rfl) (fun _ _ _ h => h) (Or.inl ⟨by rfl, fun W hSw => ?_⟩) (by with_reducible assumption) ?_
                  · (try dsimp only at hSw); go_simp
                  change wpAnyH _ _ _ _ _ _ _ (Act.put _ (some 148) _) _
                  simp only [Act.put, List.setIfInBounds_toArray, List.set_cons_zero, List.set_cons_succ]
                  refine wpAnyH_take (i := 1) (oi := _) (v := (.bool true)) rfl (by kernel_rfl) (by kernel_rfl) (by kernel_rfl) (fun _ _ _ h => h) (Or.inl ⟨by rfl, fun W hSw => ?_⟩) (by with_reducible assumption) ?_
                  · (try dsimp only at hSw); go_simp
                  change wpAnyH _ _ _ _ _ _ _ (Act.put _ (some 149) _) _
                  simp only [Act.put, List.setIfInBounds_toArray, List.set_cons_zero, List.set_cons_succ]
                  refine wpAnyH_take (i := 2) (oi := _) (v := (.bool true)) rfl (by kernel_rfl) (by kernel_rfl) (by kernel_rfl) (fun _ _ _ h => h) (Or.inl ⟨by rfl, fun W hSw => ?_⟩) (by with_reducible assumption) ?_
                  · (try dsimp only at hSw); go_simp
                  change wpAnyH _ _ _ _ _ _ _ (Act.put _ (some 150) _) _
                  simp only [Act.put, List.setIfInBounds_toArray, List.set_cons_zero, List.set_cons_succ]
                  refine wpAnyH_take (i := 3) (oi := _) (v := (.pointer (some ⟨a4.heap.size, 2, none⟩))) rfl (by kernel_rfl) (by kernel_rfl) (by kernel_rfl) (fun _ _ _ h => h) (Or.inl ⟨by rfl, fun W hSw => ?_⟩) (by with_reducible assumption) ?_
                  · (try dsimp only at hSw); go_simp
                  change wpAnyH _ _ _ _ _ _ _ (Act.put _ (some 151) _) _
                  simp only [Act.put, List.setIfInBounds_toArray, List.set_cons_zero, List.set_cons_succ]
                  refine wpAnyH_take (i := 4) (oi := _) (v := (.string (X ++ ⟨#[120]⟩))) rfl (by kernel_rfl) (by kernel_rfl) (by kernel_rfl) (fun _ _ _ h => h) (Or.inl ⟨by rfl, fun W hSw => ?_⟩) (by with_reducible assumption) ?_
                  · (try dsimp only at hSw); go_simp
                  change wpAnyH _ _ _ _ _ _ _ (Act.put _ (some 152) _) _
                  simp only [Act.put, List.setIfInBounds_toArray, List.set_cons_zero, List.set_cons_succ]
                  refine wpAnyH_take (i := 5) (oi := _) (v := (.int .i64 n0)) rfl (by kernel_rfl) (by kernel_rfl) (by kernel_rfl) (fun _ _ _ h => h) (Or.inl ⟨by rfl, fun W hSw => ?_⟩) (by with_reducible assumption) ?_
                  · (try dsimp only at hSw); go_simp
                  change wpAnyH _ _ _ _ _ _ _ (Act.put _ (some 153) _) _
                  simp only [Act.put, List.setIfInBounds_toArray, List.set_cons_zero, List.set_cons_succ]
                  refine wpAnyH_ready (rs := [6]) (by kernel_rfl) (by simp) ?_
                  refine AllReadyH.cons (o := _) rfl (fun K hK => ?_) AllReadyH.nil
                  go_simp
                  refine (VI.out _).mono ?_
                  rintro e a16 ⟨rfl, h16⟩
                  have b16 := hHeld.2.2.2.trans (below_le' (show Below _ _ a16 by rw [← h16]; exact (Below.refl _ _).alloc (Nat.le_refl _) _) hHeld.2.2.2.size)
                  have hs16 := KS.out a16 b16
                  clear h16 hHeld
                  refine hK.out _ _ hs16 (fun hHeld => ?_)
                  clear hK K
                  refine wpAnyH_ready (rs := [7]) (by kernel_rfl) (by simp) ?_
                  refine AllReadyH.cons (o := _) rfl (fun K hK => ?_) AllReadyH.nil
                  go_simp
                  refine (TNC.out _ (B15.out.trans (below_le' b16 B15.out.size))).mono ?_
                  rintro e a17 ⟨rfl, h17⟩
                  have b17 := b16.trans (below_le' h17 b16.size)
                  have hs17 := KS.out a17 b17
                  clear h17 hHeld
                  refine hK.out _ _ hs17 (fun hHeld => ?_)
                  clear hK K
                  refine wpAnyH_take (i := 8) (oi := _) (v := (.string (X ++ ⟨#[120]⟩))) rfl (by kernel_rfl) (by kernel_rfl) (by kernel_rfl) (fun _ _ _ h => h) (Or.inl ⟨by rfl, fun W hSw => ?_⟩) (by with_reducible assumption) ?_
                  · (try dsimp only at hSw); go_simp
                  change wpAnyH _ _ _ _ _ _ _ (Act.put _ (some 156) _) _
                  simp only [Act.put, List.setIfInBounds_toArray, List.set_cons_zero, List.set_cons_succ]
                  refine wpAnyH_take (i := 9) (oi := _) (v := (.bool true)) rfl (by kernel_rfl) (by kernel_rfl) (by kernel_rfl) (fun _ _ _ h => h) (Or.inl ⟨by rfl, fun W hSw => ?_⟩) (by with_reducible assumption) ?_
                  · (try dsimp only at hSw); go_simp
                  change wpAnyH _ _ _ _ _ _ _ (Act.put _ (some 157) _) _
                  simp only [Act.put, List.setIfInBounds_toArray, List.set_cons_zero, List.set_cons_succ]
                  refine wpAnyH_take (i := 10) (oi := _) (v := (.bool true)) rfl (by kernel_rfl) (by kernel_rfl) (by kernel_rfl) (fun _ _ _ h => h) (Or.inl ⟨by rfl, fun W hSw => ?_⟩) (by with_reducible assumption) ?_
                  · (try dsimp only at hSw); go_simp
                  change wpAnyH _ _ _ _ _ _ _ (Act.put _ (some 158) _) _
                  simp only [Act.put, List.setIfInBounds_toArray, List.set_cons_zero, List.set_cons_succ]
                  refine wpAnyH_take (i := 11) (oi := _) (v := (.bool true)) rfl (by kernel_rfl) (by kernel_rfl) (by kernel_rfl) (fun _ _ _ h => h) (Or.inl ⟨by rfl, fun W hSw => ?_⟩) (by with_reducible assumption) ?_
                  · (try dsimp only at hSw); go_simp
                  change wpAnyH _ _ _ _ _ _ _ (Act.put _ (some 159) _) _
                  simp only [Act.put, List.setIfInBounds_toArray, List.set_cons_zero, List.set_cons_succ]
                  refine wpAnyH_take (i := 12) (oi := _) (v := (.int .i64 0)) rfl (by kernel_rfl) (by kernel_rfl) (by kernel_rfl) (fun _ _ _ h => h) (Or.inl ⟨by rfl, fun W hSw => ?_⟩) (by with_reducible assumption) ?_
                  · (try dsimp only at hSw); go_simp
                  change wpAnyH _ _ _ _ _ _ _ (Act.put _ (some 160) _) _
                  simp only [Act.put, List.setIfInBounds_toArray, List.set_cons_zero, List.set_cons_succ]
                  refine wpAnyH_take (i := 13) (oi := _) (v := (.bool true)) rfl (by kernel_rfl) (by kernel_rfl) (by kernel_rfl) (fun _ _ _ h => h) (Or.inl ⟨by rfl, fun W hSw => ?_⟩) (by with_reducible assumption) ?_
                  · (try dsimp only at hSw); go_simp
                  change wpAnyH _ _ _ _ _ _ _ (Act.put _ (some 161) _) _
                  simp only [Act.put, List.setIfInBounds_toArray, List.set_cons_zero, List.set_cons_succ]
                  refine wpAnyH_take (i := 14) (oi := _) (v := (.bool true)) rfl (by kernel_rfl) (by kernel_rfl) (by kernel_rfl) (fun _ _ _ h => h) (Or.inl ⟨by rfl, fun W hSw => ?_⟩) (by with_reducible assumption) ?_
                  · (try dsimp only at hSw); go_simp
                  change wpAnyH _ _ _ _ _ _ _ (Act.put _ (some 162) _) _
                  simp only [Act.put, List.setIfInBounds_toArray, List.set_cons_zero, List.set_cons_succ]
                  refine wpAnyH_take (i := 15) (oi := _) (v := (.bool true)) rfl (by kernel_rfl) (by kernel_rfl) (by kernel_rfl) (fun _ _ _ h => h) (Or.inl ⟨by rfl, fun W hSw => ?_⟩) (by with_reducible assumption) ?_
                  · (try dsimp only at hSw); go_simp
                  change wpAnyH _ _ _ _ _ _ _ (Act.put _ (some 163) _) _
                  simp only [Act.put, List.setIfInBounds_toArray, List.set_cons_zero, List.set_cons_succ]
                  refine wpAnyH_take (i := 16) (oi := _) (v := (.pointer (some ⟨a10.heap.size, 1, none⟩))) rfl (by kernel_rfl) (by kernel_rfl) (by kernel_rfl) (fun _ _ _ h => h) (Or.inl ⟨by rfl, fun W hSw => ?_⟩) (by with_reducible assumption) ?_
                  · (try dsimp only at hSw); go_simp
                  change wpAnyH _ _ _ _ _ _ _ (Act.put _ (some 164) _) _
                  simp only [Act.put, List.setIfInBounds_toArray, List.set_cons_zero, List.set_cons_succ]
                  refine wpAnyH_take (i := 17) (oi := _) (v := (.int .i64 n0)) rfl (by kernel_rfl) (by kernel_rfl) (by kernel_rfl) (fun _ _ _ h => h) (Or.inl ⟨by rfl, fun W hSw => ?_⟩) (by with_reducible assumption) ?_
                  · (try dsimp only at hSw); go_simp
                  change wpAnyH _ _ _ _ _ _ _ (Act.put _ (some 165) _) _
                  simp only [Act.put, List.setIfInBounds_toArray, List.set_cons_zero, List.set_cons_succ]
                  refine wpAnyH_take (i := 18) (oi := _) (v := (.int .i64 n0)) rfl (by kernel_rfl) (by kernel_rfl) (by kernel_rfl) (fun _ _ _ h => h) (Or.inl ⟨by rfl, fun W hSw => ?_⟩) (by with_reducible assumption) ?_
                  · (try dsimp only at hSw); go_simp
                  change wpAnyH _ _ _ _ _ _ _ (Act.put _ (some 166) _) _
                  simp only [Act.put, List.setIfInBounds_toArray, List.set_cons_zero, List.set_cons_succ]
                  refine wpAnyH_take (i := 19) (oi := _) (v := (.bool true)) rfl (by kernel_rfl) (by kernel_rfl) (by kernel_rfl) (fun _ _ _ h => h) (Or.inl ⟨by rfl, fun W hSw => ?_⟩) (by with_reducible assumption) ?_
                  · (try dsimp only at hSw); go_simp
                  change wpAnyH _ _ _ _ _ _ _ (Act.put _ (some 167) _) _
                  simp only [Act.put, List.setIfInBounds_toArray, List.set_cons_zero, List.set_cons_succ]
                  refine wpAnyH_take (i := 20) (oi := _) (v := (.bool true)) rfl (by kernel_rfl) (by kernel_rfl) (by kernel_rfl) (fun _ _ _ h => h) (Or.inl ⟨by rfl, fun W hSw => ?_⟩) (by with_reducible assumption) ?_
                  · (try dsimp only at hSw); go_simp
                  change wpAnyH _ _ _ _ _ _ _ (Act.put _ (some 168) _) _
                  simp only [Act.put, List.setIfInBounds_toArray, List.set_cons_zero, List.set_cons_succ]
                  refine wpAnyH_take (i := 21) (oi := _) (v := (.bool true)) rfl (by kernel_rfl) (by kernel_rfl) (by kernel_rfl) (fun _ _ _ h => h) (Or.inl ⟨by rfl, fun W hSw => ?_⟩) (by with_reducible assumption) ?_
                  · (try dsimp only at hSw); go_simp
                  change wpAnyH _ _ _ _ _ _ _ (Act.put _ (some 169) _) _
                  simp only [Act.put, List.setIfInBounds_toArray, List.set_cons_zero, List.set_cons_succ]
                  refine wpAnyH_take (i := 22) (oi := _) (v := (.int .i64 0)) rfl (by kernel_rfl) (by kernel_rfl) (by kernel_rfl) (fun _ _ _ h => h) (Or.inl ⟨by rfl, fun W hSw => ?_⟩) (by with_reducible assumption) ?_
                  · (try dsimp only at hSw); go_simp
                  change wpAnyH _ _ _ _ _ _ _ (Act.put _ (some 170) _) _
                  simp only [Act.put, List.setIfInBounds_toArray, List.set_cons_zero, List.set_cons_succ]
                  refine wpAnyH_take (i := 23) (oi := _) (v := (.bool true)) rfl (by kernel_rfl) (by kernel_rfl) (by kernel_rfl) (fun _ _ _ h => h) (Or.inl ⟨by rfl, fun W hSw => ?_⟩) (by with_reducible assumption) ?_
                  · (try dsimp only at hSw); go_simp
                  change wpAnyH _ _ _ _ _ _ _ (Act.put _ (some 171) _) _
                  simp only [Act.put, List.setIfInBounds_toArray, List.set_cons_zero, List.set_cons_succ]
                  refine wpAnyH_take (i := 24) (oi := _) (v := (.bool true)) rfl (by kernel_rfl) (by kernel_rfl) (by kernel_rfl) (fun _ _ _ h => h) (Or.inl ⟨by rfl, fun W hSw => ?_⟩) (by with_reducible assumption) ?_
                  · (try dsimp only at hSw); go_simp
                  change wpAnyH _ _ _ _ _ _ _ (Act.put _ (some 172) _) _
                  simp only [Act.put, List.setIfInBounds_toArray, List.set_cons_zero, List.set_cons_succ]
                  refine wpAnyH_take (i := 25) (oi := _) (v := (.bool true)) rfl (by kernel_rfl) (by kernel_rfl) (by kernel_rfl) (fun _ _ _ h => h) (Or.inl ⟨by rfl, fun W hSw => ?_⟩) (by with_reducible assumption) ?_
                  · (try dsimp only at hSw); go_simp
                  change wpAnyH _ _ _ _ _ _ _ (Act.put _ (some 173) _) _
                  simp only [Act.put, List.setIfInBounds_toArray, List.set_cons_zero, List.set_cons_succ]
                  refine wpAnyH_take (i := 26) (oi := _) (v := (.pointer (some ⟨a14.heap.size, 1, none⟩))) rfl (by kernel_rfl) (by kernel_rfl) (by kernel_rfl) (fun _ _ _ h => h) (Or.inl ⟨by rfl, fun W hSw => ?_⟩) (by with_reducible assumption) ?_
                  · (try dsimp only at hSw); go_simp
                  change wpAnyH _ _ _ _ _ _ _ (Act.put _ (some 174) _) _
                  simp only [Act.put, List.setIfInBounds_toArray, List.set_cons_zero, List.set_cons_succ]
                  refine wpAnyH_take (i := 27) (oi := _) (v := (.int .i64 (IntKind.i64.wrap (-n0)))) rfl (by kernel_rfl) (by kernel_rfl) (by kernel_rfl) (fun _ _ _ h => h) (Or.inl ⟨by rfl, fun W hSw => ?_⟩) (by with_reducible assumption) ?_
                  · (try dsimp only at hSw); go_simp
                  change wpAnyH _ _ _ _ _ _ _ (Act.put _ (some 175) _) _
                  simp only [Act.put, List.setIfInBounds_toArray, List.set_cons_zero, List.set_cons_succ]
                  refine wpAnyH_take (i := 28) (oi := _) (v := (.int .i64 n0)) rfl (by kernel_rfl) (by kernel_rfl) (by kernel_rfl) (fun _ _ _ h => h) (Or.inl ⟨by rfl, fun W hSw => ?_⟩) (by with_reducible assumption) ?_
                  · (try dsimp only at hSw); go_simp
                  change wpAnyH _ _ _ _ _ _ _ (Act.put _ (some 176) _) _
                  simp only [Act.put, List.setIfInBounds_toArray, List.set_cons_zero, List.set_cons_succ]
                  refine wpAnyH_take (i := 29) (oi := _) (v := (.bool false)) rfl (by kernel_rfl) (by kernel_rfl) (by kernel_rfl) (fun _ _ _ h => h) (Or.inl ⟨by rfl, fun W hSw => ?_⟩) (by with_reducible assumption) ?_
                  · (try dsimp only at hSw); go_simp
                  change wpAnyH _ _ _ _ _ _ _ (Act.put _ (some 177) _) _
                  simp only [Act.put, List.setIfInBounds_toArray, List.set_cons_zero, List.set_cons_succ]
                  refine wpAnyH_take (i := 30) (oi := _) (v := (.bool false)) rfl (by kernel_rfl) (by kernel_rfl) (by kernel_rfl) (fun _ _ _ h => h) (Or.inl ⟨by rfl, fun W hSw => ?_⟩) (by with_reducible assumption) ?_
                  · (try dsimp only at hSw); go_simp
                  change wpAnyH _ _ _ _ _ _ _ (Act.put _ (some 178) _) _
                  simp only [Act.put, List.setIfInBounds_toArray, List.set_cons_zero, List.set_cons_succ]
                  refine wpAnyH_take (i := 31) (oi := _) (v := (.pointer (some ⟨a14.heap.size, 1, none⟩))) rfl (by kernel_rfl) (by kernel_rfl) (by kernel_rfl) (fun _ _ _ h => h) (Or.inl ⟨by rfl, fun W hSw => ?_⟩) (by with_reducible assumption) ?_
                  · (try dsimp only at hSw); go_simp
                  change wpAnyH _ _ _ _ _ _ _ (Act.put _ (some 179) _) _
                  simp only [Act.put, List.setIfInBounds_toArray, List.set_cons_zero, List.set_cons_succ]
                  refine wpAnyH_take (i := 32) (oi := _) (v := (.int .i64 (IntKind.i64.wrap (-n0)))) rfl (by kernel_rfl) (by kernel_rfl) (by kernel_rfl) (fun _ _ _ h => h) (Or.inl ⟨by rfl, fun W hSw => ?_⟩) (by with_reducible assumption) ?_
                  · (try dsimp only at hSw); go_simp
                  change wpAnyH _ _ _ _ _ _ _ (Act.put _ (some 180) _) _
                  simp only [Act.put, List.setIfInBounds_toArray, List.set_cons_zero, List.set_cons_succ]
                  refine wpAnyH_take (i := 33) (oi := _) (v := (.int .i64 n0)) rfl (by kernel_rfl) (by kernel_rfl) (by kernel_rfl) (fun _ _ _ h => h) (Or.inl ⟨by rfl, fun W hSw => ?_⟩) (by with_reducible assumption) ?_
                  · (try dsimp only at hSw); go_simp
                  change wpAnyH _ _ _ _ _ _ _ (Act.put _ (some 181) _) _
                  simp only [Act.put, List.setIfInBounds_toArray, List.set_cons_zero, List.set_cons_succ]
                  refine wpAnyH_take (i := 34) (oi := _) (v := (.int .i64 (IntKind.i64.wrap (-n0)))) rfl (by kernel_rfl) (by kernel_rfl) (by kernel_rfl) (fun _ _ _ h => h) (Or.inl ⟨by rfl, fun W hSw => ?_⟩) (by with_reducible assumption) ?_
                  · (try dsimp only at hSw); go_simp
                  change wpAnyH _ _ _ _ _ _ _ (Act.put _ (some 182) _) _
                  simp only [Act.put, List.setIfInBounds_toArray, List.set_cons_zero, List.set_cons_succ]
                  refine wpAnyH_take (i := 35) (oi := _) (v := (.bool true)) rfl (by kernel_rfl) (by kernel_rfl) (by kernel_rfl) (fun _ _ _ h => h) (Or.inl ⟨by rfl, fun W hSw => ?_⟩) (by with_reducible assumption) ?_
                  · (try dsimp only at hSw); go_simp
                  change wpAnyH _ _ _ _ _ _ _ (Act.put _ (some 183) _) _
                  simp only [Act.put, List.setIfInBounds_toArray, List.set_cons_zero, List.set_cons_succ]
                  refine wpAnyH_take (i := 36) (oi := _) (v := (.bool true)) rfl (by kernel_rfl) (by kernel_rfl) (by kernel_rfl) (fun _ _ _ h => h) (Or.inl ⟨by rfl, fun W hSw => ?_⟩) (by with_reducible assumption) ?_
                  · (try dsimp only at hSw); go_simp
                  change wpAnyH _ _ _ _ _ _ _ (Act.put _ (some 184) _) _
                  simp only [Act.put, List.setIfInBounds_toArray, List.set_cons_zero, List.set_cons_succ]
                  refine wpAnyH_take (i := 37) (oi := _) (v := (.bool true)) rfl (by kernel_rfl) (by kernel_rfl) (by kernel_rfl) (fun _ _ _ h => h) (Or.inl ⟨by rfl, fun W hSw => ?_⟩) (by with_reducible assumption) ?_
                  · (try dsimp only at hSw); go_simp
                  change wpAnyH _ _ _ _ _ _ _ (Act.put _ (some 185) _) _
                  simp only [Act.put, List.setIfInBounds_toArray, List.set_cons_zero, List.set_cons_succ]
                  refine wpAnyH_take (i := 38) (oi := _) (v := (.bool true)) rfl (by kernel_rfl) (by kernel_rfl) (by kernel_rfl) (fun _ _ _ h => h) (Or.inl ⟨by rfl, fun W hSw => ?_⟩) (by with_reducible assumption) ?_
                  · (try dsimp only at hSw); go_simp
                  change wpAnyH _ _ _ _ _ _ _ (Act.put _ (some 6) _) _
                  simp only [Act.put, List.setIfInBounds_toArray, List.set_cons_zero, List.set_cons_succ]
                  refine wpAnyH_done (by kernel_rfl) ?_ _
                  go_wp2_with fail
                  go_ret
                  exact ⟨rfl, HW.out _ (B15.out.trans (below_le' b17 B15.out.size))⟩

theorem funTexts_c (k n : Int) (s : ByteArray) (sub : VL) (sa : Option Addr) (sc : Nat) (l : List (List UInt8)) (A : Option Addr) (c : Nat) (n0 : Int) (ea : Nat → Addr) (w : World) (hfit : (val1 k n s sub).fit) (h64 : (val1 k n s sub).i64) (hsc : sub.len ≤ sc)
    (hrep : RpL w (fun b => b < w.heap.size) sub sa) (hlen : l.length ≤ 9223372036854775807) (hstr : StrO w A l) (hn0 : -9223372036854775808 ≤ n0) (hn1 : n0 ≤ 9223372036854775807) (hea : ErrsAt w ea) (hst : StrcAt w) (htx : TxAt w) (hsp : SpaceAt w) (hmd : MdAt w ea) :
    Calls Tryz.prog 4 #[.agg #[.int .i64 k, .int .i64 n, .string s, .slice sa sub.len sc], .slice A l.length c, .int .i64 n0] w fun e w' => e = .returned (.bool true) ∧ Below w.heap.size w w' := by
  cases hgw : l.all goodW with
  | false => exact funTexts_f k n s sub sa sc l A c n0 ea w hfit h64 hsc hrep hlen hstr hn0 hn1 hea hst htx hsp hmd hgw
  | true => exact funTexts_t k n s sub sa sc l A c n0 ea w hfit h64 hsc hrep hlen hstr hn0 hn1 hea hst htx hsp hmd hgw
end Go.Proofs.YtbalpfpcbckghaaGreatDoor
