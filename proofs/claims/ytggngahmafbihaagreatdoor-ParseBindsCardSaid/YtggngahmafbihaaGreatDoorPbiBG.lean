/- Contracts of the functions that the statement reaches, and the plain mathematics beneath: several texts joined. -/
import Derived.Test.YtggngahmafbihaaGreatDoorPbiBA
namespace Go.Proofs.YtggngahmafbihaaGreatDoor
open Go.RowKit Go.Lib
set_option linter.unusedVariables false

/-- What a call of valid leaves: an error's number, or where a node is amiss. -/
def PV (w : World) (ea : Nat → Addr) (l : NL) (role : Nat) (e : Ending) (w' : World) : Prop :=
  if 4096 < l.tot then Below w.heap.size w w' ∧ e = .returned (errV ea 104)
  else if 40 < l.deep then Below w.heap.size w w' ∧ e = .returned (errV ea 112)
  else PW w ea (walkN l (fun _ => (role, false)) 0) e w'
theorem PV.right {w w' : World} {ea : Nat → Addr} {l : NL} {role : Nat} {e : Ending} (h : PV w ea l role e w') (hr : rightN l role = true) : Below w.heap.size w w' ∧ e = .returned .nilIface := by
  simp only [rightN, Bool.and_eq_true, decide_eq_true_eq, Option.isNone_iff_eq_none] at hr
  unfold PV at h
  rw [if_neg (by omega), if_neg (by omega), hr.2] at h
  exact h
/-- Without an error the nodes are right; with one they are not. -/
theorem PV.wrong {w w' : World} {ea : Nat → Addr} {l : NL} {role : Nat} {e : Ending} (h : PV w ea l role e w') (hr : rightN l role = false) : Below w.heap.size w w' ∧ ∃ t a, e = .returned (.iface t (.pointer (some a))) := by
  unfold PV at h
  by_cases h1 : 4096 < l.tot
  · rw [if_pos h1] at h; exact ⟨h.1, _, _, h.2⟩
  rw [if_neg h1] at h
  by_cases h2 : 40 < l.deep
  · rw [if_pos h2] at h; exact ⟨h.1, _, _, h.2⟩
  rw [if_neg h2] at h
  cases hw : walkN l (fun _ => (role, false)) 0 with
  | none =>
    have : rightN l role = true := by
      simp only [rightN, Bool.and_eq_true, decide_eq_true_eq, Option.isNone_iff_eq_none]
      exact ⟨⟨by omega, by omega⟩, hw⟩
    rw [this] at hr; cases hr
  | some lc =>
    rw [hw] at h
    obtain ⟨hb, A, _, _, he⟩ := h
    exact ⟨hb, _, _, he⟩

set_option maxRecDepth 100000 in
set_option maxHeartbeats 2000000 in
theorem valid_tc (l : NL) (A : Option Addr) (c role : Nat) (ea : Nat → Addr) (w : World) (he : ErrsAt w ea) (hfit : l.fit) (hlen : l.len ≤ 140737488351232) (hc : l.len ≤ c) (hr : role ≤ 8) (hrep : RpN w (fun b => b < w.heap.size) l A) :
    Calls Tryz.prog 61 #[.slice A l.len c, .int .i64 (role : Int)] w (PV w ea l role) := by
  have hroom := he.room
  have CC := Lib.hid (count_c (l.tot + 1) l A c 0 w (by omega) hfit hlen hc hrep (by decide) (by decide))
  have hce := countN_eq l 0 (by decide) (by decide)
  have HRP := Lib.hid hrep
  have HE := Lib.hid he
  have eM := he.many
  clear hrep he
  by_cases h1 : 4096 < l.tot
  · have HP := Lib.hid (fun e w' => show PV w ea l role e w' = (Below w.heap.size w w' ∧ e = .returned (errV ea 104)) by unfold PV; rw [if_pos h1])
    rw [hce, if_neg (by omega)] at CC
    clear hce h1
    go_enter Tryz.func61, Tryz.ntmps61
    go_wp2_with fail
    refine CC.out.mono ?_
    rintro e w2 ⟨rfl, hb2⟩
    have e2 := (HE.out.below hb2 (Nat.le_of_lt hroom)).many
    have HB2 := Lib.hid hb2
    clear hb2 eM
    go_wp2_with fail
    go_ret
    rw [HP.out]
    exact ⟨HB2.out, rfl⟩
  rw [hce, if_pos (by omega)] at CC
  have q1 : ¬ ((4096 : Int) < 0 + (l.tot : Int)) := by omega
  have q1' : ¬ ((4096 : Int) < (l.tot : Int)) := by omega
  have h1' : l.tot ≤ 4096 := by omega
  have DC := Lib.hid (fun W (hW : Below w.heap.size w W) => deep_c (l.tot + 1) l A c W (by omega) h1' hfit hlen hc (HRP.out.keep (fun b hb => hW.block b hb) (fun b hb => Nat.lt_of_lt_of_le hb hW.size)))
  by_cases h2 : 40 < l.deep
  · have HP := Lib.hid (fun e w' => show PV w ea l role e w' = (Below w.heap.size w w' ∧ e = .returned (errV ea 112)) by unfold PV; rw [if_neg h1, if_pos h2])
    have q2 : (40 : Int) < (l.deep : Int) := by omega
    clear hce h1 h2 h1'
    go_enter Tryz.func61, Tryz.ntmps61
    go_wp2_with fail
    refine CC.out.mono ?_
    rintro e w2 ⟨rfl, hb2⟩
    have HB2 := Lib.hid hb2
    clear hb2 eM
    go_wp2_with fail
    refine (DC.out w2 HB2.out).mono ?_
    rintro e w3 ⟨rfl, hb3⟩
    have HB3 := Lib.hid (HB2.out.trans (below_le' hb3 HB2.out.size))
    have e3 := (HE.out.below HB3.out (Nat.le_of_lt hroom)).deep
    clear hb3
    go_wp2_with fail
    go_ret
    rw [HP.out]
    exact ⟨HB3.out, rfl⟩
  have HP := Lib.hid (fun e w' => show PV w ea l role e w' = PW w ea (walkN l (fun _ => (role, false)) 0) e w' by unfold PV; rw [if_neg h1, if_neg h2])
  have q2 : ¬ ((40 : Int) < (l.deep : Int)) := by omega
  clear hce h1 h2
  go_enter Tryz.func61, Tryz.ntmps61
  go_wp2_with fail
  refine CC.out.mono ?_
  rintro e w2 ⟨rfl, hb2⟩
  have HB2 := Lib.hid hb2
  clear hb2 eM
  go_wp2_with fail
  refine (DC.out w2 HB2.out).mono ?_
  rintro e w3 ⟨rfl, hb3⟩
  have HB3 := Lib.hid (HB2.out.trans (below_le' hb3 HB2.out.size))
  have HS3 := Lib.hid (HRP.out.keep (w' := w3) (fun b hb => HB3.out.block b hb) (fun b hb => Nat.lt_of_lt_of_le hb HB3.out.size))
  have HE3 := Lib.hid (HE.out.below HB3.out (Nat.le_of_lt hroom))
  clear hb3
  go_wp2_with fail
  go_loopg [18] l.len (fun kk v wr => ∃ (i : Nat), v = .int .i64 i ∧ i + kk = l.len ∧ Hid (Below w3.heap.size w3 wr) ∧ Hid (walkN (l.drop i) (fun _ => (role, false)) i = walkN l (fun _ => (role, false)) 0))
  case atStart => exact ⟨0, rfl, by omega, Below.refl _ _, by show walkN (l.drop 0) _ _ = _; rw [NL.drop]⟩
  case round =>
    obtain ⟨i, rfl, hik, hbr, hwn⟩ := hrel
    by_cases hi : i < l.len
    · obtain ⟨g, rfl⟩ : ∃ g, gk = g + 1 := ⟨gk - 1, by omega⟩
      obtain ⟨b, o, op', ln', s', k', n', t', v', sub', va', vc', sa', sc', hA, hSb, hd, c0, c1, c2, c3, c4, c5, c6, hvc', hv', c7, hsc', hs'⟩ := (HS3.out.below hbr.out (fun b hb => hb)).nth hi
      have hfd := NL.fit_drop i l hfit
      have htd := NL.tot_drop i l
      rw [hd] at hfd htd
      simp only [NL.tot] at htd
      obtain ⟨hf1, hf2, hf3, hf4, hf5, hf6, -⟩ := hfd
      obtain ⟨wx, hwx⟩ : ∃ wx, wx = wr.alloc (.cells #[.int .i64 op', .int .i64 ln', .string s', .int .i64 k', .int .i64 n', .string t', .slice va' v'.len vc', .slice sa' sub'.len sc'] 31) := ⟨_, rfl⟩
      have hbx : Below wr.heap.size wr wx := by rw [hwx]; exact (Below.refl _ _).alloc (Nat.le_refl _) _
      have hnb : NdB wx wr.heap.size (.int .i64 op') (.int .i64 ln') (.string s') (.int .i64 k') (.int .i64 n') (.string t') (.slice va' v'.len vc') (.slice sa' sub'.len sc') := by rw [hwx]; exact NdB.new _ _ _ _ _ _ _ _ _
      have hzr := hbr.out.size
      have HBX := Lib.hid (hbr.out.trans (below_le' hbx hzr))
      have hzx := HBX.out.size
      have HEX := Lib.hid (HE3.out.below HBX.out (Nat.le_of_lt HE3.out.room))
      have y0 := hnb.c0; have y1 := hnb.c1; have y2 := hnb.c2; have y3 := hnb.c3; have y4 := hnb.c4; have y5 := hnb.c5; have y6 := hnb.c6; have y7 := hnb.c7
      rw [hwx] at y0 y1 y2 y3 y4 y5 y6 y7
      have HWX := Lib.hid hwx
      have hst := hwn.out
      rw [hd, walkN_cons] at hst
      dsimp only at hst
      have IHC := Lib.hid (walk_tc (sub'.tot + 1) op' ln' s' k' n' t' v' va' vc' sub' sa' sc' role false ea wx (by omega) (by omega) HEX.out hf1 hf2 hf3 hf4 hvc' hf6 hsc' hr
        (hv'.keep (fun b hb => hbx.block b (by omega)) (fun b hb => by have := hbx.size; omega)) (hs'.keep (fun b hb => hbx.block b (by omega)) (fun b hb => by have := hbx.size; omega)))
      subst hA
      clear hbr hwn hbx hnb hv' hs' hd hwx
      obtain ⟨res, hres⟩ : ∃ res, res = walkNode op' ln' s' k' n' t' v' sub' role false := ⟨_, rfl⟩
      rw [← hres] at IHC hst
      have HST2 := Lib.hid hst
      clear hres hst
      go_wp2_with fail
      rw [← HWX.out]
      refine IHC.out.mono ?_
      rintro e w5 ⟨hb5, hpw⟩
      have HB5 := Lib.hid (HBX.out.trans (below_le' hb5 HBX.out.size))
      clear hb5
      cases res with
      | none =>
        subst hpw
        go_wp2_with fail
        go_roundg g
        case measure => omega
        case rel => exact ⟨i + 1, by go_num, by omega, HB5.out, HST2.out⟩
      | some lc =>
        obtain ⟨ll, cc⟩ := lc
        obtain ⟨A, hA1, hA2, rfl⟩ := hpw
        go_wp2_with fail
        go_ret
        rw [HP.out, ← HST2.out]
        exact ⟨HB3.out.trans (below_le' HB5.out HB3.out.size), A, by have := HB3.out.size; have := HBX.out.size; omega, hA2, rfl⟩
    · obtain rfl : i = l.len := by omega
      have HN9 := Lib.hid hwn.out
      rw [NL.drop_len] at HN9
      have HBR := Lib.hid hbr.out
      clear hwn hbr
      go_wp2_with fail
      go_ret
      rw [HP.out, ← HN9.out]
      exact ⟨HB3.out.trans (below_le' HBR.out HB3.out.size), rfl⟩

/-- One node, as a list. -/
def node1 (op ln : Int) (s : ByteArray) (k n : Int) (t : ByteArray) (v : VL) (sub : NL) : NL := .cons op ln s k n t v sub .nil
theorem PV.below {w wa w' : World} {ea : Nat → Addr} {l : NL} {role : Nat} {e : Ending} (h : PV wa ea l role e w') (hb : Below w.heap.size w wa) : PV w ea l role e w' := by
  have hz := hb.size
  unfold PV at h ⊢
  split
  · rename_i h1; rw [if_pos h1] at h; exact ⟨hb.trans (below_le' h.1 hz), h.2⟩
  · rename_i h1
    rw [if_neg h1] at h
    split
    · rename_i h2; rw [if_pos h2] at h; exact ⟨hb.trans (below_le' h.1 hz), h.2⟩
    · rename_i h2
      rw [if_neg h2] at h
      cases hw : walkN l (fun _ => (role, false)) 0 with
      | none => rw [hw] at h; exact ⟨hb.trans (below_le' h.1 hz), h.2⟩
      | some lc =>
        rw [hw] at h
        obtain ⟨h1, A, h2, h3⟩ := h
        exact ⟨hb.trans (below_le' h1 hz), A, by omega, h3⟩

set_option maxHeartbeats 1000000 in
theorem expr_tc (op ln : Int) (s : ByteArray) (k n : Int) (t : ByteArray) (v : VL) (va : Option Addr) (vc : Nat) (sub : NL) (sa : Option Addr) (sc : Nat) (ea : Nat → Addr) (w : World) (he : ErrsAt w ea)
    (hfit : (node1 op ln s k n t v sub).fit) (hvc : v.len ≤ vc) (hsc : sub.len ≤ sc) (hv : RpL w (fun b => b < w.heap.size) v va) (hsub : RpN w (fun b => b < w.heap.size) sub sa) :
    Calls Tryz.prog 28 #[.agg #[.int .i64 op, .int .i64 ln, .string s, .int .i64 k, .int .i64 n, .string t, .slice va v.len vc, .slice sa sub.len sc]] w (PV w ea (node1 op ln s k n t v sub) 0) := by
  have hroom := he.room
  obtain ⟨wa, hwa⟩ : ∃ wa, wa = w.alloc (.cells #[.int .i64 op, .int .i64 ln, .string s, .int .i64 k, .int .i64 n, .string t, .slice va v.len vc, .slice sa sub.len sc] 31) := ⟨_, rfl⟩
  have hb : Below w.heap.size w wa := by rw [hwa]; exact (Below.refl _ _).alloc (Nat.le_refl _) _
  have hN1 : NdB wa w.heap.size (.int .i64 op) (.int .i64 ln) (.string s) (.int .i64 k) (.int .i64 n) (.string t) (.slice va v.len vc) (.slice sa sub.len sc) := by rw [hwa]; exact NdB.new _ _ _ _ _ _ _ _ _
  have v0 := hN1.c0; have v1 := hN1.c1; have v2 := hN1.c2; have v3 := hN1.c3; have v4 := hN1.c4; have v5 := hN1.c5; have v6 := hN1.c6; have v7 := hN1.c7
  have hz : wa.heap.size = w.heap.size + 1 := by rw [hwa]; simp
  obtain ⟨wb, hwb⟩ : ∃ wb, wb = wa.alloc (.cells #[.int .i64 op, .int .i64 ln, .string s, .int .i64 k, .int .i64 n, .string t, .slice va v.len vc, .slice sa sub.len sc] 31) := ⟨_, rfl⟩
  have hbb : Below wa.heap.size wa wb := by rw [hwb]; exact (Below.refl _ _).alloc (Nat.le_refl _) _
  have hN2 : NdB wb (w.heap.size + 1) (.int .i64 op) (.int .i64 ln) (.string s) (.int .i64 k) (.int .i64 n) (.string t) (.slice va v.len vc) (.slice sa sub.len sc) := by rw [hwb, ← hz]; exact NdB.new _ _ _ _ _ _ _ _ _
  have hbw := hb.trans (below_le' hbb hb.size)
  have hzb : wb.heap.size = w.heap.size + 2 := by rw [hwb]; simp [hz]
  have hrp : RpN wb (fun b => b < wb.heap.size) (node1 op ln s k n t v sub) (some ⟨w.heap.size + 1, 0, none⟩) :=
    ⟨w.heap.size + 1, 0, va, vc, sa, sc, rfl, by omega, hN2.c0, hN2.c1, hN2.c2, hN2.c3, hN2.c4, hN2.c5, hN2.c6, hvc, hv.keep (fun b hlt => hbw.block b hlt) (fun b hlt => by omega), hN2.c7, hsc, hsub.keep (fun b hlt => hbw.block b hlt) (fun b hlt => by omega), trivial⟩
  have VC := Lib.hid (valid_tc (node1 op ln s k n t v sub) (some ⟨w.heap.size + 1, 0, none⟩) 1 0 ea wb (he.below hbw (Nat.le_of_lt hroom)) hfit (show 1 ≤ 140737488351232 by decide) (Nat.le_refl 1) (by decide) hrp)
  have HBW := Lib.hid hbw
  have HWA := Lib.hid hwa
  have HWB := Lib.hid hwb
  rw [hwa] at v0 v1 v2 v3 v4 v5 v6 v7
  clear hb hN1 hwa hbb hN2 hwb hbw hrp he hv hsub hz
  go_enter Tryz.func28, Tryz.ntmps28
  go_wp2_with fail
  rw [← HWA.out, ← HWB.out]
  refine VC.out.mono ?_
  intro e w2 hp
  have HP := Lib.hid (hp.below HBW.out)
  by_cases hr : rightN (node1 op ln s k n t v sub) 0 = true
  · obtain ⟨hb, rfl⟩ := hp.right hr
    clear hp hb
    go_wp2_with fail
    go_ret
    exact HP.out
  · obtain ⟨hb, t, a, rfl⟩ := hp.wrong (by simpa using hr)
    clear hp hb
    go_wp2_with fail
    go_ret
    exact HP.out
end Go.Proofs.YtggngahmafbihaaGreatDoor
