/- Contracts of the functions that the statement reaches, and the plain mathematics beneath: several texts joined. -/
import Derived.Test.YtggngahmafbihaaGreatDoorPwyP
import Derived.Deep.CutBlock
import Derived.Test.YtggngahmafbihaaGreatDoorPwyK
import Derived.Test.YtggngahmafbihaaGreatDoorPwyN
import Derived.Test.YtggngahmafbihaaGreatDoorPwyM
import Derived.Test.YtggngahmafbihaaGreatDoorPwyD
import Derived.StillTailTactics
import Derived.Test.YtggngahmafbihaaGreatDoorPwyL
import Derived.Test.YtggngahmafbihaaGreatDoorPwyO
import Derived.BigQuiet
import Derived.Deep.RegionHeld3
import Derived.Test.YtggngahmafbihaaGreatDoorPwyB
import Derived.Test.YtggngahmafbihaaGreatDoorPwyC
import Derived.Test.YtggngahmafbihaaGreatDoorPwyA
import Derived.Test.YtggngahmafbihaaGreatDoorPwyE
import Derived.Test.YtggngahmafbihaaGreatDoorPwyF
import Derived.Test.YtggngahmafbihaaGreatDoorPwyG
import Derived.Test.YtggngahmafbihaaGreatDoorPwyH
import Derived.Test.YtggngahmafbihaaGreatDoorPwyI
import Derived.Test.YtggngahmafbihaaGreatDoorPwyJ
namespace Go.Proofs.YtggngahmafbihaaGreatDoor
open Go.RowKit Go.Lib
set_option linter.unusedVariables false

/-- What is amiss with one node and what it has. -/
def walkNode (op ln : Int) (s : ByteArray) (k n : Int) (t : ByteArray) (v : VL) (sub : NL) (role : Nat) (loop : Bool) : Option (Int × Nat) :=
  if ownN op s k n t v sub.len role loop ≠ 0 then some (ln, ownN op s k n t v sub.len role loop) else walkN sub (subRole op sub.len role loop) 0
theorem walkN_cons (op ln : Int) (s : ByteArray) (k n : Int) (t : ByteArray) (v : VL) (sub r : NL) (f : Nat → Nat × Bool) (i : Nat) :
    walkN (.cons op ln s k n t v sub r) f i = (match walkNode op ln s k n t v sub (f i).1 (f i).2 with | some e => some e | none => walkN r f (i + 1)) := by
  rw [walkN]
  unfold walkNode
  by_cases h : ownN op s k n t v sub.len (f i).1 (f i).2 ≠ 0
  · rw [if_pos h, if_pos h]
  · rw [if_neg h, if_neg h]
    cases walkN sub (subRole op sub.len (f i).1 (f i).2) 0 <;> rfl
/-- What a call of walk leaves. -/
def PW (w : World) (ea : Nat → Addr) (res : Option (Int × Nat)) (e : Ending) (w' : World) : Prop :=
  Below w.heap.size w w' ∧ match res with
    | none => e = .returned .nilIface
    | some (l, c) => ∃ A, w.heap.size ≤ A ∧ w'.heap[A]? = some (.cells #[.int .i64 l, errV ea (ownC c)] 73 (0, 0)) ∧ e = .returned (.iface 70 (.pointer (some ⟨A, 0, none⟩)))

theorem roles_len {op : Int} {m : Nat} (h : (rolesP op m).2 = true) : (rolesP op m).1.length = m := by
  by_cases hk : (1 ≤ op ∧ op ≤ 29) ∨ (40 ≤ op ∧ op ≤ 52)
  · have hk2 : op = 1 ∨ op = 2 ∨ op = 3 ∨ op = 4 ∨ (5 ≤ op ∧ op ≤ 18) ∨ op = 19 ∨ op = 20 ∨ op = 21 ∨ op = 22 ∨ op = 23 ∨ op = 24 ∨ op = 25 ∨ op = 26 ∨ op = 27 ∨ op = 28 ∨ op = 29 ∨ op = 40 ∨ op = 41 ∨ op = 42 ∨ op = 43 ∨ op = 44 ∨ op = 45 ∨ op = 46 ∨ op = 47 ∨ op = 48 ∨ op = 49 ∨ op = 50 ∨ op = 51 ∨ op = 52 := by omega
    rcases hk2 with rfl | rfl | rfl | rfl | hb | rfl | rfl | rfl | rfl | rfl | rfl | rfl | rfl | rfl | rfl | rfl | rfl | rfl | rfl | rfl | rfl | rfl | rfl | rfl | rfl | rfl | rfl | rfl | rfl
    case inr.inr.inr.inr.inl =>
      have e : rolesP op m = ([0, 0], m == 2) := by unfold rolesP; rw [if_neg (by omega), if_neg (by omega), if_pos (by omega)]
      rw [e] at h ⊢
      simp at h ⊢; omega
    case inr.inr.inr.inr.inr.inr.inr.inr.inr.inr.inr.inr.inr.inr.inl =>
      have e : rolesP 28 m = ((List.replicate (m - 2) 3 ++ (if 1 < m then [4] else [])) ++ [0], decide (2 ≤ m)) := rfl
      rw [e] at h ⊢
      simp only [decide_eq_true_eq] at h
      rw [if_pos (by omega)]
      simp; omega
    case inr.inr.inr.inr.inr.inr.inr.inr.inr.inr.inr.inr.inr.inr.inr.inl =>
      have e : rolesP 29 m = ([0, 5, 0].take (min m 3), m == 2 || m == 3) := rfl
      rw [e] at h ⊢
      simp at h
      rcases h with rfl | rfl <;> rfl
    all_goals (simp [rolesP] at h ⊢; try omega)
  · have e : rolesP op m = ([], false) := by
      unfold rolesP
      iterate 17 rw [if_neg (by omega)]
    rw [e] at h; cases h
theorem roles_at {op : Int} {m : Nat} {v : Value} {w : World} {B : Nat} (ho : w.ownsRow B 3 1 v (rolesP op m).1.length (ints (rolesP op m).1)) {i : Nat} (hi : i < (rolesP op m).1.length) :
    ∃ g cap, v = .slice (some ⟨g, 0, none⟩) (rolesP op m).1.length cap ∧ g < w.heap.size ∧ w.cell? ⟨g, i, none⟩ = some (.int .i64 (((rolesP op m).1.getD i 0 : Nat) : Int)) := by
  obtain ⟨g, cap, cur, hv, hbg, hh, hq, hcm, hcs, ht⟩ : ∃ g cap cur, v = .slice (some ⟨g, 0, none⟩) (rolesP op m).1.length cap ∧ B ≤ g ∧ w.heap[g]? = some (.cells cur 3 (0, 0)) ∧ (rolesP op m).1.length ≤ cap ∧ cap ≤ maxLen ∧ cur.size = cap * 1 ∧ cur.toList.take ((rolesP op m).1.length * 1) = ints (rolesP op m).1 := by
    rcases ho.2 with ⟨_, h0⟩ | h
    · omega
    · exact h
  refine ⟨g, cap, hv, ?_, ?_⟩
  · rcases Nat.lt_or_ge g w.heap.size with hlt | hge
    · exact hlt
    · rw [Array.getElem?_eq_none hge] at hh; cases hh
  · subst hv
    rw [ho.cellAt i (by omega)]
    unfold ints
    rw [List.getElem?_map, List.getD_eq_getElem?_getD]
    rw [List.getElem?_eq_getElem hi]; rfl

theorem sub_role_1 (op : Int) (m role : Nat) (loop : Bool) (j : Nat) : (subRole op m role loop j).1 = if role = 5 then 0 else if role = 2 ∧ op = 20 ∧ j = 0 then 2 else if role = 4 ∧ op = 26 then 3 else (rolesP op m).1.getD j 0 := rfl
theorem sub_role_2 (op : Int) (m role : Nat) (loop : Bool) (j : Nat) : (subRole op m role loop j).2 = ((loop && op != 48) || (loopsP op && (subRole op m role loop j).1 == 6)) := rfl
theorem int_beq {a b : Nat} (h : a ≠ b) : ((a : Int) == (b : Int)) = false := beq_no (by omega)

def WalkTC (N : Nat) : Prop := ∀ (op ln : Int) (s : ByteArray) (k n : Int) (t : ByteArray) (v : VL) (va : Option Addr) (vc : Nat) (sub : NL) (sa : Option Addr) (sc : Nat) (role : Nat) (loop : Bool) (ea : Nat → Addr) (w : World), sub.tot < N → sub.tot ≤ 4096 → ErrsAt w ea →
  s.size ≤ 140737488351232 → t.size ≤ 140737488351232 → v.len ≤ 140737488351232 → v.fit → v.len ≤ vc → sub.fit → sub.len ≤ sc → role ≤ 8 → RpL w (fun b => b < w.heap.size) v va → RpN w (fun b => b < w.heap.size) sub sa →
  Calls Tryz.prog 105 #[.agg #[.int .i64 op, .int .i64 ln, .string s, .int .i64 k, .int .i64 n, .string t, .slice va v.len vc, .slice sa sub.len sc], .int .i64 (role : Int), .bool loop] w
    (PW w ea (walkNode op ln s k n t v sub role loop))

set_option maxRecDepth 100000 in
set_option maxHeartbeats 4000000 in
theorem walk_tstep (N : Nat) (ih : ∀ N', N' < N → WalkTC N') : WalkTC N := by
  intro op ln s k n t v va vc sub sa sc role loop ea w hN h4 he hs ht hl hf hvc hsf hsc hr hv hsub
  have hroom := he.room
  have hsl := NL.len_tot sub
  obtain ⟨wa, hwa⟩ : ∃ wa, wa = w.alloc (.cells #[.int .i64 op, .int .i64 ln, .string s, .int .i64 k, .int .i64 n, .string t, .slice va v.len vc, .slice sa sub.len sc] 31) := ⟨_, rfl⟩
  have hb : Below w.heap.size w wa := by rw [hwa]; exact (Below.refl _ _).alloc (Nat.le_refl _) _
  have hN1 : NdB wa w.heap.size (.int .i64 op) (.int .i64 ln) (.string s) (.int .i64 k) (.int .i64 n) (.string t) (.slice va v.len vc) (.slice sa sub.len sc) := by rw [hwa]; exact NdB.new _ _ _ _ _ _ _ _ _
  have v0 := hN1.c0; have v1 := hN1.c1; have v2 := hN1.c2; have v3 := hN1.c3; have v4 := hN1.c4; have v5 := hN1.c5; have v6 := hN1.c6; have v7 := hN1.c7
  rw [hwa] at v0 v1 v2 v3 v4 v5 v6 v7
  have hea := he.below hb (Nat.le_of_lt hroom)
  have OC := Lib.hid (own_tc op ln s k n t v va vc sa sub.len sc role loop ea wa hea hs ht hl hf hvc (by omega) hr (hv.keep (w' := wa) (fun b hlt => hb.block b hlt) (fun b hlt => Nat.lt_of_lt_of_le hlt hb.size)))
  have HN := Lib.hid hN1
  have HB := Lib.hid hb
  have HWA := Lib.hid hwa
  have HE := Lib.hid hea
  have HS := Lib.hid (hsub.keep (w' := wa) (fun b hlt => hb.block b hlt) (fun b hlt => Nat.lt_of_lt_of_le hlt hb.size))
  have hza : 24 < wa.heap.size := by have := hb.size; omega
  clear hb hN1 hwa he hv hsub hea
  go_enter Tryz.func105, Tryz.ntmps105
  go_wp2_with fail
  rw [← HWA.out]
  refine OC.out.mono ?_
  rintro e w2 ⟨rfl, hb2⟩
  have HB2 := Lib.hid hb2
  have HN2 := Lib.hid (HN.out.below' hb2)
  have HE2 := Lib.hid (HE.out.below hb2 (Nat.le_of_lt hza))
  have HS2 := Lib.hid (HS.out.keep (w' := w2) (fun b hlt => hb2.block b hlt) (fun b hlt => Nat.lt_of_lt_of_le hlt hb2.size))
  have HBW := Lib.hid (HB.out.trans (below_le' hb2 HB.out.size))
  have x0 := HN2.out.c0; have x1 := HN2.out.c1; have x2 := HN2.out.c2; have x3 := HN2.out.c3; have x4 := HN2.out.c4; have x5 := HN2.out.c5; have x6 := HN2.out.c6; have x7 := HN2.out.c7
  clear hb2 v0 v1 v2 v3 v4 v5 v6 v7 OC
  by_cases ho : ownN op s k n t v sub.len role loop ≠ 0
  · have HR := Lib.hid (show walkNode op ln s k n t v sub role loop = some (ln, ownN op s k n t v sub.len role loop) by unfold walkNode; rw [if_pos ho])
    obtain ⟨c, hc⟩ : ∃ c, c = ownN op s k n t v sub.len role loop := ⟨_, rfl⟩
    rw [← hc] at HR ho ⊢
    have hne : errV ea (ownC c) = .iface 270 (.pointer (some (ea (ownC c)))) := by
      unfold errV ownC; rw [if_neg]
      by_cases h1 : c = 1
      · rw [if_neg ho, if_pos h1]; decide
      · rw [if_neg ho, if_neg h1]; decide
    have HNE := Lib.hid hne
    rw [hne]
    clear hc hne ho
    go_wp2_with fail
    go_ret
    rw [HR.out]
    refine ⟨HBW.out.alloc HBW.out.size _, w2.heap.size, HBW.out.size, ?_, rfl⟩
    rw [heap_alloc_new, HNE.out]
  have ho0 : ownN op s k n t v sub.len role loop = 0 := by omega
  have HRES := Lib.hid (show walkNode op ln s k n t v sub role loop = walkN sub (subRole op sub.len role loop) 0 by unfold walkNode; rw [if_neg ho])
  have hrl : (rolesP op sub.len).2 = true := by
    obtain ⟨A, B, C, D, e⟩ : ∃ A B C D : Bool, ownN op s k n t v sub.len role loop = (if (!A || !B || C) = true then 1 else if D = true then 2 else 0) ∧ B = (rolesP op sub.len).2 := ⟨_, _, _, _, rfl, rfl⟩
    rw [e.1] at ho0
    rw [← e.2]
    cases A <;> cases B <;> cases C <;> cases D <;> simp_all
  have hrlen := roles_len hrl
  rw [ho0, show errV ea (ownC 0) = .nilIface from rfl]
  clear ho ho0
  have RC := Lib.hid (roles_c op ln s k n t (.slice va v.len vc) sa sub.len sc w2 (by omega))
  go_wp2_with fail
  refine RC.out.mono ?_
  rintro e w3 ⟨rv, rfl, hro, hb3⟩
  have HRO := Lib.hid hro
  have HN3 := Lib.hid (HN2.out.below' hb3)
  have HE3 := Lib.hid (HE2.out.below hb3 (Nat.le_of_lt HE2.out.room))
  have HS3 := Lib.hid (HS2.out.keep (w' := w3) (fun b hlt => hb3.block b hlt) (fun b hlt => Nat.lt_of_lt_of_le hlt hb3.size))
  have HB3 := Lib.hid (HBW.out.trans (below_le' hb3 HBW.out.size))
  have z0 := HN3.out.c0; have z7 := HN3.out.c7
  clear hro hb3 x0 x1 x2 x3 x4 x5 x6 x7 RC
  go_wp2_with fail
  go_loopg [35] sub.len (fun kk v wr => ∃ (i : Nat), v = .int .i64 i ∧ i + kk = sub.len ∧ Hid (Below w3.heap.size w3 wr) ∧ Hid (walkN (sub.drop i) (subRole op sub.len role loop) i = walkN sub (subRole op sub.len role loop) 0))
  case atStart => exact ⟨0, rfl, by omega, Below.refl _ _, by show walkN (sub.drop 0) _ _ = _; rw [NL.drop]⟩
  case round =>
    obtain ⟨i, rfl, hik, hbr, hwn⟩ := hrel
    by_cases hi : i < sub.len
    · obtain ⟨g, rfl⟩ : ∃ g, gk = g + 1 := ⟨gk - 1, by omega⟩
      obtain ⟨b, o, op', ln', s', k', n', t', v', sub', va', vc', sa', sc', hA, hSb, hd, c0, c1, c2, c3, c4, c5, c6, hvc', hv', c7, hsc', hs'⟩ := (HS3.out.below hbr.out (fun b hb => hb)).nth hi
      have hfd := NL.fit_drop i sub hsf
      have htd := NL.tot_drop i sub
      rw [hd] at hfd htd
      simp only [NL.tot] at htd
      obtain ⟨hf1, hf2, hf3, hf4, hf5, hf6, -⟩ := hfd
      obtain ⟨wx, hwx⟩ : ∃ wx, wx = wr.alloc (.cells #[.int .i64 op', .int .i64 ln', .string s', .int .i64 k', .int .i64 n', .string t', .slice va' v'.len vc', .slice sa' sub'.len sc'] 31) := ⟨_, rfl⟩
      have hbx : Below wr.heap.size wr wx := by rw [hwx]; exact (Below.refl _ _).alloc (Nat.le_refl _) _
      have hnb : NdB wx wr.heap.size (.int .i64 op') (.int .i64 ln') (.string s') (.int .i64 k') (.int .i64 n') (.string t') (.slice va' v'.len vc') (.slice sa' sub'.len sc') := by rw [hwx]; exact NdB.new _ _ _ _ _ _ _ _ _
      have hzr := hbr.out.size
      have HBX := Lib.hid (hbr.out.trans (below_le' hbx hzr))
      have hzx := HBX.out.size
      have HNX := Lib.hid (HN3.out.below' HBX.out)
      have HEX := Lib.hid (HE3.out.below HBX.out (Nat.le_of_lt HE3.out.room))
      obtain ⟨rg, rcap, hrv, hrg, hrc⟩ := roles_at (own_belowN HRO.out HBX.out) (i := i) (by omega)
      rw [hrlen] at hrv
      subst hrv
      have y0 := hnb.c0; have y1 := hnb.c1; have y2 := hnb.c2; have y3 := hnb.c3; have y4 := hnb.c4; have y5 := hnb.c5; have y6 := hnb.c6; have y7 := hnb.c7
      have p0 := HNX.out.c0
      have HY := Lib.hid hnb
      have HWX := Lib.hid hwx
      have HST := Lib.hid hwn.out
      rw [hd, walkN_cons] at HST
      have hrle : (subRole op sub.len role loop i).1 ≤ 8 := sub_role_le8 _ _ _ _ _
      have IHC := Lib.hid (ih (sub'.tot + 1) (by omega) op' ln' s' k' n' t' v' va' vc' sub' sa' sc' (subRole op sub.len role loop i).1 (subRole op sub.len role loop i).2 ea wx (by omega) (by omega) HEX.out hf1 hf2 hf3 hf4 hvc' hf6 hsc' hrle
        (hv'.keep (fun b hb => hbx.block b (by omega)) (fun b hb => by have := hbx.size; omega)) (hs'.keep (fun b hb => hbx.block b (by omega)) (fun b hb => by have := hbx.size; omega)))
      subst hA
      clear hbr hwn hbx hnb hv' hs' hd
      have HR1 := Lib.hid (sub_role_1 op sub.len role loop i)
      have HR2 := Lib.hid (sub_role_2 op sub.len role loop i)
      obtain ⟨r0, hr0⟩ : ∃ r0, r0 = (rolesP op sub.len).1.getD i 0 := ⟨_, rfl⟩
      rw [← hr0] at HR1 hrc
      clear hr0
      have hrc' := hrc
      have p0' := p0
      rw [hwx] at hrc' p0'
      clear hwx
      go_upto_block 2 with fail
      rw [← HWX.out]
      obtain ⟨rP, hrP⟩ : ∃ rP, rP = (subRole op sub.len role loop i).1 := ⟨_, rfl⟩
      obtain ⟨iP, hiP⟩ : ∃ iP, iP = (subRole op sub.len role loop i).2 := ⟨_, rfl⟩
      rw [← hrP] at HR1 HR2 IHC HST hrle
      rw [← hiP] at HR2 IHC HST
      clear hrP hiP
      go_cut [12] (fun c wz => c = .int .i64 (rP : Int) ∧ wz = wx)
      case first =>
        by_cases h5 : role = 5
        · have e5 : ((role : Int) == 5) = true := by rw [h5]; rfl
          have HF := Lib.hid (HR1.out.trans (if_pos h5))
          clear h5
          go_wp2_with fail
          go_meet
          exact ⟨by rw [HF.out]; rfl, rfl⟩
        have e5 : ((role : Int) == 5) = false := int_beq h5
        by_cases h2 : role = 2
        · have e2 : ((role : Int) == 2) = true := by rw [h2]; rfl
          have e4 : ((role : Int) == 4) = false := by rw [h2]; rfl
          by_cases h20 : op = 20
          · have e20 : (op == 20) = true := by rw [h20]; rfl
            by_cases h0 : i = 0
            · have e0 : ((i : Int) == 0) = true := by rw [h0]; rfl
              have HF := Lib.hid (show rP = 2 by rw [HR1.out, if_neg h5, if_pos ⟨h2, h20, h0⟩])
              clear h5 h2 h20 h0
              go_wp2_with fail
              go_meet
              exact ⟨by rw [HF.out]; rfl, rfl⟩
            · have e0 : ((i : Int) == 0) = false := int_beq h0
              have HF := Lib.hid (show rP = r0 by rw [HR1.out, if_neg h5, if_neg (by omega), if_neg (by omega)])
              clear h5 h2 h20 h0
              go_wp2_with fail
              go_meet
              exact ⟨by rw [HF.out], rfl⟩
          · have e20 := beq_no h20
            have HF := Lib.hid (show rP = r0 by rw [HR1.out, if_neg h5, if_neg (by omega), if_neg (by omega)])
            clear h5 h2 h20
            go_wp2_with fail
            go_meet
            exact ⟨by rw [HF.out], rfl⟩
        have e2 : ((role : Int) == 2) = false := int_beq h2
        by_cases h4 : role = 4
        · have e4 : ((role : Int) == 4) = true := by rw [h4]; rfl
          by_cases h26 : op = 26
          · have e26 : (op == 26) = true := by rw [h26]; rfl
            have HF := Lib.hid (show rP = 3 by rw [HR1.out, if_neg h5, if_neg (by omega), if_pos ⟨h4, h26⟩])
            clear h5 h2 h4 h26
            go_wp2_with fail
            go_meet
            exact ⟨by rw [HF.out]; rfl, rfl⟩
          · have e26 := beq_no h26
            have HF := Lib.hid (show rP = r0 by rw [HR1.out, if_neg h5, if_neg (by omega), if_neg (by omega)])
            clear h5 h2 h4 h26
            go_wp2_with fail
            go_meet
            exact ⟨by rw [HF.out], rfl⟩
        · have e4 : ((role : Int) == 4) = false := int_beq h4
          have HF := Lib.hid (show rP = r0 by rw [HR1.out, if_neg h5, if_neg (by omega), if_neg (by omega)])
          clear h5 h2 h4
          go_wp2_with fail
          go_meet
          exact ⟨by rw [HF.out], rfl⟩
      case rest =>
        obtain ⟨rfl, rfl⟩ := hcut
        go_upto_region 15 with fail
        obtain ⟨wy, hwy⟩ : ∃ wy, wy = wc := ⟨_, rfl⟩
        go_cut [13] (fun c wz => c = .bool iP ∧ wz = wy)
        case first =>
          have LC := Lib.hid (fun W => loops_c op W)
          have hd2 : loop = true ∧ op ≠ 48 ∨ (loop && op != 48) = false := by
            cases loop with
            | false => exact .inr rfl
            | true =>
              by_cases h : op = 48
              · exact .inr (by rw [h]; rfl)
              · exact .inl ⟨rfl, h⟩
          rcases hd2 with ⟨hl1, h48⟩ | hl0
          · subst hl1
            have e48 := bne_yes h48
            have HF := Lib.hid (show iP = true by rw [HR2.out, e48]; rfl)
            clear h48
            go_wp2_with fail
            go_meet
            exact ⟨by rw [HF.out], hwy.symm⟩
          · have HF := Lib.hid (show iP = (loopsP op && rP == 6) by rw [HR2.out, hl0]; rfl)
            have hl2 : loop = false ∨ (loop = true ∧ (op != 48) = false) := by
              cases loop with
              | false => exact .inl rfl
              | true => exact .inr ⟨rfl, by simpa using hl0⟩
            clear hl0
            cases hlp : loopsP op with
            | false =>
              rw [hlp] at HF LC
              clear hlp
              rcases hl2 with h | ⟨h, e48⟩
              · subst h
                go_wp2_with fail
                refine (LC.out _).mono ?_
                rintro e w9 ⟨rfl, rfl⟩
                go_wp2_with fail
                go_meet
                exact ⟨by rw [HF.out]; rfl, hwy.symm⟩
              · subst h
                go_wp2_with fail
                refine (LC.out _).mono ?_
                rintro e w9 ⟨rfl, rfl⟩
                go_wp2_with fail
                go_meet
                exact ⟨by rw [HF.out]; rfl, hwy.symm⟩
            | true =>
              have HF3 := Lib.hid (show iP = ((rP : Int) == 6) by rw [HF.out, hlp, show (6 : Int) = ((6 : Nat) : Int) from rfl, eq_nat]; rfl)
              rw [hlp] at LC
              clear hlp HF
              rcases hl2 with h | ⟨h, e48⟩
              · subst h
                go_wp2_with fail
                refine (LC.out _).mono ?_
                rintro e w9 ⟨rfl, rfl⟩
                go_wp2_with fail
                go_meet
                exact ⟨by rw [HF3.out], hwy.symm⟩
              · subst h
                go_wp2_with fail
                refine (LC.out _).mono ?_
                rintro e w9 ⟨rfl, rfl⟩
                go_wp2_with fail
                go_meet
                exact ⟨by rw [HF3.out], hwy.symm⟩
        case rest =>
          obtain ⟨rfl, rfl⟩ := hcut
          subst hwy
          obtain ⟨res, hres⟩ : ∃ res, res = walkNode op' ln' s' k' n' t' v' sub' rP iP := ⟨_, rfl⟩
          rw [← hres] at IHC HST
          clear hres
          go_wp2_with fail
          refine IHC.out.mono ?_
          rintro e w5 ⟨hb5, hpw⟩
          have HB5 := Lib.hid (HBX.out.trans (below_le' hb5 HBX.out.size))
          clear hb5
          cases res with
          | none =>
            subst hpw
            go_wp2_with fail
            go_roundg g
            case measure => omega
            case rel => exact ⟨i + 1, by go_num, by omega, HB5.out, HST.out⟩
          | some lc =>
            obtain ⟨l, c⟩ := lc
            obtain ⟨A, hA1, hA2, rfl⟩ := hpw
            go_wp2_with fail
            go_ret
            rw [HRES.out, ← HST.out]
            exact ⟨HB3.out.trans (below_le' HB5.out HB3.out.size), A, by have := HB3.out.size; have := HBX.out.size; omega, hA2, rfl⟩
    · obtain rfl : i = sub.len := by omega
      have HN9 := Lib.hid hwn.out
      rw [NL.drop_len] at HN9
      have HBR := Lib.hid hbr.out
      clear hwn hbr
      go_wp2_with fail
      go_ret
      rw [HRES.out, ← HN9.out]
      exact ⟨HB3.out.trans (below_le' HBR.out HB3.out.size), rfl⟩

theorem walk_tc (N : Nat) : WalkTC N := by
  induction N using Nat.strongRecOn with
  | _ N ih => exact walk_tstep N ih
end Go.Proofs.YtggngahmafbihaaGreatDoor
namespace Go.Proofs.YtggngahmafbihaaGreatDoor
open Go.RowKit Go.Lib
set_option linter.unusedVariables false

/-- What a call of valid leaves: an error's number, or where a node is amiss. -/
def PV (w : World) (ea : Nat → Addr) (l : NL) (role : Nat) (e : Ending) (w' : World) : Prop :=
  if 4096 < l.tot then Below w.heap.size w w' ∧ e = .returned (errV ea 104)
  else if 40 < l.deep then Below w.heap.size w w' ∧ e = .returned (errV ea 112)
  else PW w ea (walkN l (fun _ => (role, false)) 0) e w'
theorem PV.right {w w' : World} {ea : Nat → Addr} {l : NL} {role : Nat} {e : Ending} (h : PV w ea l role e w') (hr : rightN l role = true) : Below w.heap.size w w' ∧ e = .returned .nilIface := by
  simp only [rightN, Bool.and_eq_true, decide_eq_true_eq, Option.isNone_iff_eq_none] at hr
  unfold PV at h
  rw [if_neg (by omega), if_neg (by omega), hr.2] at h
  exact h
/-- Without an error the nodes are right; with one they are not. -/
theorem PV.wrong {w w' : World} {ea : Nat → Addr} {l : NL} {role : Nat} {e : Ending} (h : PV w ea l role e w') (hr : rightN l role = false) : Below w.heap.size w w' ∧ ∃ t a, e = .returned (.iface t (.pointer (some a))) := by
  unfold PV at h
  by_cases h1 : 4096 < l.tot
  · rw [if_pos h1] at h; exact ⟨h.1, _, _, h.2⟩
  rw [if_neg h1] at h
  by_cases h2 : 40 < l.deep
  · rw [if_pos h2] at h; exact ⟨h.1, _, _, h.2⟩
  rw [if_neg h2] at h
  cases hw : walkN l (fun _ => (role, false)) 0 with
  | none =>
    have : rightN l role = true := by
      simp only [rightN, Bool.and_eq_true, decide_eq_true_eq, Option.isNone_iff_eq_none]
      exact ⟨⟨by omega, by omega⟩, hw⟩
    rw [this] at hr; cases hr
  | some lc =>
    rw [hw] at h
    obtain ⟨hb, A, _, _, he⟩ := h
    exact ⟨hb, _, _, he⟩

set_option maxRecDepth 100000 in
set_option maxHeartbeats 2000000 in
theorem valid_tc (l : NL) (A : Option Addr) (c role : Nat) (ea : Nat → Addr) (w : World) (he : ErrsAt w ea) (hfit : l.fit) (hlen : l.len ≤ 140737488351232) (hc : l.len ≤ c) (hr : role ≤ 8) (hrep : RpN w (fun b => b < w.heap.size) l A) :
    Calls Tryz.prog 61 #[.slice A l.len c, .int .i64 (role : Int)] w (PV w ea l role) := by
  have hroom := he.room
  have CC := Lib.hid (count_c (l.tot + 1) l A c 0 w (by omega) hfit hlen hc hrep (by decide) (by decide))
  have hce := countN_eq l 0 (by decide) (by decide)
  have HRP := Lib.hid hrep
  have HE := Lib.hid he
  have eM := he.many
  clear hrep he
  by_cases h1 : 4096 < l.tot
  · have HP := Lib.hid (fun e w' => show PV w ea l role e w' = (Below w.heap.size w w' ∧ e = .returned (errV ea 104)) by unfold PV; rw [if_pos h1])
    rw [hce, if_neg (by omega)] at CC
    clear hce h1
    go_enter Tryz.func61, Tryz.ntmps61
    go_wp2_with fail
    refine CC.out.mono ?_
    rintro e w2 ⟨rfl, hb2⟩
    have e2 := (HE.out.below hb2 (Nat.le_of_lt hroom)).many
    have HB2 := Lib.hid hb2
    clear hb2 eM
    go_wp2_with fail
    go_ret
    rw [HP.out]
    exact ⟨HB2.out, rfl⟩
  rw [hce, if_pos (by omega)] at CC
  have q1 : ¬ ((4096 : Int) < 0 + (l.tot : Int)) := by omega
  have q1' : ¬ ((4096 : Int) < (l.tot : Int)) := by omega
  have h1' : l.tot ≤ 4096 := by omega
  have DC := Lib.hid (fun W (hW : Below w.heap.size w W) => deep_c (l.tot + 1) l A c W (by omega) h1' hfit hlen hc (HRP.out.keep (fun b hb => hW.block b hb) (fun b hb => Nat.lt_of_lt_of_le hb hW.size)))
  by_cases h2 : 40 < l.deep
  · have HP := Lib.hid (fun e w' => show PV w ea l role e w' = (Below w.heap.size w w' ∧ e = .returned (errV ea 112)) by unfold PV; rw [if_neg h1, if_pos h2])
    have q2 : (40 : Int) < (l.deep : Int) := by omega
    clear hce h1 h2 h1'
    go_enter Tryz.func61, Tryz.ntmps61
    go_wp2_with fail
    refine CC.out.mono ?_
    rintro e w2 ⟨rfl, hb2⟩
    have HB2 := Lib.hid hb2
    clear hb2 eM
    go_wp2_with fail
    refine (DC.out w2 HB2.out).mono ?_
    rintro e w3 ⟨rfl, hb3⟩
    have HB3 := Lib.hid (HB2.out.trans (below_le' hb3 HB2.out.size))
    have e3 := (HE.out.below HB3.out (Nat.le_of_lt hroom)).deep
    clear hb3
    go_wp2_with fail
    go_ret
    rw [HP.out]
    exact ⟨HB3.out, rfl⟩
  have HP := Lib.hid (fun e w' => show PV w ea l role e w' = PW w ea (walkN l (fun _ => (role, false)) 0) e w' by unfold PV; rw [if_neg h1, if_neg h2])
  have q2 : ¬ ((40 : Int) < (l.deep : Int)) := by omega
  clear hce h1 h2
  go_enter Tryz.func61, Tryz.ntmps61
  go_wp2_with fail
  refine CC.out.mono ?_
  rintro e w2 ⟨rfl, hb2⟩
  have HB2 := Lib.hid hb2
  clear hb2 eM
  go_wp2_with fail
  refine (DC.out w2 HB2.out).mono ?_
  rintro e w3 ⟨rfl, hb3⟩
  have HB3 := Lib.hid (HB2.out.trans (below_le' hb3 HB2.out.size))
  have HS3 := Lib.hid (HRP.out.keep (w' := w3) (fun b hb => HB3.out.block b hb) (fun b hb => Nat.lt_of_lt_of_le hb HB3.out.size))
  have HE3 := Lib.hid (HE.out.below HB3.out (Nat.le_of_lt hroom))
  clear hb3
  go_wp2_with fail
  go_loopg [18] l.len (fun kk v wr => ∃ (i : Nat), v = .int .i64 i ∧ i + kk = l.len ∧ Hid (Below w3.heap.size w3 wr) ∧ Hid (walkN (l.drop i) (fun _ => (role, false)) i = walkN l (fun _ => (role, false)) 0))
  case atStart => exact ⟨0, rfl, by omega, Below.refl _ _, by show walkN (l.drop 0) _ _ = _; rw [NL.drop]⟩
  case round =>
    obtain ⟨i, rfl, hik, hbr, hwn⟩ := hrel
    by_cases hi : i < l.len
    · obtain ⟨g, rfl⟩ : ∃ g, gk = g + 1 := ⟨gk - 1, by omega⟩
      obtain ⟨b, o, op', ln', s', k', n', t', v', sub', va', vc', sa', sc', hA, hSb, hd, c0, c1, c2, c3, c4, c5, c6, hvc', hv', c7, hsc', hs'⟩ := (HS3.out.below hbr.out (fun b hb => hb)).nth hi
      have hfd := NL.fit_drop i l hfit
      have htd := NL.tot_drop i l
      rw [hd] at hfd htd
      simp only [NL.tot] at htd
      obtain ⟨hf1, hf2, hf3, hf4, hf5, hf6, -⟩ := hfd
      obtain ⟨wx, hwx⟩ : ∃ wx, wx = wr.alloc (.cells #[.int .i64 op', .int .i64 ln', .string s', .int .i64 k', .int .i64 n', .string t', .slice va' v'.len vc', .slice sa' sub'.len sc'] 31) := ⟨_, rfl⟩
      have hbx : Below wr.heap.size wr wx := by rw [hwx]; exact (Below.refl _ _).alloc (Nat.le_refl _) _
      have hnb : NdB wx wr.heap.size (.int .i64 op') (.int .i64 ln') (.string s') (.int .i64 k') (.int .i64 n') (.string t') (.slice va' v'.len vc') (.slice sa' sub'.len sc') := by rw [hwx]; exact NdB.new _ _ _ _ _ _ _ _ _
      have hzr := hbr.out.size
      have HBX := Lib.hid (hbr.out.trans (below_le' hbx hzr))
      have hzx := HBX.out.size
      have HEX := Lib.hid (HE3.out.below HBX.out (Nat.le_of_lt HE3.out.room))
      have y0 := hnb.c0; have y1 := hnb.c1; have y2 := hnb.c2; have y3 := hnb.c3; have y4 := hnb.c4; have y5 := hnb.c5; have y6 := hnb.c6; have y7 := hnb.c7
      rw [hwx] at y0 y1 y2 y3 y4 y5 y6 y7
      have HWX := Lib.hid hwx
      have hst := hwn.out
      rw [hd, walkN_cons] at hst
      dsimp only at hst
      have IHC := Lib.hid (walk_tc (sub'.tot + 1) op' ln' s' k' n' t' v' va' vc' sub' sa' sc' role false ea wx (by omega) (by omega) HEX.out hf1 hf2 hf3 hf4 hvc' hf6 hsc' hr
        (hv'.keep (fun b hb => hbx.block b (by omega)) (fun b hb => by have := hbx.size; omega)) (hs'.keep (fun b hb => hbx.block b (by omega)) (fun b hb => by have := hbx.size; omega)))
      subst hA
      clear hbr hwn hbx hnb hv' hs' hd hwx
      obtain ⟨res, hres⟩ : ∃ res, res = walkNode op' ln' s' k' n' t' v' sub' role false := ⟨_, rfl⟩
      rw [← hres] at IHC hst
      have HST2 := Lib.hid hst
      clear hres hst
      go_wp2_with fail
      rw [← HWX.out]
      refine IHC.out.mono ?_
      rintro e w5 ⟨hb5, hpw⟩
      have HB5 := Lib.hid (HBX.out.trans (below_le' hb5 HBX.out.size))
      clear hb5
      cases res with
      | none =>
        subst hpw
        go_wp2_with fail
        go_roundg g
        case measure => omega
        case rel => exact ⟨i + 1, by go_num, by omega, HB5.out, HST2.out⟩
      | some lc =>
        obtain ⟨ll, cc⟩ := lc
        obtain ⟨A, hA1, hA2, rfl⟩ := hpw
        go_wp2_with fail
        go_ret
        rw [HP.out, ← HST2.out]
        exact ⟨HB3.out.trans (below_le' HB5.out HB3.out.size), A, by have := HB3.out.size; have := HBX.out.size; omega, hA2, rfl⟩
    · obtain rfl : i = l.len := by omega
      have HN9 := Lib.hid hwn.out
      rw [NL.drop_len] at HN9
      have HBR := Lib.hid hbr.out
      clear hwn hbr
      go_wp2_with fail
      go_ret
      rw [HP.out, ← HN9.out]
      exact ⟨HB3.out.trans (below_le' HBR.out HB3.out.size), rfl⟩

/-- One node, as a list. -/
def node1 (op ln : Int) (s : ByteArray) (k n : Int) (t : ByteArray) (v : VL) (sub : NL) : NL := .cons op ln s k n t v sub .nil
theorem PV.below {w wa w' : World} {ea : Nat → Addr} {l : NL} {role : Nat} {e : Ending} (h : PV wa ea l role e w') (hb : Below w.heap.size w wa) : PV w ea l role e w' := by
  have hz := hb.size
  unfold PV at h ⊢
  split
  · rename_i h1; rw [if_pos h1] at h; exact ⟨hb.trans (below_le' h.1 hz), h.2⟩
  · rename_i h1
    rw [if_neg h1] at h
    split
    · rename_i h2; rw [if_pos h2] at h; exact ⟨hb.trans (below_le' h.1 hz), h.2⟩
    · rename_i h2
      rw [if_neg h2] at h
      cases hw : walkN l (fun _ => (role, false)) 0 with
      | none => rw [hw] at h; exact ⟨hb.trans (below_le' h.1 hz), h.2⟩
      | some lc =>
        rw [hw] at h
        obtain ⟨h1, A, h2, h3⟩ := h
        exact ⟨hb.trans (below_le' h1 hz), A, by omega, h3⟩

set_option maxHeartbeats 1000000 in
theorem expr_tc (op ln : Int) (s : ByteArray) (k n : Int) (t : ByteArray) (v : VL) (va : Option Addr) (vc : Nat) (sub : NL) (sa : Option Addr) (sc : Nat) (ea : Nat → Addr) (w : World) (he : ErrsAt w ea)
    (hfit : (node1 op ln s k n t v sub).fit) (hvc : v.len ≤ vc) (hsc : sub.len ≤ sc) (hv : RpL w (fun b => b < w.heap.size) v va) (hsub : RpN w (fun b => b < w.heap.size) sub sa) :
    Calls Tryz.prog 28 #[.agg #[.int .i64 op, .int .i64 ln, .string s, .int .i64 k, .int .i64 n, .string t, .slice va v.len vc, .slice sa sub.len sc]] w (PV w ea (node1 op ln s k n t v sub) 0) := by
  have hroom := he.room
  obtain ⟨wa, hwa⟩ : ∃ wa, wa = w.alloc (.cells #[.int .i64 op, .int .i64 ln, .string s, .int .i64 k, .int .i64 n, .string t, .slice va v.len vc, .slice sa sub.len sc] 31) := ⟨_, rfl⟩
  have hb : Below w.heap.size w wa := by rw [hwa]; exact (Below.refl _ _).alloc (Nat.le_refl _) _
  have hN1 : NdB wa w.heap.size (.int .i64 op) (.int .i64 ln) (.string s) (.int .i64 k) (.int .i64 n) (.string t) (.slice va v.len vc) (.slice sa sub.len sc) := by rw [hwa]; exact NdB.new _ _ _ _ _ _ _ _ _
  have v0 := hN1.c0; have v1 := hN1.c1; have v2 := hN1.c2; have v3 := hN1.c3; have v4 := hN1.c4; have v5 := hN1.c5; have v6 := hN1.c6; have v7 := hN1.c7
  have hz : wa.heap.size = w.heap.size + 1 := by rw [hwa]; simp
  obtain ⟨wb, hwb⟩ : ∃ wb, wb = wa.alloc (.cells #[.int .i64 op, .int .i64 ln, .string s, .int .i64 k, .int .i64 n, .string t, .slice va v.len vc, .slice sa sub.len sc] 31) := ⟨_, rfl⟩
  have hbb : Below wa.heap.size wa wb := by rw [hwb]; exact (Below.refl _ _).alloc (Nat.le_refl _) _
  have hN2 : NdB wb (w.heap.size + 1) (.int .i64 op) (.int .i64 ln) (.string s) (.int .i64 k) (.int .i64 n) (.string t) (.slice va v.len vc) (.slice sa sub.len sc) := by rw [hwb, ← hz]; exact NdB.new _ _ _ _ _ _ _ _ _
  have hbw := hb.trans (below_le' hbb hb.size)
  have hzb : wb.heap.size = w.heap.size + 2 := by rw [hwb]; simp [hz]
  have hrp : RpN wb (fun b => b < wb.heap.size) (node1 op ln s k n t v sub) (some ⟨w.heap.size + 1, 0, none⟩) :=
    ⟨w.heap.size + 1, 0, va, vc, sa, sc, rfl, by omega, hN2.c0, hN2.c1, hN2.c2, hN2.c3, hN2.c4, hN2.c5, hN2.c6, hvc, hv.keep (fun b hlt => hbw.block b hlt) (fun b hlt => by omega), hN2.c7, hsc, hsub.keep (fun b hlt => hbw.block b hlt) (fun b hlt => by omega), trivial⟩
  have VC := Lib.hid (valid_tc (node1 op ln s k n t v sub) (some ⟨w.heap.size + 1, 0, none⟩) 1 0 ea wb (he.below hbw (Nat.le_of_lt hroom)) hfit (show 1 ≤ 140737488351232 by decide) (Nat.le_refl 1) (by decide) hrp)
  have HBW := Lib.hid hbw
  have HWA := Lib.hid hwa
  have HWB := Lib.hid hwb
  rw [hwa] at v0 v1 v2 v3 v4 v5 v6 v7
  clear hb hN1 hwa hbb hN2 hwb hbw hrp he hv hsub hz
  go_enter Tryz.func28, Tryz.ntmps28
  go_wp2_with fail
  rw [← HWA.out, ← HWB.out]
  refine VC.out.mono ?_
  intro e w2 hp
  have HP := Lib.hid (hp.below HBW.out)
  by_cases hr : rightN (node1 op ln s k n t v sub) 0 = true
  · obtain ⟨hb, rfl⟩ := hp.right hr
    clear hp hb
    go_wp2_with fail
    go_ret
    exact HP.out
  · obtain ⟨hb, t, a, rfl⟩ := hp.wrong (by simpa using hr)
    clear hp hb
    go_wp2_with fail
    go_ret
    exact HP.out
end Go.Proofs.YtggngahmafbihaaGreatDoor
namespace Go.Proofs.YtggngahmafbihaaGreatDoor
open Go.RowKit Go.Lib
set_option linter.unusedVariables false

/-- What is read of a whole text's words: the node, and where the parser stands then. -/
def exprS (l : List Tok) (p : PS) : PS := if p.pos < l.length then failS l p else p
/-- What parse.Expr answers of a text that is none. -/
def PxBad (ea : Nat → Addr) (x : Option Int) (w : World) (e : Ending) (w' : World) : Prop :=
  ∃ ev, e = .returned (.tuple #[.agg #[.int .i64 0, .int .i64 0, .string ⟨#[]⟩, .int .i64 0, .int .i64 0, .string ⟨#[]⟩, .slice none 0 0, .slice none 0 0], ev]) ∧ Below w.heap.size w w' ∧ match x with
    | none => ev = .iface 270 (.pointer (some (ea 112)))
    | some line => ∃ A, w.heap.size ≤ A ∧ ev = .iface 70 (.pointer (some ⟨A, 0, none⟩)) ∧ w'.heap[A]? = some (.cells #[.int .i64 line, .iface 270 (.pointer (some (ea 111)))] 73 (0, 0))
/-- .. of one that is. -/
def PxGood (n : NL) (w : World) (e : Ending) (w' : World) : Prop :=
  ∃ (op ln : Int) (s : ByteArray) (k m : Int) (t : ByteArray) (va : Option Addr) (vc : Nat) (V : Value) (sub : NL), n = nd op ln s k m t sub ∧ e = .returned (.tuple #[.agg (nd8 op ln s k m t va vc V), .nilIface]) ∧ OwnN w' (fun k => w.heap.size < k) V sub ∧ Below w.heap.size w w'

theorem ret_cell8_tmp {fn : Func} {p u : Tmp} {Q : Ending → World → Prop} {act : Act} {w : World} (h : fn.results = #[.cell p 31, .tmp u]) (g : Nat) (hp : act.tmps.getD p undef = .pointer (some ⟨g, 0, none⟩)) (hd : act.defers = [])
    {a b c d e f k i : Value} (hS : NdB w g a b c d e f k i) (hQ : Q (.returned (.tuple #[.agg #[a, b, c, d, e, f, k, i], act.tmps.getD u undef])) w) : bodyPost Tryz.prog fn Q .ret act w := by
  refine bodyPost_ret (v := .tuple #[.agg #[a, b, c, d, e, f, k, i], act.tmps.getD u undef]) ?_ hd hQ
  have c0 := hS.c0; have c1 := hS.c1; have c2 := hS.c2; have c3 := hS.c3; have c4 := hS.c4; have c5 := hS.c5; have c6 := hS.c6; have c7 := hS.c7
  have hp' : (act.tmps[p]?).getD undef = .pointer (some ⟨g, 0, none⟩) := by simpa using hp
  simp [results, h, hp', go_sem, c0, c1, c2, c3, c4, c5, c6, c7]
theorem mvd_below {a w w' : World} {X : PCtx} {p : PS} (h : Mvd w w' X p) (hP : a.heap.size ≤ X.P) (hb : Below a.heap.size a w) : Below a.heap.size a w' :=
  hb.trans ⟨h.grown.os, h.grown.tape, h.grown.output, h.grown.size, fun k hk => h.grown.block k (by have := hb.size; omega) (fun e => by injection e with e; omega)⟩
theorem parser_new {w1 : World} {g cap : Nat} {l : List Tok} {ea : Nat → Addr} (he : ErrsAt w1 ea) (hg : g < w1.heap.size) (hl : l.length ≤ 1000000) (ht : ∀ j t, l[j]? = some t → ∃ sa sc, TkIn w1 g (7 * j) t sa sc) :
    PSt (w1.alloc (.cells #[.slice (some ⟨g, 0, none⟩) l.length cap, .int .i64 0, .int .i64 0, .nilIface] 65)) ⟨w1.heap.size, some ⟨g, 0, none⟩, cap, l, ea⟩ ⟨0, 0, none⟩ := by
  have hb : Below w1.heap.size w1 (w1.alloc (.cells #[.slice (some ⟨g, 0, none⟩) l.length cap, .int .i64 0, .int .i64 0, .nilIface] 65)) := (Below.refl _ _).alloc (Nat.le_refl _) _
  refine ⟨⟨.nilIface, heap_alloc_new w1 _, rfl⟩, fun j t hj => ?_, he.below hb (Nat.le_of_lt he.room), he.room, Nat.zero_le _, hl⟩
  obtain ⟨sa, sc, h⟩ := ht j t hj
  exact ⟨g, sa, sc, rfl, hg, h.below hb hg⟩

set_option maxRecDepth 100000 in
set_option maxHeartbeats 4000000 in
theorem pexpr_good (s : ByteArray) (l : List Tok) (F : Nat) (n : NL) (p1 : PS) (ea : Nat → Addr) (w : World) (he : LxEnv w ea) (hsz : s.size ≤ 32768) (hall : allW s = .inr l) (hl0 : 0 < l.length) (hl : l.length ≤ 1000000) (hF : F ≤ 1000000000) (hr : prsR l F .expr ⟨0, 0, none⟩ = some (n, p1)) (hE0 : (exprS l p1).err = none) (hright : rightN n 0 = true) (hfit : n.fit) :
    Calls Tryz.prog 11 #[.string s] w (PxGood n w) := by
  obtain ⟨wa, hwa⟩ : ∃ wa, wa = w.alloc (.cells #[.int .i64 0, .int .i64 0, .string ⟨#[]⟩, .int .i64 0, .int .i64 0, .string ⟨#[]⟩, .slice none 0 0, .slice none 0 0] 31) := ⟨_, rfl⟩
  have hba : Below w.heap.size w wa := by rw [hwa]; exact (Below.refl _ _).alloc (Nat.le_refl _) _
  have hsa : wa.heap.size = w.heap.size + 1 := by rw [hwa]; simp
  have HZ := Lib.hid (show zN wa w.heap.size by rw [hwa]; exact zN.new w)
  have hea := he.below hba (Nat.le_of_lt he.err.room)
  have AC := Lib.hid (all_some ea wa hea hsz hall hl0)
  have HEA := Lib.hid hea
  have HBA := Lib.hid hba
  have HWA := Lib.hid hwa
  have HPR := Lib.hid hr
  have HLL := Lib.hid hl
  have hpos0 : ¬ p1.pos < l.length := by
    intro h
    unfold exprS at hE0
    rw [if_pos h] at hE0
    cases he1 : p1.err with
    | none => rw [failS_none he1] at hE0; cases hE0
    | some x => rw [failS_some he1, he1] at hE0; cases hE0
  have hE1 : p1.err = none := by
    unfold exprS at hE0
    rw [if_neg hpos0] at hE0; exact hE0
  have HE1 := Lib.hid hE1
  have HRI := Lib.hid hright
  have HFI := Lib.hid hfit
  have hlt : ¬ (p1.pos : Int) < (l.length : Int) := by omega
  clear hE0 hE1 hright hfit
  clear hba hwa hea he hall hr
  go_enter Tryz.func11, Tryz.ntmps11
  go_wp2_with fail
  rw [← HWA.out]
  refine AC.out.mono ?_
  rintro e w1 ⟨g, cap, rfl, hg1, hg2, hb1, hcap, ht⟩
  have hz1 := hb1.size
  have HB1 := Lib.hid (HBA.out.trans (below_le' hb1 HBA.out.size))
  have HZ1 := Lib.hid (HZ.out.below' hb1)
  have hst := parser_new (cap := cap) (ea := ea) ((HEA.out.below hb1 (by have := HEA.out.err.room; omega)).err) hg2 hl ht
  obtain ⟨X, hX⟩ : ∃ X : PCtx, X = ⟨w1.heap.size, some ⟨g, 0, none⟩, cap, l, ea⟩ := ⟨_, rfl⟩
  have hXP : X.P = w1.heap.size := by rw [hX]
  have hXl : X.l = l := by rw [hX]
  have hXe : X.ea = ea := by rw [hX]
  rw [← hX] at hst
  obtain ⟨w2, hw2⟩ : ∃ w2, w2 = w1.alloc (.cells #[.slice (some ⟨g, 0, none⟩) l.length cap, .int .i64 0, .int .i64 0, .nilIface] 65) := ⟨_, rfl⟩
  rw [← hw2] at hst
  have hb2 : Below w1.heap.size w1 w2 := by rw [hw2]; exact (Below.refl _ _).alloc (Nat.le_refl _) _
  have hs2 : w2.heap.size = w1.heap.size + 1 := by rw [hw2]; simp
  have HZ2 := Lib.hid (HZ1.out.below' hb2)
  have HB2 := Lib.hid (HB1.out.trans (below_le' hb2 HB1.out.size))
  have EXC := Lib.hid (expr_all X F hF w2 ⟨0, 0, none⟩ (n, p1) hst (by decide) (by decide) (by rw [hXl]; exact HPR.out))
  rw [hXP] at EXC
  have HST := Lib.hid hst
  have HW2 := Lib.hid hw2
  have HXl := Lib.hid hXl
  have HXe := Lib.hid hXe
  have HXP := Lib.hid hXP
  clear hst hw2 hb1 hb2 ht hcap hX hXl hXe hXP
  go_wp2_with fail
  rw [← HW2.out]
  refine EXC.out.mono ?_
  rintro e w3 ⟨op, ln, t, k, m, u, va, vc, V, sub, hn, rfl, hm, ho, hk, hln, hd⟩
  obtain ⟨AV, CV, rfl⟩ := ho.form
  have hn' : n = nd op ln t k m u sub := hn
  unfold nd8
  subst hn'
  have hXP := HXP.out
  have hz3 := hm.grown.size
  have hPw : w.heap.size < X.P := by omega
  have HZ3 := Lib.hid (show zN w3 w.heap.size from (hm.grown.block _ (by have := HZ2.out.lt; omega) (fun e => by injection e with e; omega)).trans HZ2.out)
  have HB3 := Lib.hid (mvd_below hm (Nat.le_of_lt hPw) HB2.out)
  obtain ⟨w4, hw4⟩ : ∃ w4, w4 = w3.alloc (.cells #[.int .i64 op, .int .i64 ln, .string t, .int .i64 k, .int .i64 m, .string u, .slice va 0 vc, .slice AV sub.len CV] 31) := ⟨_, rfl⟩
  have hb4 : Below w3.heap.size w3 w4 := by rw [hw4]; exact (Below.refl _ _).alloc (Nat.le_refl _) _
  have HM4 := Lib.hid (hm.below hb4)
  have HZ4 := Lib.hid (show zN w4 w.heap.size from HZ3.out.below' hb4)
  have HB4 := Lib.hid (HB3.out.trans (below_le' hb4 HB3.out.size))
  have HN4 := Lib.hid (show NdB w4 w3.heap.size (.int .i64 op) (.int .i64 ln) (.string t) (.int .i64 k) (.int .i64 m) (.string u) (.slice va 0 vc) (.slice AV sub.len CV) by rw [hw4]; exact NdB.new _ _ _ _ _ _ _ _ _)
  have hs4 := hb4.size
  have HO4 := Lib.hid (ho.below hb4)
  have HW4 := Lib.hid hw4
  have HKK := Lib.hid hk
  have HHD := Lib.hid hd
  clear hn hm ho hk hd hw4 hb4
  obtain ⟨ev, hP, hE⟩ := HM4.out.st.at_
  have c1 := hP.c1; have c3 := hP.c3
  rw [hXP] at c1 c3
  have c3w := c3
  rw [HW4.out] at c1 c3
  rw [HE1.out] at hE
  obtain rfl : ev = .nilIface := hE
  have he4 := HM4.out.st.er
  rw [HXe.out] at he4
  obtain ⟨A9, c9, hV9, hc9, _, hr9⟩ := HO4.out.kids
  simp only [Value.slice.injEq, true_and] at hV9
  obtain ⟨e1, e2⟩ := hV9
  subst e1
  subst e2
  have TC := Lib.hid (expr_tc op ln t k m u .nil va vc sub AV CV ea w4 he4 HFI.out (Nat.zero_le _) hc9 trivial (hr9.wide (fun b hb => hb.2)))
  have q0 := HN4.out.c0; have q1 := HN4.out.c1; have q2 := HN4.out.c2; have q3 := HN4.out.c3; have q4 := HN4.out.c4; have q5 := HN4.out.c5; have q6 := HN4.out.c6; have q7 := HN4.out.c7
  clear hP he4 hr9
  go_wp2_with fail
  rw [← HW4.out]
  refine TC.out.mono ?_
  intro e w5 hpv
  obtain ⟨hb5, rfl⟩ := hpv.right HRI.out
  have HB5 := Lib.hid (HB4.out.trans (below_le' hb5 HB4.out.size))
  have HZ5 := Lib.hid (show zN w5 w.heap.size from HZ4.out.below' hb5)
  have HN5 := Lib.hid (HN4.out.below' hb5)
  have HO5 := Lib.hid (HO4.out.below hb5)
  have hz5 := hb5.size
  clear hb5 hpv q0 q1 q2 q3 q4 q5 q6 q7 c1 c3
  have q0 := HN5.out.c0; have q1 := HN5.out.c1; have q2 := HN5.out.c2; have q3 := HN5.out.c3; have q4 := HN5.out.c4; have q5 := HN5.out.c5; have q6 := HN5.out.c6; have q7 := HN5.out.c7
  have g0 := HZ5.out.c0; have g1 := HZ5.out.c1; have g2 := HZ5.out.c2; have g3 := HZ5.out.c3; have g4 := HZ5.out.c4; have g5 := HZ5.out.c5; have g6 := HZ5.out.c6; have g7 := HZ5.out.c7
  have j0 := HZ5.out.fr 0; have j1 := HZ5.out.fr 1; have j2 := HZ5.out.fr 2; have j3 := HZ5.out.fr 3; have j4 := HZ5.out.fr 4; have j5 := HZ5.out.fr 5; have j6 := HZ5.out.fr 6; have j7 := HZ5.out.fr 7
  go_wp2_with fail
  refine ret_cell8_tmp Tryz.results11 w.heap.size rfl rfl (HZ5.out.set8 _ _ _ _ _ _ _ _) ?_
  have hkb := only_set8 w5 w.heap.size (.int .i64 op) (.int .i64 ln) (.string t) (.int .i64 k) (.int .i64 m) (.string u) (.slice va 0 vc) (.slice AV sub.len CV)
  refine ⟨op, ln, t, k, m, u, va, vc, _, sub, rfl, rfl, (HO5.out.keep (fun b hb hb2 => hkb.block b hb2 (fun e => by injection e with e; have : w2.heap.size ≤ b := hb; have := HB2.out.size; omega)) hkb.size).wide (fun b hb _ => by have : w2.heap.size ≤ b := hb; omega), below_st8 HB5.out (Nat.le_refl _) _ _ _ _ _ _ _ _⟩
end Go.Proofs.YtggngahmafbihaaGreatDoor
namespace Go.Proofs.YtggngahmafbihaaGreatDoor
open Go.RowKit Go.Lib
set_option linter.unusedVariables false
theorem drew_heap (w : World) (k : Nat) : w.drew.heap[k]? = w.heap[k]? := rfl
theorem ndb_drew {w : World} {g : Nat} {a b c d e f h i : Value} (x : NdB w g a b c d e f h i) : NdB w.drew g a b c d e f h i := x

set_option maxRecDepth 100000 in
set_option maxHeartbeats 4000000 in
theorem pexpr_bad (s : ByteArray) (l : List Tok) (F : Nat) (n : NL) (p1 : PS) (ea : Nat → Addr) (w : World) (he : LxEnv w ea) (hsz : s.size ≤ 32768) (hall : allW s = .inr l) (hl0 : 0 < l.length) (hl : l.length ≤ 1000000) (hF : F ≤ 1000000000) (hr : prsR l F .expr ⟨0, 0, none⟩ = some (n, p1)) (x : Option Int) (hx : (exprS l p1).err = some x) :
    Calls Tryz.prog 11 #[.string s] w (PxBad ea x w) := by
  obtain ⟨wa, hwa⟩ : ∃ wa, wa = w.alloc (.cells #[.int .i64 0, .int .i64 0, .string ⟨#[]⟩, .int .i64 0, .int .i64 0, .string ⟨#[]⟩, .slice none 0 0, .slice none 0 0] 31) := ⟨_, rfl⟩
  have hba : Below w.heap.size w wa := by rw [hwa]; exact (Below.refl _ _).alloc (Nat.le_refl _) _
  have hsa : wa.heap.size = w.heap.size + 1 := by rw [hwa]; simp
  have HZ := Lib.hid (show zN wa w.heap.size by rw [hwa]; exact zN.new w)
  have hea := he.below hba (Nat.le_of_lt he.err.room)
  have AC := Lib.hid (all_some ea wa hea hsz hall hl0)
  have HEA := Lib.hid hea
  have HBA := Lib.hid hba
  have HWA := Lib.hid hwa
  have HPR := Lib.hid hr
  have HLL := Lib.hid hl
  have HX0 := Lib.hid hx
  clear hx
  clear hba hwa hea he hall hr
  go_enter Tryz.func11, Tryz.ntmps11
  go_wp2_with fail
  rw [← HWA.out]
  refine AC.out.mono ?_
  rintro e w1 ⟨g, cap, rfl, hg1, hg2, hb1, hcap, ht⟩
  have hz1 := hb1.size
  have HB1 := Lib.hid (HBA.out.trans (below_le' hb1 HBA.out.size))
  have HZ1 := Lib.hid (HZ.out.below' hb1)
  have hst := parser_new (cap := cap) (ea := ea) ((HEA.out.below hb1 (by have := HEA.out.err.room; omega)).err) hg2 hl ht
  obtain ⟨X, hX⟩ : ∃ X : PCtx, X = ⟨w1.heap.size, some ⟨g, 0, none⟩, cap, l, ea⟩ := ⟨_, rfl⟩
  have hXP : X.P = w1.heap.size := by rw [hX]
  have hXl : X.l = l := by rw [hX]
  have hXe : X.ea = ea := by rw [hX]
  rw [← hX] at hst
  obtain ⟨w2, hw2⟩ : ∃ w2, w2 = w1.alloc (.cells #[.slice (some ⟨g, 0, none⟩) l.length cap, .int .i64 0, .int .i64 0, .nilIface] 65) := ⟨_, rfl⟩
  rw [← hw2] at hst
  have hb2 : Below w1.heap.size w1 w2 := by rw [hw2]; exact (Below.refl _ _).alloc (Nat.le_refl _) _
  have hs2 : w2.heap.size = w1.heap.size + 1 := by rw [hw2]; simp
  have HZ2 := Lib.hid (HZ1.out.below' hb2)
  have HB2 := Lib.hid (HB1.out.trans (below_le' hb2 HB1.out.size))
  have EXC := Lib.hid (expr_all X F hF w2 ⟨0, 0, none⟩ (n, p1) hst (by decide) (by decide) (by rw [hXl]; exact HPR.out))
  rw [hXP] at EXC
  have HST := Lib.hid hst
  have HW2 := Lib.hid hw2
  have HXl := Lib.hid hXl
  have HXe := Lib.hid hXe
  have HXP := Lib.hid hXP
  clear hst hw2 hb1 hb2 ht hcap hX hXl hXe hXP
  go_wp2_with fail
  rw [← HW2.out]
  refine EXC.out.mono ?_
  rintro e w3 ⟨op, ln, t, k, m, u, va, vc, V, sub, hn, rfl, hm, ho, hk, hln, hd⟩
  obtain ⟨AV, CV, rfl⟩ := ho.form
  have hn' : n = nd op ln t k m u sub := hn
  unfold nd8
  subst hn'
  have hXP := HXP.out
  have hz3 := hm.grown.size
  have hPw : w.heap.size < X.P := by omega
  have HZ3 := Lib.hid (show zN w3 w.heap.size from (hm.grown.block _ (by have := HZ2.out.lt; omega) (fun e => by injection e with e; omega)).trans HZ2.out)
  have HB3 := Lib.hid (mvd_below hm (Nat.le_of_lt hPw) HB2.out)
  obtain ⟨w4, hw4⟩ : ∃ w4, w4 = w3.alloc (.cells #[.int .i64 op, .int .i64 ln, .string t, .int .i64 k, .int .i64 m, .string u, .slice va 0 vc, .slice AV sub.len CV] 31) := ⟨_, rfl⟩
  have hb4 : Below w3.heap.size w3 w4 := by rw [hw4]; exact (Below.refl _ _).alloc (Nat.le_refl _) _
  have HM4 := Lib.hid (hm.below hb4)
  have HZ4 := Lib.hid (show zN w4 w.heap.size from HZ3.out.below' hb4)
  have HB4 := Lib.hid (HB3.out.trans (below_le' hb4 HB3.out.size))
  have HN4 := Lib.hid (show NdB w4 w3.heap.size (.int .i64 op) (.int .i64 ln) (.string t) (.int .i64 k) (.int .i64 m) (.string u) (.slice va 0 vc) (.slice AV sub.len CV) by rw [hw4]; exact NdB.new _ _ _ _ _ _ _ _ _)
  have hs4 := hb4.size
  have HO4 := Lib.hid (ho.below hb4)
  have HW4 := Lib.hid hw4
  have HKK := Lib.hid hk
  have HHD := Lib.hid hd
  clear hn hm ho hk hd hw4 hb4
  obtain ⟨ev, hP, hE⟩ := HM4.out.st.at_
  have c1 := hP.c1; have c3 := hP.c3
  rw [hXP] at c1 c3
  have c3w := c3
  rw [HW4.out] at c1 c3
  by_cases hpos : p1.pos < l.length
  · have hps : exprS l p1 = failS l p1 := by unfold exprS; rw [if_pos hpos]
    have hlt : (p1.pos : Int) < (l.length : Int) := by omega
    have FC := Lib.hid (fail_c X p1 w4 HM4.out.st)
    rw [hXP] at FC
    clear hP hE
    go_wp2_with fail
    rw [← HW4.out]
    refine FC.out.mono ?_
    rintro e w5 ⟨rfl, hm5⟩
    have HM5 := Lib.hid (HM4.out.trans hm5)
    obtain ⟨ev5, hP5, hE5⟩ := hm5.st.at_
    have hE6 : ErrV w5 X ev5 (some x) := by
      have h := hE5
      rw [HXl.out, ← hps, HX0.out] at h
      exact h
    obtain ⟨ty, ve, rfl⟩ := errv_some hE6
    have HE6 := Lib.hid hE6
    have d3 := hP5.c3
    rw [hXP] at d3
    have hz5 := hm5.grown.size
    have HZ5 := Lib.hid (show zN w5 w.heap.size from (hm5.grown.block _ (by have := HZ4.out.lt; omega) (fun e => by injection e with e; omega)).trans HZ4.out)
    have HB5 := Lib.hid (mvd_below hm5 (Nat.le_of_lt hPw) HB4.out)
    clear hm5 hP5 hE5 hE6 c1 c3 c3w hps
    have g0 := HZ5.out.c0; have g1 := HZ5.out.c1; have g2 := HZ5.out.c2; have g3 := HZ5.out.c3; have g4 := HZ5.out.c4; have g5 := HZ5.out.c5; have g6 := HZ5.out.c6; have g7 := HZ5.out.c7
    have j0 := HZ5.out.fr 0; have j1 := HZ5.out.fr 1; have j2 := HZ5.out.fr 2; have j3 := HZ5.out.fr 3; have j4 := HZ5.out.fr 4; have j5 := HZ5.out.fr 5; have j6 := HZ5.out.fr 6; have j7 := HZ5.out.fr 7
    have hne1 : w.heap.size ≠ w1.heap.size := by omega
    have hne2 : w1.heap.size ≠ w.heap.size := by omega
    go_wp2_with fail
    have cd : w5.drew.cell? ⟨w1.heap.size, 3, none⟩ = some (.iface ty ve) := d3
    go_region_held3 (fun W => W.cell? ⟨w1.heap.size, 3, none⟩ = some (.iface ty ve)) (first | (with_reducible assumption) | go_keep) (fail)
    go_wp2_with fail
    refine ret_cell8_tmp Tryz.results11 w.heap.size rfl rfl (ndb_drew (HZ5.out.set8 _ _ _ _ _ _ _ _)) ?_
    have hkb := only_set8 w5 w.heap.size (.int .i64 0) (.int .i64 0) (.string ⟨#[]⟩) (.int .i64 0) (.int .i64 0) (.string ⟨#[]⟩) (.slice none 0 0) (.slice none 0 0)
    refine ⟨_, rfl, (below_st8 HB5.out (Nat.le_refl _) _ _ _ _ _ _ _ _).drew, ?_⟩
    have hE7 := HE6.out
    cases x with
    | none => rw [← HXe.out]; exact hE7
    | some line =>
      obtain ⟨A, a1, a2, a3⟩ := hE7
      exact ⟨A, by omega, a2, (drew_heap _ A).trans ((hkb.block A (heap_lt a3) (fun e => by injection e with e; omega)).trans (by rw [← HXe.out]; exact a3))⟩
  · have hps : exprS l p1 = p1 := by unfold exprS; rw [if_neg hpos]
    have hlt : ¬ (p1.pos : Int) < (l.length : Int) := by omega
    have hE6 : ErrV w4 X ev (some x) := by
      have h := hE
      rw [show p1.err = some x by rw [← hps]; exact HX0.out] at h
      exact h
    obtain ⟨ty, ve, rfl⟩ := errv_some hE6
    have HE6 := Lib.hid hE6
    clear hP hE hE6 hps
    have g0 := HZ4.out.c0; have g1 := HZ4.out.c1; have g2 := HZ4.out.c2; have g3 := HZ4.out.c3; have g4 := HZ4.out.c4; have g5 := HZ4.out.c5; have g6 := HZ4.out.c6; have g7 := HZ4.out.c7
    have j0 := HZ4.out.fr 0; have j1 := HZ4.out.fr 1; have j2 := HZ4.out.fr 2; have j3 := HZ4.out.fr 3; have j4 := HZ4.out.fr 4; have j5 := HZ4.out.fr 5; have j6 := HZ4.out.fr 6; have j7 := HZ4.out.fr 7
    have hne1 : w.heap.size ≠ w1.heap.size := by omega
    have hne2 : w1.heap.size ≠ w.heap.size := by omega
    go_wp2_with fail
    rw [← HW4.out]
    have cd : w4.drew.cell? ⟨w1.heap.size, 3, none⟩ = some (.iface ty ve) := c3w
    go_region_held3 (fun W => W.cell? ⟨w1.heap.size, 3, none⟩ = some (.iface ty ve)) (first | (with_reducible assumption) | go_keep) (fail)
    go_wp2_with fail
    refine ret_cell8_tmp Tryz.results11 w.heap.size rfl rfl (ndb_drew (HZ4.out.set8 _ _ _ _ _ _ _ _)) ?_
    have hkb := only_set8 w4 w.heap.size (.int .i64 0) (.int .i64 0) (.string ⟨#[]⟩) (.int .i64 0) (.int .i64 0) (.string ⟨#[]⟩) (.slice none 0 0) (.slice none 0 0)
    refine ⟨_, rfl, (below_st8 HB4.out (Nat.le_refl _) _ _ _ _ _ _ _ _).drew, ?_⟩
    have hE7 := HE6.out
    cases x with
    | none => rw [← HXe.out]; exact hE7
    | some line =>
      obtain ⟨A, a1, a2, a3⟩ := hE7
      exact ⟨A, by omega, a2, (drew_heap _ A).trans ((hkb.block A (heap_lt a3) (fun e => by injection e with e; omega)).trans (by rw [← HXe.out]; exact a3))⟩
end Go.Proofs.YtggngahmafbihaaGreatDoor
namespace Go.Proofs.YtggngahmafbihaaGreatDoor
open Go.RowKit Go.Lib
set_option linter.unusedVariables false

def dollarL : List Tok := [⟨4, 1, ⟨#[36]⟩, 0, 0, ⟨#[]⟩⟩, ⟨1, 1, ⟨#[120]⟩, 0, 0, ⟨#[]⟩⟩]
set_option maxRecDepth 100000 in
theorem dollar_chk : (match allW ⟨#[36, 120]⟩ with | .inr l => toksB l dollarL | _ => false) = true := by decide +kernel
theorem dollar_all : allW ⟨#[36, 120]⟩ = .inr dollarL := by
  have h := dollar_chk
  split at h
  · rename_i l e; rw [e, toksB_eq _ _ h]
  · cases h
def dollarK : NL := (nd 1 1 ⟨#[]⟩ 1 0 ⟨#[]⟩ .nil).app (nd 1 1 ⟨#[]⟩ 2 0 ⟨#[120]⟩ .nil)
def dollarN : NL := ndL 22 1 dollarK
set_option maxRecDepth 100000 in
theorem dollar_prs : prsR dollarL 60 .expr ⟨0, 0, none⟩ = some (dollarN, ⟨2, 0, none⟩) := by kernel_rfl
theorem dollar_right : rightN dollarN 0 = true := by decide +kernel
theorem dollar_fit : dollarN.fit := by
  simp [dollarN, dollarK, ndL, nd, NL.app, NL.fit, NL.len, VL.len, VL.fit, ByteArray.size]

set_option maxRecDepth 100000 in
set_option maxHeartbeats 4000000 in
theorem pfirst_c (ea : Nat → Addr) (w : World) (he : LxEnv w ea) : Calls Tryz.prog 9 #[] w fun e w' => e = .returned (.bool true) ∧ Below w.heap.size w w' := by
  have PG := Lib.hid (pexpr_good ⟨#[36, 120]⟩ dollarL 60 dollarN ⟨2, 0, none⟩ ea w he (by decide) dollar_all (by decide) (by decide) (by decide) dollar_prs rfl dollar_right dollar_fit)
  clear he
  go_enter Tryz.func9, Tryz.ntmps9
  go_wp2_with fail
  refine PG.out.mono ?_
  rintro e w1 ⟨op, ln, s, k, m, t, va, vc, V, sub, hn, rfl, ho, hb⟩
  unfold dollarN ndL nd at hn
  simp only [NL.cons.injEq, and_true, true_and] at hn
  obtain ⟨rfl, rfl, rfl, rfl, rfl, rfl, rfl⟩ := hn
  obtain ⟨A, c, rfl, hc, _, hr⟩ := ho.kids
  obtain ⟨b, o, op0, ln0, s0, k0, n0, t0, v0, sub0, va0, vc0, sa0, sc0, hA, hS0, hd0, a00, a01, a02, a03, a04, a05, a06, _, _, a07, _, _⟩ := hr.nth (i := 0) (by decide)
  obtain ⟨b', o', op1, ln1, s1, k1, n1, t1, v1, sub1, va1, vc1, sa1, sc1, hA1, hS1, hd1, a10, a11, a12, a13, a14, a15, a16, _, _, a17, _, _⟩ := hr.nth (i := 1) (by decide)
  rw [hA] at hA1
  injection hA1 with hA1
  injection hA1 with e1 e2
  subst e1
  subst e2
  unfold dollarK nd at hd0 hd1
  simp only [NL.app, NL.drop, NL.cons.injEq, and_true] at hd0 hd1
  obtain ⟨rfl, rfl, rfl, rfl, rfl, rfl, rfl, rfl⟩ := hd0
  obtain ⟨rfl, rfl, rfl, rfl, rfl, rfl, rfl, rfl⟩ := hd1
  subst hA
  rw [Nat.zero_mul, Nat.add_zero] at a00 a03
  have x0 := fun o => cellA a00 o; have x3 := fun o => cellA a03 o; have x5 := fun o => cellA a15 o
  have HB := Lib.hid hb
  rw [show dollarK.len = 2 from rfl]
  unfold nd8
  clear ho hr hb a01 a02 a04 a05 a06 a07 a10 a11 a12 a13 a14 a16 a17 hc hS0 hS1
  go_wp2_with fail
  go_ret
  exact ⟨rfl, HB.out.alloc HB.out.size _⟩
end Go.Proofs.YtggngahmafbihaaGreatDoor
namespace Go.Proofs.YtggngahmafbihaaGreatDoor
open Go.RowKit Go.Lib
set_option linter.unusedVariables false

end Go.Proofs.YtggngahmafbihaaGreatDoor
namespace Go.Proofs.YtggngahmafbihaaGreatDoor
open Go.RowKit Go.Lib
set_option linter.unusedVariables false

end Go.Proofs.YtggngahmafbihaaGreatDoor
namespace Go.Proofs.YtggngahmafbihaaGreatDoor
open Go.RowKit Go.Lib
set_option linter.unusedVariables false

end Go.Proofs.YtggngahmafbihaaGreatDoor
namespace Go.Proofs.YtggngahmafbihaaGreatDoor
open Go.RowKit Go.Lib
set_option linter.unusedVariables false

/-- A row of values of the call's own. -/
structure CInv (base : Nat) (w0 wr : World) (V : Value) (acc : VL) (xs : List Value) : Prop where
  own : wr.ownsRow base 28 4 V acc.len xs
  cells : CellsOf wr (fun b => base ≤ b ∧ b < wr.heap.size ∧ V.ownBlock ≠ some b) acc xs
  below : Below base w0 wr
  size : base ≤ wr.heap.size
theorem CInv.nil (w : World) : CInv w.heap.size w w (.slice none 0 0) .nil [] := ⟨World.ownsRow_nil _ _ _ _, rfl, Below.refl _ _, Nat.le_refl _⟩
theorem CInv.move {base : Nat} {w0 wr w' : World} {V : Value} {acc : VL} {xs : List Value} (h : CInv base w0 wr V acc xs) (hb : Below wr.heap.size wr w') : CInv base w0 w' V acc xs :=
  ⟨own_below h.own hb, h.cells.keep (fun b hb' => hb.block b hb'.2.1) (fun b hb' => ⟨hb'.1, Nat.lt_of_lt_of_le hb'.2.1 hb.size, hb'.2.2⟩), h.below.trans (below_le' hb h.size), Nat.le_trans h.size hb.size⟩
theorem CInv.step {base : Nat} {w0 wr w3 w5 : World} {V V' : Value} {acc : VL} {xs : List Value} (h : CInv base w0 wr V acc xs) (hb : Below wr.heap.size wr w3)
    {k n : Int} {t : ByteArray} {sub : VL} {sa : Option Addr} {sc : Nat} (hsc : sub.len ≤ sc) (hrep : RpL w3 (fun b => wr.heap.size ≤ b ∧ b < w3.heap.size) sub sa) {o1 : Obj}
    (hown : w5.ownsRow base 28 4 V' (acc.len + 1) (xs ++ [.int .i64 k, .int .i64 n, .string t, .slice sa sub.len sc])) (hg : (w3.alloc o1).grownBy w5 V.ownBlock)
    (hob : V'.ownBlock = V.ownBlock ∨ V'.ownBlock = some (w3.alloc o1).heap.size) :
    CInv base w0 w5 V' (acc.app (val1 k n t sub)) (xs ++ [.int .i64 k, .int .i64 n, .string t, .slice sa sub.len sc]) := by
  have h3 := h.move hb
  have hVg : ∀ g, V.ownBlock = some g → base ≤ g ∧ g < wr.heap.size := fun g hg => ⟨own_ge h.own g hg, own_lt h.own g hg⟩
  have hsz : (w3.alloc o1).heap.size = w3.heap.size + 1 := by simp
  have hz5 : w3.heap.size + 1 ≤ w5.heap.size := by have := hg.size; omega
  have hz3 := hb.size
  have hz0 := h.size
  have blk : ∀ b, b < w3.heap.size → V.ownBlock ≠ some b → w5.heap[b]? = w3.heap[b]? := fun b hb hne => by
    have h1 := hg.block b (by omega) (fun e => hne e.symm)
    rw [h1, Below.heap_alloc _ _ _ hb]
  have hV'b : ∀ b, b < w3.heap.size → V.ownBlock ≠ some b → V'.ownBlock ≠ some b := fun b hb hne e => by
    rcases hob with e2 | e2
    · exact hne (e2.symm.trans e)
    · rw [e] at e2
      injection e2 with e2
      omega
  refine ⟨by rw [VL.len_app]; exact hown, ?_, ?_, by omega⟩
  · refine CellsOf.app _ _ _ _ ?_ ⟨sa, sc, [], rfl, hsc, ?_, rfl⟩
    · exact h3.cells.keep (fun b hb => blk b hb.2.1 hb.2.2) (fun b hb => ⟨hb.1, by have := hb.2.1; omega, hV'b b hb.2.1 hb.2.2⟩)
    · have hne : ∀ b, wr.heap.size ≤ b → V.ownBlock ≠ some b := fun b hb e => by have := (hVg b e).2; omega
      exact hrep.keep (fun b hb => blk b hb.2 (hne b hb.1)) (fun b hb => ⟨by have := hb.1; omega, by have := hb.2; omega, hV'b b hb.2 (hne b hb.1)⟩)
  · exact grown_below (h3.below.alloc h3.size o1) (by simp; omega) hg (fun k hk => (hVg k hk).1)
/-- What the row reads as. -/
theorem CInv.rep {base : Nat} {w0 wr : World} {V : Value} {acc : VL} {xs : List Value} (h : CInv base w0 wr V acc xs) : ∃ (sa : Option Addr) (sc : Nat), V = .slice sa acc.len sc ∧ acc.len ≤ sc ∧ RpL wr (fun b => base ≤ b ∧ b < wr.heap.size) acc sa :=
  own_rep h.own (h.cells.keep (fun _ _ => rfl) (fun b hb => ⟨hb.1, hb.2.1⟩)) (fun g hg => ⟨own_ge h.own g hg, own_lt h.own g hg⟩)

end Go.Proofs.YtggngahmafbihaaGreatDoor
namespace Go.Proofs.YtggngahmafbihaaGreatDoor
open Go.RowKit Go.Lib
set_option linter.unusedVariables false

end Go.Proofs.YtggngahmafbihaaGreatDoor
namespace Go.Proofs.YtggngahmafbihaaGreatDoor
open Go.RowKit Go.Lib
set_option linter.unusedVariables false

/-- The reference's count: one number in a block of its own. -/
def RwAt (w : World) (L : Nat) (n : Int) : Prop := w.heap[L]? = some (.cells #[.int .i64 n] 191 (0, 0))
section
variable {w w' : World} {L : Nat} {left : Int}
theorem RwAt.lt (h : RwAt w L left) : L < w.heap.size := by
  rcases Nat.lt_or_ge L w.heap.size with hlt | hge
  · exact hlt
  · unfold RwAt at h; rw [Array.getElem?_eq_none hge] at h; cases h
theorem RwAt.c0 (h : RwAt w L left) : w.cell? ⟨L, 0, none⟩ = some (.int .i64 left) := cell_of_row w L 0 _ _ _ h
theorem RwAt.fr (h : RwAt w L left) : w.frozen? ⟨L, 0, none⟩ = false := by unfold RwAt at h; simp [World.frozen?, h]
theorem RwAt.alloc (h : RwAt w L left) (o : Obj) : RwAt (w.alloc o) L left := (Below.heap_alloc w o L h.lt).trans h
theorem RwAt.set (h : RwAt w L left) (n : Int) : RwAt (w.setCell ⟨L, 0, none⟩ (.int .i64 n)) L n := by
  unfold RwAt at h ⊢; simp [World.setCell, Array.getElem?_modify, h]
theorem RwAt.below (h : RwAt w L left) {B : Nat} (hb : Below B w w') (hL : L < B) : RwAt w' L left := (hb.block L hL).trans h
theorem RwAt.new (W : World) (n : Int) : RwAt (W.alloc (.cells #[.int .i64 n] 191)) W.heap.size n := by unfold RwAt World.alloc; simp
end

/-- Out of the loop over the items. -/
theorem bne_of {a b : Int} (h : a ≠ b) : (a != b) = true ∧ (a == b) = false := by simp [h]

end Go.Proofs.YtggngahmafbihaaGreatDoor
namespace Go.Proofs.YtggngahmafbihaaGreatDoor
open Go.RowKit Go.Lib
set_option linter.unusedVariables false

theorem cell_below {w W : World} (hb : Below w.heap.size w W) {p : Addr} {v : Value} (h : w.cell? p = some v) : W.cell? p = some v := by
  have hlt : p.block < w.heap.size := by
    unfold World.cell? at h
    rcases Nat.lt_or_ge p.block w.heap.size with hlt | hge
    · exact hlt
    · rw [Array.getElem?_eq_none hge] at h; cases h
  exact (World.cell?_of_block (w := w) (hb.block _ hlt)).trans h

end Go.Proofs.YtggngahmafbihaaGreatDoor
