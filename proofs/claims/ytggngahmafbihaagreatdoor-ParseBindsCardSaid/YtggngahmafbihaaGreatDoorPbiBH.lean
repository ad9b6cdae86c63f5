/- Contracts of the functions that the statement reaches, and the plain mathematics beneath: several texts joined. -/
import Derived.StillTailTactics
import Derived.BigQuiet
import Derived.Deep.RegionHeld3
import Derived.Test.YtggngahmafbihaaGreatDoorPbiAG
import Derived.Test.YtggngahmafbihaaGreatDoorPbiAM
import Derived.Test.YtggngahmafbihaaGreatDoorPbiAK
namespace Go.Proofs.YtggngahmafbihaaGreatDoor
open Go.RowKit Go.Lib
set_option linter.unusedVariables false

theorem sameN_drop {a b : NL} {i : Nat} {op ln : Int} {s : ByteArray} {k n : Int} {t : ByteArray} {v : VL} {x : NL} {op' ln' : Int} {s' : ByteArray} {k' n' : Int} {t' : ByteArray} {v' : VL} {x' : NL}
    (ha : a.drop i = .cons op ln s k n t v x (a.drop (i + 1))) (hb : b.drop i = .cons op' ln' s' k' n' t' v' x' (b.drop (i + 1))) :
    sameN (a.drop i) (b.drop i) = (same1 k n t v k' n' t' v' && decide (op = op') && decide (s = s') && sameN x x' && sameN (a.drop (i + 1)) (b.drop (i + 1))) := by rw [ha, hb]; rfl
theorem sameN_len : ∀ a b : NL, a.len ≠ b.len → sameN a b = false
  | .nil, .nil, h => absurd rfl h
  | .nil, .cons .., _ => rfl
  | .cons .., .nil, _ => rfl
  | .cons op ln s k n t v x r, .cons op' ln' s' k' n' t' v' x' r', h => by
    rw [sameN, sameN_len r r' (fun e => h (by simp only [NL.len]; omega)), Bool.and_false]
def AlikeC (N : Nat) : Prop := ∀ (la lb : NL) (sa sb : Option Addr) (ca cb : Nat) (w : World), la.tot < N → la.len ≤ 140737488351232 → lb.len ≤ 140737488351232 → la.fit → lb.fit → la.len ≤ ca → lb.len ≤ cb → RpN w (fun b => b < w.heap.size) la sa → RpN w (fun b => b < w.heap.size) lb sb →
  Calls Tryz.prog 12 #[.slice sa la.len ca, .slice sb lb.len cb] w fun e w' => e = .returned (.bool (sameN la lb)) ∧ Below w.heap.size w w'

set_option maxRecDepth 100000 in
set_option maxHeartbeats 4000000 in
theorem alike_step (N : Nat) (ih : ∀ N', N' < N → AlikeC N') : AlikeC N := by
  intro la lb sa sb ca cb w hN hl1 hl2 hf1 hf2 hc1 hc2 hr1 hr2
  by_cases hlen : la.len = lb.len
  · have hle : ((la.len : Int) != (lb.len : Int)) = false := by simp; omega
    have R1 := Lib.hid hr1
    have R2 := Lib.hid hr2
    have HL := Lib.hid hlen
    clear hr1 hr2 hlen
    go_enter Tryz.func12, Tryz.ntmps12
    go_wp2_with fail
    go_loopg [5] la.len (fun kk v wr => ∃ i : Nat, v = .int .i64 i ∧ i + kk = la.len ∧ Hid (Below w.heap.size w wr) ∧ Hid (sameN (la.drop i) (lb.drop i) = sameN la lb))
    case atStart => exact ⟨0, rfl, by omega, Below.refl _ _, by show sameN (la.drop 0) (lb.drop 0) = _; rw [NL.drop, NL.drop]⟩
    case round =>
      obtain ⟨i, rfl, hik, hbr, hsm⟩ := hrel
      by_cases hi : i < la.len
      · obtain ⟨g, rfl⟩ : ∃ g, gk = g + 1 := ⟨gk - 1, by omega⟩
        have hi2 : i < lb.len := by have := HL.out; omega
        have hz := hbr.out.size
        obtain ⟨b, o, op1, ln1, s1, k1, n1, t1, v1, x1, va1, vc1, xa1, xc1, hA1, hS1, hd1, c0, c1, c2, c3, c4, c5, c6, hvl1, hv1, c7, hxl1, hx1⟩ := (R1.out.keep (w' := wr) (fun b hb => hbr.out.block b hb) (fun b hb => hb)).nth hi
        obtain ⟨b', o', op2, ln2, s2, k2, n2, t2, v2, x2, va2, vc2, xa2, xc2, hA2, hS2, hd2, e0, e1, e2, e3, e4, e5, e6, hvl2, hv2, e7, hxl2, hx2⟩ := (R2.out.keep (w' := wr) (fun b hb => hbr.out.block b hb) (fun b hb => hb)).nth hi2
        have hfd1 := NL.fit_drop i la hf1
        rw [hd1] at hfd1
        have hfd2 := NL.fit_drop i lb hf2
        rw [hd2] at hfd2
        have htd := NL.tot_drop i la
        rw [hd1] at htd
        simp only [NL.tot] at htd
        simp only [NL.fit] at hfd1 hfd2
        have SV := Lib.hid (sameV_c k1 n1 t1 v1 va1 vc1 k2 n2 t2 v2 va2 vc2 wr.drew ⟨hfd1.2.1, hfd1.2.2.1, hfd1.2.2.2.1, trivial⟩ ⟨hfd2.2.1, hfd2.2.2.1, hfd2.2.2.2.1, trivial⟩ hvl1 hvl2 (RpL.keep (w := wr) (w' := wr.drew) (S := fun b => b < w.heap.size) (S' := fun b => b < wr.drew.heap.size) (fun b hb => rfl) (fun b hb => Nat.lt_of_lt_of_le hb hz) _ _ hv1) (RpL.keep (w := wr) (w' := wr.drew) (S := fun b => b < w.heap.size) (S' := fun b => b < wr.drew.heap.size) (fun b hb => rfl) (fun b hb => Nat.lt_of_lt_of_le hb hz) _ _ hv2))
        have AC := Lib.hid (fun W (hW : Below wr.heap.size wr W) => ih (x1.tot + 1) (by omega) x1 x2 xa1 xa2 xc1 xc2 W (Nat.lt_succ_self _) hfd1.2.2.2.2.1 hfd2.2.2.2.2.1 hfd1.2.2.2.2.2.1 hfd2.2.2.2.2.2.1 hxl1 hxl2 (hx1.keep (w' := W) (fun b hb => hW.block b (Nat.lt_of_lt_of_le hb hz)) (fun b hb => Nat.lt_of_lt_of_le (Nat.lt_of_lt_of_le hb hz) hW.size)) (hx2.keep (w' := W) (fun b hb => hW.block b (Nat.lt_of_lt_of_le hb hz)) (fun b hb => Nat.lt_of_lt_of_le (Nat.lt_of_lt_of_le hb hz) hW.size)))
        have HD := Lib.hid (sameN_drop hd1 hd2)
        have hbz : b < wr.heap.size := Nat.lt_of_lt_of_le hS1 hz
        have hbz' : b' < wr.heap.size := Nat.lt_of_lt_of_le hS2 hz
        subst hA1
        subst hA2
        have C1 := Lib.hid (⟨c0, c2, c7⟩ : wr.cell? ⟨b, o + i * 8, none⟩ = some (.int .i64 op1) ∧ wr.cell? ⟨b, o + i * 8 + 2, none⟩ = some (.string s1) ∧ wr.cell? ⟨b, o + i * 8 + 7, none⟩ = some (.slice xa1 x1.len xc1))
        have C2 := Lib.hid (⟨e0, e2, e7⟩ : wr.cell? ⟨b', o' + i * 8, none⟩ = some (.int .i64 op2) ∧ wr.cell? ⟨b', o' + i * 8 + 2, none⟩ = some (.string s2) ∧ wr.cell? ⟨b', o' + i * 8 + 7, none⟩ = some (.slice xa2 x2.len xc2))
        have d3 : wr.drew.cell? ⟨b, o + i * 8 + 3, none⟩ = _ := c3
        have d4 : wr.drew.cell? ⟨b, o + i * 8 + 4, none⟩ = _ := c4
        have d5 : wr.drew.cell? ⟨b, o + i * 8 + 5, none⟩ = _ := c5
        have d6 : wr.drew.cell? ⟨b, o + i * 8 + 6, none⟩ = _ := c6
        have f3 : wr.drew.cell? ⟨b', o' + i * 8 + 3, none⟩ = _ := e3
        have f4 : wr.drew.cell? ⟨b', o' + i * 8 + 4, none⟩ = _ := e4
        have f5 : wr.drew.cell? ⟨b', o' + i * 8 + 5, none⟩ = _ := e5
        have f6 : wr.drew.cell? ⟨b', o' + i * 8 + 6, none⟩ = _ := e6
        obtain ⟨q, hq⟩ : ∃ q, q = same1 k1 n1 t1 v1 k2 n2 t2 v2 := ⟨_, rfl⟩
        obtain ⟨q4, hq4⟩ : ∃ q4, q4 = sameN x1 x2 := ⟨_, rfl⟩
        rw [← hq] at SV
        rw [← hq4] at AC
        rw [← hq, ← hq4] at HD
        clear hq hq4 hd1 hd2 hfd1 hfd2 htd c0 c1 c2 c7 e0 e1 e2 e7 hv1 hv2 hx1 hx2 hvl1 hvl2 hxl1 hxl2 hS1 hS2 hN ih hf1 hf2
        go_wp2_with fail
        go_still_tail 10, (by kernel_rfl)
        change wpList _ _ _ _ _ wr.drew
        go_wp2_with fail
        refine SV.out.mono ?_
        rintro e w5 ⟨rfl, hb5⟩
        have HW5 := Lib.hid (show Below wr.heap.size wr w5 from ((Below.refl wr.heap.size wr).drew).trans hb5)
        have HB5 := Lib.hid (show Below w.heap.size w w5 from hbr.out.trans (below_le' HW5.out hz))
        have m0 : w5.drew.cell? ⟨b, o + i * 8, none⟩ = _ := (World.cell?_of_block (a := ⟨b, o + i * 8, none⟩) (w := wr) (HW5.out.block _ hbz)).trans C1.out.1
        have m2 : w5.drew.cell? ⟨b, o + i * 8 + 2, none⟩ = _ := (World.cell?_of_block (a := ⟨b, o + i * 8 + 2, none⟩) (w := wr) (HW5.out.block _ hbz)).trans C1.out.2.1
        have m7 : w5.drew.cell? ⟨b, o + i * 8 + 7, none⟩ = _ := (World.cell?_of_block (a := ⟨b, o + i * 8 + 7, none⟩) (w := wr) (HW5.out.block _ hbz)).trans C1.out.2.2
        have n0 : w5.drew.cell? ⟨b', o' + i * 8, none⟩ = _ := (World.cell?_of_block (a := ⟨b', o' + i * 8, none⟩) (w := wr) (HW5.out.block _ hbz')).trans C2.out.1
        have n2 : w5.drew.cell? ⟨b', o' + i * 8 + 2, none⟩ = _ := (World.cell?_of_block (a := ⟨b', o' + i * 8 + 2, none⟩) (w := wr) (HW5.out.block _ hbz')).trans C2.out.2.1
        have n7 : w5.drew.cell? ⟨b', o' + i * 8 + 7, none⟩ = _ := (World.cell?_of_block (a := ⟨b', o' + i * 8 + 7, none⟩) (w := wr) (HW5.out.block _ hbz')).trans C2.out.2.2
        clear hb5 c3 c4 c5 c6 e3 e4 e5 e6 d3 d4 d5 d6 f3 f4 f5 f6
        have hi' : (i : Int) < (la.len : Int) := by omega
        have hi2' : (i : Int) < (lb.len : Int) := by omega
        have hi0' : (0 : Int) ≤ (i : Int) := by omega
        have HQ := Lib.hid (fun nq => show Below w.heap.size w (w5.drewN nq) from HB5.out.trans ⟨rfl, rfl, rfl, Nat.le_refl _, fun _ _ => rfl⟩)
        cases q with
        | false =>
          have HE := Lib.hid (show sameN la lb = false by rw [← hsm.out, HD.out]; simp)
          have r0 : w5.cell? ⟨b, o + i * 8, none⟩ = _ := m0
          have r2 : w5.cell? ⟨b, o + i * 8 + 2, none⟩ = _ := m2
          have r3 : w5.cell? ⟨b', o' + i * 8, none⟩ = _ := n0
          have r5 : w5.cell? ⟨b', o' + i * 8 + 2, none⟩ = _ := n2
          go_wp2_with fail
          go_quiet (fail)
          go_wp2_with fail
          go_ret
          exact ⟨ret_bool HE.out.symm, HQ.out _⟩
        | true =>
          by_cases hop : op1 = op2
          · have bop : (op1 != op2) = false := by rw [hop]; simp
            by_cases hst : s1 = s2
            · have bst : (s1.toList != s2.toList) = false := by rw [hst]; simp
              have KC := Lib.hid (fun W (hW : Below wr.heap.size wr W) => show W.cell? ⟨b, o + i * 8, none⟩ = some (.int .i64 op1) ∧ W.cell? ⟨b, o + i * 8 + 2, none⟩ = some (.string s1) ∧ W.cell? ⟨b, o + i * 8 + 7, none⟩ = some (.slice xa1 x1.len xc1) ∧ W.cell? ⟨b', o' + i * 8, none⟩ = some (.int .i64 op2) ∧ W.cell? ⟨b', o' + i * 8 + 2, none⟩ = some (.string s2) ∧ W.cell? ⟨b', o' + i * 8 + 7, none⟩ = some (.slice xa2 x2.len xc2) ∧ Below wr.heap.size wr W from ⟨(World.cell?_of_block (w := wr) (hW.block _ hbz)).trans C1.out.1, (World.cell?_of_block (w := wr) (hW.block _ hbz)).trans C1.out.2.1, (World.cell?_of_block (w := wr) (hW.block _ hbz)).trans C1.out.2.2, (World.cell?_of_block (w := wr) (hW.block _ hbz')).trans C2.out.1, (World.cell?_of_block (w := wr) (hW.block _ hbz')).trans C2.out.2.1, (World.cell?_of_block (w := wr) (hW.block _ hbz')).trans C2.out.2.2, hW⟩)
              have AD := Lib.hid (fun W (hW : Below wr.heap.size wr W) => show Calls Tryz.prog 12 #[.slice xa1 x1.len xc1, .slice xa2 x2.len xc2] W (fun e w' => e = .returned (.bool q4) ∧ (fun W => W.cell? ⟨b, o + i * 8, none⟩ = some (.int .i64 op1) ∧ W.cell? ⟨b, o + i * 8 + 2, none⟩ = some (.string s1) ∧ W.cell? ⟨b, o + i * 8 + 7, none⟩ = some (.slice xa1 x1.len xc1) ∧ W.cell? ⟨b', o' + i * 8, none⟩ = some (.int .i64 op2) ∧ W.cell? ⟨b', o' + i * 8 + 2, none⟩ = some (.string s2) ∧ W.cell? ⟨b', o' + i * 8 + 7, none⟩ = some (.slice xa2 x2.len xc2) ∧ Below wr.heap.size wr W) w') from (AC.out W hW).mono (fun e w' h => ⟨h.1, KC.out w' (hW.trans (below_le' h.2 hW.size))⟩))
              have K0 := KC.out w5.drew HW5.out.drew
              clear KC AC m0 m2 m7 n0 n2 n7
              go_wp2_with fail
              go_region_held3 (fun W => W.cell? ⟨b, o + i * 8, none⟩ = some (.int .i64 op1) ∧ W.cell? ⟨b, o + i * 8 + 2, none⟩ = some (.string s1) ∧ W.cell? ⟨b, o + i * 8 + 7, none⟩ = some (.slice xa1 x1.len xc1) ∧ W.cell? ⟨b', o' + i * 8, none⟩ = some (.int .i64 op2) ∧ W.cell? ⟨b', o' + i * 8 + 2, none⟩ = some (.string s2) ∧ W.cell? ⟨b', o' + i * 8 + 7, none⟩ = some (.slice xa2 x2.len xc2) ∧ Below wr.heap.size wr W)
                (first | (with_reducible assumption) | (with_reducible exact K0))
                (first | (go_at_call 12; with_reducible refine (AD.out _ ?_).mono ?_; (first | (with_reducible assumption) | (with_reducible exact K0.2.2.2.2.2.2)); rintro e w10 ⟨rfl, hs10⟩))
              all_goals
                have HB10 := Lib.hid (hbr.out.trans (below_le' hs10.2.2.2.2.2.2 hz))
                clear hs10 K0
                cases q4 with
                | true =>
                  go_wp2_with fail
                  go_roundg g
                  case measure => omega
                  case rel => exact ⟨i + 1, by go_num, by omega, HB10, by show sameN _ _ = _; rw [← hsm.out, HD.out]; simp [hop, hst]⟩
                | false =>
                  have HE := Lib.hid (show sameN la lb = false by rw [← hsm.out, HD.out]; simp)
                  go_wp2_with fail
                  go_ret
                  exact ⟨ret_bool HE.out.symm, HB10.out⟩
            · have HE := Lib.hid (show sameN la lb = false by rw [← hsm.out, HD.out]; simp [hst])
              have t1 : s1.toList ≠ s2.toList := fun e => by have h2 : (s1.toList == s2.toList) = true := by rw [e]; simp
                                                             rw [sbeq_dec] at h2; exact hst (of_decide_eq_true h2)
              have bst : (s1.toList != s2.toList) = true := bne_iff_ne.2 t1
              have r0 : w5.cell? ⟨b, o + i * 8, none⟩ = _ := m0
              have r2 : w5.cell? ⟨b, o + i * 8 + 2, none⟩ = _ := m2
              have r3 : w5.cell? ⟨b', o' + i * 8, none⟩ = _ := n0
              have r5 : w5.cell? ⟨b', o' + i * 8 + 2, none⟩ = _ := n2
              go_wp2_with fail
              go_quiet (fail)
              go_wp2_with fail
              go_ret
              exact ⟨ret_bool HE.out.symm, HQ.out _⟩
          · have HE := Lib.hid (show sameN la lb = false by rw [← hsm.out, HD.out]; simp [hop])
            have bop : (op1 != op2) = true := bne_yes hop
            have r0 : w5.cell? ⟨b, o + i * 8, none⟩ = _ := m0
            have r2 : w5.cell? ⟨b, o + i * 8 + 2, none⟩ = _ := m2
            have r3 : w5.cell? ⟨b', o' + i * 8, none⟩ = _ := n0
            have r5 : w5.cell? ⟨b', o' + i * 8 + 2, none⟩ = _ := n2
            go_wp2_with fail
            go_quiet (fail)
            go_wp2_with fail
            go_ret
            exact ⟨ret_bool HE.out.symm, HQ.out _⟩
      · obtain rfl : i = la.len := by omega
        have HF := Lib.hid (show sameN la lb = true by rw [← hsm.out, NL.drop_len, HL.out, NL.drop_len]; rfl)
        go_wp2_with fail
        go_ret
        exact ⟨ret_bool HF.out.symm, hbr.out⟩
  · have hle : ((la.len : Int) != (lb.len : Int)) = true := by simp; omega
    have HF := Lib.hid (sameN_len la lb hlen)
    clear hlen hr1 hr2
    go_enter Tryz.func12, Tryz.ntmps12
    go_wp2_with fail
    go_ret
    exact ⟨ret_bool HF.out.symm, Below.refl _ _⟩
theorem alike_c (N : Nat) : AlikeC N := by
  induction N using Nat.strongRecOn with
  | _ N ih => exact alike_step N ih
end Go.Proofs.YtggngahmafbihaaGreatDoor
