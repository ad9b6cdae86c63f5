/- Contracts of the functions that the statement reaches, and the plain mathematics beneath: several texts joined. -/
import Derived.Test.YtgmnbdfbbcpciaaGreatDoorSmI
import Derived.Test.YtgmnbdfbbcpciaaGreatDoorSmB
import Derived.Test.YtgmnbdfbbcpciaaGreatDoorSmF
import Derived.Deep.RegionHeld3
import Derived.LaidEql
import Derived.Handy
import Derived.Test.YtgmnbdfbbcpciaaGreatDoorSmC
import Derived.Test.YtgmnbdfbbcpciaaGreatDoorSmD
import Derived.StillTailTactics
import Derived.Laws.AppendOwnNone
import Derived.OwnWalk
import Derived.Test.YtgmnbdfbbcpciaaGreatDoorSmA
import Derived.Test.YtgmnbdfbbcpciaaGreatDoorSmE
import Derived.Test.YtgmnbdfbbcpciaaGreatDoorSmG
import Derived.Test.YtgmnbdfbbcpciaaGreatDoorSmH
namespace Go.Proofs.YtgmnbdfbbcpciaaGreatDoor
open Go.RowKit Go.Lib
set_option linter.unusedVariables false

set_option maxRecDepth 100000 in
set_option maxHeartbeats 4000000 in
theorem odd_step (N : Nat) (ih : ∀ N', N' < N → OddC N') : OddC N := by
  intro k n s sub sa sc deep left L w hN hlf hss hsl hfit hsc hrep hd1 hd2 hl1 hl2
  have hLl := hlf.lt
  obtain ⟨wa, hwa⟩ : ∃ wa, wa = w.alloc (.cells #[.int .i64 k, .int .i64 n, .string s, .slice sa sub.len sc] 31) := ⟨_, rfl⟩
  have hba : Below w.heap.size w wa := by rw [hwa]; exact (Below.refl _ _).alloc (Nat.le_refl _) _
  have hV : StB wa w.heap.size (.int .i64 k) (.int .i64 n) (.string s) (.slice sa sub.len sc) := by rw [hwa]; exact StB.new w _ _ _ _
  have hlfa : RwAt wa L (4096 - left) := hlf.below hba hLl
  have hwz : wa.heap.size = w.heap.size + 1 := by rw [hwa]; simp
  have v0 := hV.c0; have v1 := hV.c1; have v2 := hV.c2; have v3 := hV.c3
  have l0 := hlfa.c0
  have lf0 := hlfa.fr
  have HBA := Lib.hid hba
  have HV := Lib.hid hV
  have HLF := Lib.hid hlfa
  have HRP := Lib.hid hrep
  rw [hwa] at v0 v1 v2 v3 l0 lf0
  by_cases hdp : 40 < deep
  · have HS := Lib.hid (show walk1 k n s sub deep left = (112, left) by unfold walk1; rw [if_pos hdp])
    have HF := Lib.hid (show POdd w L (walk1 k n s sub deep left) (.returned (.int .i64 112)) wa by rw [HS.out]; exact ⟨rfl, ⟨_, HLF.out, fun h => by cases h⟩, only_below HBA.out _⟩)
    rw [hwa] at HF
    clear hba hV hlfa hwa hrep
    go_enter Tryz.func53, Tryz.ntmps53
    go_wp2_with fail
    go_ret
    exact HF.out
  have hdp' : deep ≤ 40 := by omega
  clear hdp
  obtain ⟨w1', hw1'⟩ : ∃ w1', w1' = (w.setCell ⟨L, 0, none⟩ (.int .i64 (4096 - left + 1))).alloc (.cells #[.int .i64 k, .int .i64 n, .string s, .slice sa sub.len sc] 31) := ⟨_, rfl⟩
  have hr1' : RwAt w1' L (4096 - left + 1) := by rw [hw1']; exact (hlf.set _).alloc _
  have hv1' : StB w1' w.heap.size (.int .i64 k) (.int .i64 n) (.string s) (.slice sa sub.len sc) := by rw [hw1']; have := StB.new (w.setCell ⟨L, 0, none⟩ (.int .i64 (4096 - left + 1))) (.int .i64 k) (.int .i64 n) (.string s) (.slice sa sub.len sc); simpa [World.setCell] using this
  have hg1' : w.grownBy w1' (some L) := by rw [hw1']; exact only_alloc (only_setCell (only_refl w _) (.inl rfl) _) _
  by_cases hk : k = 2
  · subst hk
    obtain ⟨w1, hw1⟩ : ∃ w1, w1 = (((w.setCell ⟨L, 0, none⟩ (.int .i64 (4096 - left + 1))).setCell ⟨L, 0, none⟩ (.int .i64 (4096 - left + 1 + (s.size : Int)))).alloc (.cells #[.int .i64 2, .int .i64 n, .string s, .slice sa sub.len sc] 31)).drew := ⟨_, rfl⟩
    have hr1 : RwAt w1 L (4096 - left + 1 + (s.size : Int)) := by rw [hw1]; exact (((hlf.set _).set _).alloc _)
    have hv1 : StB w1 w.heap.size (.int .i64 2) (.int .i64 n) (.string s) (.slice sa sub.len sc) := by rw [hw1]; have := StB.new ((w.setCell ⟨L, 0, none⟩ (.int .i64 (4096 - left + 1))).setCell ⟨L, 0, none⟩ (.int .i64 (4096 - left + 1 + (s.size : Int)))) (.int .i64 2) (.int .i64 n) (.string s) (.slice sa sub.len sc); simpa [World.setCell, StB, World.drew] using this
    have hg1 : w.grownBy w1 (some L) := by rw [hw1]; exact only_drew (only_alloc (only_setCell (only_setCell (only_refl w _) (.inl rfl) _) (.inl rfl) _) _)
    have p0 := hv1'.c0; have p2 := hv1'.c2; have q0 := hr1'.c0; have qf := hr1'.fr
    have u0 := hv1.c0; have u1 := hv1.c1; have u2 := hv1.c2; have u3 := hv1.c3; have r0 := hr1.c0
    have HG1 := Lib.hid hg1
    have hm : mOf 2 s = (s.size : Int) := rfl
    by_cases hlm : left ≤ (s.size : Int)
    · have HS := Lib.hid (show walk1 2 n s sub deep left = (104, left) by unfold walk1; rw [if_neg (by omega), hm, if_pos hlm])
      have HF := Lib.hid (show POdd w L (walk1 2 n s sub deep left) (.returned (.int .i64 104)) w1 by rw [HS.out]; exact ⟨rfl, ⟨_, hr1, fun h => by cases h⟩, hg1⟩)
      rw [hw1] at HF
      rw [hw1] at u0 u1 u2 u3 r0
      rw [hw1'] at p0 p2 q0 qf
      clear hba hV hlfa hwa hrep hw1' hr1' hv1' hg1' hw1 hr1 hv1 hg1
      go_enter Tryz.func53, Tryz.ntmps53
      go_wp2_with fail
      go_region
      go_wp2_with fail
      go_ret
      exact HF.out
    obtain ⟨lf, hlfe⟩ : ∃ lf : Int, lf = left - (1 + (s.size : Int)) := ⟨_, rfl⟩
    have HS := Lib.hid (show walk1 2 n s sub deep left = if ownE 2 n s sub.len = 0 then walkL sub (deep + 1) lf else (ownE 2 n s sub.len, lf) by unfold walk1; rw [if_neg (by omega), hm, if_neg (by omega), hlfe])
    have hlf0 : 0 ≤ lf := by omega
    have hlf4 : lf ≤ 4096 := by omega
    have HR1 := Lib.hid (show RwAt w1 L (4096 - lf) by rw [show 4096 - lf = 4096 - left + 1 + (s.size : Int) by omega]; exact hr1)
    have HV1 := Lib.hid hv1
    have PC := Lib.hid (fun W => printed_c s W hss)
    have HW1 := Lib.hid (show (((w.setCell ⟨L, 0, none⟩ (.int .i64 (4096 - left + 1))).setCell ⟨L, 0, none⟩ (.int .i64 (4096 - left + 1 + (s.size : Int)))).alloc (.cells #[.int .i64 2, .int .i64 n, .string s, .slice sa sub.len sc] 31)).drew = w1 by rw [hw1])
    rw [hw1] at u0 u1 u2 u3 r0
    rw [hw1'] at p0 p2 q0 qf
    clear hba hV hlfa hwa hrep hw1' hr1' hv1' hg1' hw1 hr1 hv1 hg1 hlfe
    rcases str_cases (n := n) (s := s) (len := sub.len) with ⟨hE, hcs⟩ | ⟨hE, rfl, h0, hp⟩ | ⟨hE, rfl, h0, hp⟩
    · rw [hE, if_neg (by decide)] at HS
      rcases hcs with hn | ⟨rfl, hl⟩
      · have hn1 := (bne_of hn).1
        have hn2 := (bne_of hn).2
        clear hn
        go_enter Tryz.func53, Tryz.ntmps53
        go_wp2_with fail
        go_region
        go_wp2_with fail
        go_ret
        rw [HW1.out, HS.out]
        exact ⟨rfl, ⟨_, HR1.out, fun h => by cases h⟩, HG1.out⟩
      · have hl' : (0 : Int) < (sub.len : Int) := by omega
        go_enter Tryz.func53, Tryz.ntmps53
        go_wp2_with fail
        go_region
        go_wp2_with fail
        go_ret
        rw [HW1.out, HS.out]
        exact ⟨rfl, ⟨_, HR1.out, fun h => by cases h⟩, HG1.out⟩
    · rw [hE, if_neg (by decide)] at HS
      rw [hp] at PC
      clear hp
      obtain rfl : sub = .nil := by cases sub with | nil => rfl | cons _ _ _ _ _ => exact absurd h0 (Nat.succ_ne_zero _)
      rw [show VL.nil.len = 0 from rfl] at v0 v1 v2 v3 l0 lf0 u0 u1 u2 u3 r0 HV1 HW1
      rw [show VL.nil.len = 0 from rfl] at p0 p2 q0 qf
      rw [show VL.nil.len = 0 from rfl]
      clear h0
      go_enter Tryz.func53, Tryz.ntmps53
      go_wp2_with fail
      go_region
      go_wp2_with fail
      rw [HW1.out]
      refine (PC.out _).mono ?_
      rintro e w' ⟨rfl, rfl⟩
      go_wp2_with fail
      go_ret
      rw [HS.out]
      exact ⟨rfl, ⟨_, HR1.out, fun h => by cases h⟩, HG1.out⟩
    · rw [hE, if_pos rfl] at HS
      rw [hp] at PC
      clear hp
      obtain rfl : sub = .nil := by cases sub with | nil => rfl | cons _ _ _ _ _ => exact absurd h0 (Nat.succ_ne_zero _)
      rw [show VL.nil.len = 0 from rfl] at v0 v1 v2 v3 l0 lf0 u0 u1 u2 u3 r0 HV1 HW1
      rw [show VL.nil.len = 0 from rfl] at p0 p2 q0 qf
      rw [show VL.nil.len = 0 from rfl]
      clear h0
      go_enter Tryz.func53, Tryz.ntmps53
      go_wp2_with fail
      go_region
      go_wp2_with fail
      rw [HW1.out]
      refine (PC.out _).mono ?_
      rintro e w' ⟨rfl, rfl⟩
      have x3 := HV1.out.c3
      go_wp2_with fail
      go_loopg [9] 0 (fun kk v wr => v = .int .i64 0 ∧ w1 = wr)
      case atStart => exact ⟨rfl, rfl⟩
      case round =>
        obtain ⟨rfl, rfl⟩ := hrel
        go_wp2_with fail
        go_ret
        rw [HS.out]
        exact ⟨rfl, ⟨_, HR1.out, fun _ => rfl⟩, HG1.out⟩
  · have hm : mOf k s = 0 := by unfold mOf; rw [if_neg hk]
    have hk1 := (bne_of hk).1
    have hk2 := (bne_of hk).2
    have u0 := hv1'.c0; have u1 := hv1'.c1; have u2 := hv1'.c2; have u3 := hv1'.c3; have r0 := hr1'.c0
    by_cases hlm : left ≤ 0
    · have HS := Lib.hid (show walk1 k n s sub deep left = (104, left) by unfold walk1; rw [if_neg (by omega), hm, if_pos hlm])
      have HF := Lib.hid (show POdd w L (walk1 k n s sub deep left) (.returned (.int .i64 104)) w1' by rw [HS.out]; exact ⟨rfl, ⟨_, hr1', fun h => by cases h⟩, hg1'⟩)
      rw [hw1'] at HF
      rw [hw1'] at u0 u1 u2 u3 r0
      clear hba hV hlfa hwa hrep hw1' hr1' hv1' hg1' hk
      go_enter Tryz.func53, Tryz.ntmps53
      go_wp2_with fail
      go_ret
      exact HF.out
    obtain ⟨lf, hlfe⟩ : ∃ lf : Int, lf = left - 1 := ⟨_, rfl⟩
    have HS := Lib.hid (show walk1 k n s sub deep left = if ownE k n s sub.len = 0 then walkL sub (deep + 1) lf else (ownE k n s sub.len, lf) by unfold walk1; rw [if_neg (by omega), hm, if_neg (by omega), hlfe, show left - (1 + 0) = left - 1 by omega])
    have hlf0 : 0 ≤ lf := by omega
    have hlf4 : lf ≤ 4096 := by omega
    obtain ⟨w1, hw1⟩ : ∃ w1, w1 = w1' := ⟨_, rfl⟩
    have HR1 := Lib.hid (show RwAt w1 L (4096 - lf) by rw [hw1, show 4096 - lf = 4096 - left + 1 by omega]; exact hr1')
    have HV1 := Lib.hid (show StB w1 w.heap.size (.int .i64 k) (.int .i64 n) (.string s) (.slice sa sub.len sc) by rw [hw1]; exact hv1')
    have HG1 := Lib.hid (show w.grownBy w1 (some L) by rw [hw1]; exact hg1')
    have HW1 := Lib.hid (show ((w.setCell ⟨L, 0, none⟩ (.int .i64 (4096 - left + 1))).alloc (.cells #[.int .i64 k, .int .i64 n, .string s, .slice sa sub.len sc] 31)) = w1 by rw [hw1, hw1'])
    rw [hw1'] at u0 u1 u2 u3 r0
    clear hba hV hlfa hwa hrep hw1' hr1' hv1' hg1' hw1 hlfe
    rcases kind_cases (n := n) (s := s) (len := sub.len) hk with ⟨hE, hcs⟩ | ⟨hE, hcs⟩ | ⟨hE, hs0, hcs⟩
    · rw [hE, if_neg (by decide)] at HS
      clear hk hE
      rcases hcs with h | ⟨h, h'⟩ | ⟨rfl, h⟩ | ⟨rfl, h, h'⟩ | ⟨rfl, h⟩ | ⟨rfl, h, h'⟩
      all_goals
        go_enter Tryz.func53, Tryz.ntmps53
        go_wp2_with fail
        go_ret
        rw [HW1.out, HS.out]
        exact ⟨rfl, ⟨_, HR1.out, fun h => by cases h⟩, HG1.out⟩
    · rw [hE, if_neg (by decide)] at HS
      clear hk hE
      have hln : 0 < sub.len → (0 : Int) < (sub.len : Int) := fun h => by omega
      have hnn : n ≠ 0 → (n != 0) = true ∧ (n == 0) = false := fun h => bne_of h
      have hsn : s.toList.isEmpty = false → ¬ s.toList = [] := fun h e => by rw [e] at h; cases h
      rcases hcs with ⟨rfl, he⟩ | ⟨rfl, he, hl⟩ | ⟨rfl, h1, h2, he⟩ | ⟨rfl, h1, h2, he, hl⟩ | ⟨rfl, h1, h2, he⟩ | ⟨rfl, h1, h2, he, hl⟩ | ⟨rfl, hn⟩ | ⟨rfl, rfl, he⟩
      all_goals
        try have hl' := hln hl
        try have he' := hsn he
        try (obtain ⟨hn1, hn2⟩ := hnn hn; clear hn)
        clear hln hnn hsn
        go_enter Tryz.func53, Tryz.ntmps53
        go_wp2_with fail
        go_ret
        rw [HW1.out, HS.out]
        exact ⟨rfl, ⟨_, HR1.out, fun h => by cases h⟩, HG1.out⟩
    · rw [hE, if_pos rfl] at HS
      have he : s.toList.isEmpty = true := by rw [hs0, Lib.toList_data]; rfl
      have he' : s.toList = [] := by rw [hs0, Lib.toList_data]
      have PC := Lib.hid (fun W => printed_c s W hss)
      rw [show prB s.data.toList = true by rw [hs0]; decide] at PC
      clear hk hE hs0
      rcases hcs with ⟨rfl, h0⟩ | ⟨rfl, h1, h2, h0⟩ | ⟨rfl, h1, h2, h0⟩ | ⟨rfl, rfl⟩
      · obtain rfl : sub = .nil := by cases sub with | nil => rfl | cons _ _ _ _ _ => exact absurd h0 (Nat.succ_ne_zero _)
        rw [show VL.nil.len = 0 from rfl] at v0 v1 v2 v3 l0 lf0 u0 u1 u2 u3 r0 HV1 HW1
        rw [show VL.nil.len = 0 from rfl]
        clear h0
        go_enter Tryz.func53, Tryz.ntmps53
        go_wp2_with fail
        rw [HW1.out]
        refine (PC.out _).mono ?_
        rintro e w' ⟨rfl, rfl⟩
        have x3 := HV1.out.c3
        go_wp2_with fail
        go_loopg [9] 0 (fun kk v wr => v = .int .i64 0 ∧ w1 = wr)
        case atStart => exact ⟨rfl, rfl⟩
        case round =>
          obtain ⟨rfl, rfl⟩ := hrel
          go_wp2_with fail
          go_ret
          rw [HS.out]
          exact ⟨rfl, ⟨_, HR1.out, fun _ => rfl⟩, HG1.out⟩
      · obtain rfl : sub = .nil := by cases sub with | nil => rfl | cons _ _ _ _ _ => exact absurd h0 (Nat.succ_ne_zero _)
        rw [show VL.nil.len = 0 from rfl] at v0 v1 v2 v3 l0 lf0 u0 u1 u2 u3 r0 HV1 HW1
        rw [show VL.nil.len = 0 from rfl]
        clear h0
        go_enter Tryz.func53, Tryz.ntmps53
        go_wp2_with fail
        rw [HW1.out]
        refine (PC.out _).mono ?_
        rintro e w' ⟨rfl, rfl⟩
        have x3 := HV1.out.c3
        go_wp2_with fail
        go_loopg [9] 0 (fun kk v wr => v = .int .i64 0 ∧ w1 = wr)
        case atStart => exact ⟨rfl, rfl⟩
        case round =>
          obtain ⟨rfl, rfl⟩ := hrel
          go_wp2_with fail
          go_ret
          rw [HS.out]
          exact ⟨rfl, ⟨_, HR1.out, fun _ => rfl⟩, HG1.out⟩
      · obtain rfl : sub = .nil := by cases sub with | nil => rfl | cons _ _ _ _ _ => exact absurd h0 (Nat.succ_ne_zero _)
        rw [show VL.nil.len = 0 from rfl] at v0 v1 v2 v3 l0 lf0 u0 u1 u2 u3 r0 HV1 HW1
        rw [show VL.nil.len = 0 from rfl]
        clear h0
        go_enter Tryz.func53, Tryz.ntmps53
        go_wp2_with fail
        rw [HW1.out]
        refine (PC.out _).mono ?_
        rintro e w' ⟨rfl, rfl⟩
        have x3 := HV1.out.c3
        go_wp2_with fail
        go_loopg [9] 0 (fun kk v wr => v = .int .i64 0 ∧ w1 = wr)
        case atStart => exact ⟨rfl, rfl⟩
        case round =>
          obtain ⟨rfl, rfl⟩ := hrel
          go_wp2_with fail
          go_ret
          rw [HS.out]
          exact ⟨rfl, ⟨_, HR1.out, fun _ => rfl⟩, HG1.out⟩
      · go_enter Tryz.func53, Tryz.ntmps53
        go_wp2_with fail
        rw [HW1.out]
        refine (PC.out _).mono ?_
        rintro e w' ⟨rfl, rfl⟩
        have x3 := HV1.out.c3
        go_wp2_with fail
        go_loopg [9] sub.len (fun kk v wr => ∃ (i : Nat) (l : Int), v = .int .i64 i ∧ i + kk = sub.len ∧ RwAt wr L (4096 - l) ∧ StB wr w.heap.size (.int .i64 4) (.int .i64 0) (.string s) (.slice sa sub.len sc) ∧ w1.grownBy wr (some L) ∧ 0 ≤ l ∧ l ≤ 4096 ∧ Hid (walkL (sub.drop i) (deep + 1) l = walkL sub (deep + 1) lf))
        case atStart => exact ⟨0, lf, rfl, by omega, HR1.out, HV1.out, only_refl _ _, hlf0, hlf4, by show walkL (sub.drop 0) _ _ = _; rw [VL.drop]⟩
        case round =>
          obtain ⟨i, l, rfl, hik, hlr, hvr, hgr, hl0, hl4, hwl⟩ := hrel
          have x3 := hvr.c3
          by_cases hi : i < sub.len
          · obtain ⟨g, rfl⟩ : ∃ g, gk = g + 1 := ⟨gk - 1, by omega⟩
            obtain ⟨k', n', s', sub', hd⟩ := VL.drop_of_lt i sub hi
            have hrw := HRP.out.grown (only_trans HG1.out hgr) (fun b hb => ⟨hb.1, fun e => by injection e with e; exact hb.2 e⟩)
            obtain ⟨b, o, hsa⟩ : ∃ b o, sa = some ⟨b, o, none⟩ := by
              cases sub with
              | nil => simp [VL.len] at hi
              | cons _ _ _ _ _ => obtain ⟨b, o, _, _, h, _⟩ := hrw; exact ⟨b, o, h⟩
            rw [hsa] at hrw
            have hdr := RpL.drop i sub b o hrw
            rw [hd] at hdr
            obtain ⟨b', o', sa', sc', hA, hSb, c0, c1, c2, c3, hcl, hrs, _⟩ := hdr
            injection hA with hA
            injection hA with hA1 hA2
            subst hA1
            subst hA2
            have hfd := VL.fit_drop i sub hfit
            rw [hd] at hfd
            obtain ⟨hf1, hf2, hf3, _⟩ := hfd
            have hszd := VL.size_drop i sub
            rw [hd] at hszd
            simp only [VL.size] at hszd
            have HWL := Lib.hid hwl
            have HDD := Lib.hid hd
            have HSA := Lib.hid hsa
            subst hsa
            have HRS := Lib.hid hrs
            have HLR := Lib.hid hlr
            have HVR := Lib.hid hvr
            have HGR := Lib.hid hgr
            clear hwl hd hrw hrs hlr hvr hgr
            rw [Nat.mul_comm 4 i] at c0 c1 c2 c3
            have IHC := Lib.hid (ih (sub'.size + 1) (by omega) k' n' s' sub' sa' sc' (deep + 1) l L wr (by omega) HLR.out hf1 hf2 hf3 hcl
              (HRS.out.keep (fun b hb => rfl) (fun b hb => ⟨by have := hb.1; have := HG1.out.size; have := HGR.out.size; omega, hb.2⟩)) (by omega) (by omega) hl0 hl4)
            have HST := Lib.hid (show walkL (sub.drop i) (deep + 1) l = if (walk1 k' n' s' sub' (deep + 1) l).1 = 0 then walkL (sub.drop (i + 1)) (deep + 1) (walk1 k' n' s' sub' (deep + 1) l).2 else walk1 k' n' s' sub' (deep + 1) l by rw [HDD.out, walkL_cons])
            have hrng := walk1_range k' n' s' sub' (deep + 1) l hl0
            obtain ⟨rc, rl, hrr⟩ : ∃ rc rl, walk1 k' n' s' sub' (deep + 1) l = (rc, rl) := ⟨_, _, rfl⟩
            rw [hrr] at IHC HST hrng
            simp only at hrng
            obtain ⟨hrg1, hrg2⟩ := hrng
            clear hrr
            go_wp2_with fail
            refine IHC.out.mono ?_
            rintro e w5 ⟨rfl, ⟨m5, hl5, hm5⟩, hg5⟩
            have HL5 := Lib.hid hl5
            have HG5 := Lib.hid (only_trans HGR.out hg5)
            have HV5 := Lib.hid (HVR.out.only hg5 (by intro e; injection e with e; omega))
            clear hl5 hg5
            by_cases hrc : rc = 0
            · subst hrc
              obtain rfl : m5 = 4096 - rl := hm5 rfl
              have HN := Lib.hid (HST.out.symm.trans HWL.out)
              rw [if_pos rfl] at HN
              rw [show (((0, rl) : Nat × Int).1 : Int) = 0 from rfl]
              go_wp2_with fail
              go_roundg g
              case measure => omega
              case rel => exact ⟨i + 1, rl, by go_num, by omega, HL5.out, HV5.out, HG5.out, hrg1, by omega, HN.out⟩
            · have HN := Lib.hid (HST.out.symm.trans HWL.out)
              rw [if_neg hrc] at HN
              have hb1 : (((rc : Nat) : Int) != 0) = true := (bne_of (by omega)).1
              have hb2 : (((rc : Nat) : Int) == 0) = false := (bne_of (by omega)).2
              rw [show (((rc, rl) : Nat × Int).1 : Int) = (rc : Int) from rfl]
              go_wp2_with fail
              go_ret
              rw [HS.out, ← HN.out]
              exact ⟨rfl, ⟨_, HL5.out, fun h => absurd h hrc⟩, only_trans HG1.out HG5.out⟩
          · obtain rfl : i = sub.len := by omega
            rw [VL.drop_len] at hwl
            have HN := Lib.hid hwl
            have HLR := Lib.hid hlr
            have HGR := Lib.hid hgr
            clear hwl hlr hgr hvr
            go_wp2_with fail
            go_ret
            rw [HS.out, ← HN.out]
            exact ⟨rfl, ⟨_, HLR.out, fun _ => rfl⟩, only_trans HG1.out HGR.out⟩

theorem odd_c (N : Nat) : OddC N := by
  induction N using Nat.strongRecOn with
  | _ N ih => exact odd_step N ih

end Go.Proofs.YtgmnbdfbbcpciaaGreatDoor
namespace Go.Proofs.YtgmnbdfbbcpciaaGreatDoor
open Go.RowKit Go.Lib
set_option linter.unusedVariables false

set_option maxHeartbeats 1000000 in
theorem validR_c (k n : Int) (s : ByteArray) (sub : VL) (sa : Option Addr) (sc : Nat) (w : World) (hs : s.size ≤ 140737488351232) (hl : sub.len ≤ 140737488351232) (hf : sub.fit) (hsc : sub.len ≤ sc)
    (hr : RpL w (fun b => b < w.heap.size) sub sa) :
    Calls Tryz.prog 38 #[.agg #[.int .i64 k, .int .i64 n, .string s, .slice sa sub.len sc]] w fun e w' => e = .returned (.int .i64 (walk1 k n s sub 1 4096).1) ∧ Below w.heap.size w w' := by
  obtain ⟨wa, hwa⟩ : ∃ wa, wa = (w.alloc (.cells #[.int .i64 k, .int .i64 n, .string s, .slice sa sub.len sc] 31)).alloc (.cells #[.int .i64 0] 85) := ⟨_, rfl⟩
  have hb : Below w.heap.size w wa := by rw [hwa]; exact ((Below.refl _ _).alloc (Nat.le_refl _) _).alloc (by simp) _
  have hV : StB wa w.heap.size (.int .i64 k) (.int .i64 n) (.string s) (.slice sa sub.len sc) := by rw [hwa]; exact (StB.new w _ _ _ _).alloc _
  have hL : RwAt wa (w.heap.size + 1) (4096 - 4096) := by rw [hwa]; have := RwAt.new (w.alloc (.cells #[.int .i64 k, .int .i64 n, .string s, .slice sa sub.len sc] 31)) 0; simpa using this
  have hwz : wa.heap.size = w.heap.size + 2 := by rw [hwa]; simp
  have WC := Lib.hid (odd_c (sub.size + 1) k n s sub sa sc 1 4096 (w.heap.size + 1) wa (by omega) hL hs hl hf hsc
    (hr.keep (fun b hlt => hb.block b hlt) (fun b hlt => ⟨by omega, by omega⟩)) (by omega) (by omega) (by omega) (by omega))
  have v0 := hV.c0; have v1 := hV.c1; have v2 := hV.c2; have v3 := hV.c3
  have HB := Lib.hid hb
  have HWA := Lib.hid hwa
  have HWZ := Lib.hid hwz
  rw [hwa] at v0 v1 v2 v3
  clear hb hV hL hwa hwz hr
  go_enter Tryz.func38, Tryz.ntmps38
  go_wp2_with fail
  rw [← HWA.out]
  refine WC.out.mono ?_
  rintro e w5 ⟨rfl, _, hg5⟩
  have HG := Lib.hid hg5
  clear hg5 HWA v0 v1 v2 v3
  go_wp2_with fail
  go_ret
  exact ⟨rfl, HB.out.trans ⟨HG.out.os, HG.out.tape, HG.out.output, HG.out.size, fun b hb => HG.out.block b (by have := HWZ.out; omega) (fun e => by injection e with e; omega)⟩⟩

/-- Is a value right? -/
def rightB (k n : Int) (s : ByteArray) (sub : VL) : Bool := decide ((walk1 k n s sub 1 4096).1 = 0)
set_option maxHeartbeats 1000000 in
theorem right_c (k n : Int) (s : ByteArray) (sub : VL) (sa : Option Addr) (sc : Nat) (w : World) (hf : (val1 k n s sub).fit) (hsc : sub.len ≤ sc)
    (hr : RpL w (fun b => b < w.heap.size) sub sa) :
    Calls Tryz.prog 23 #[.agg #[.int .i64 k, .int .i64 n, .string s, .slice sa sub.len sc]] w fun e w' => e = .returned (.bool (rightB k n s sub)) ∧ Below w.heap.size w w' := by
  obtain ⟨wa, hwa⟩ : ∃ wa, wa = w.alloc (.cells #[.int .i64 k, .int .i64 n, .string s, .slice sa sub.len sc] 31) := ⟨_, rfl⟩
  have hb : Below w.heap.size w wa := by rw [hwa]; exact (Below.refl _ _).alloc (Nat.le_refl _) _
  have hwz : wa.heap.size = w.heap.size + 1 := by rw [hwa]; simp
  have hV : StB wa w.heap.size (.int .i64 k) (.int .i64 n) (.string s) (.slice sa sub.len sc) := by rw [hwa]; exact StB.new w _ _ _ _
  have WC := Lib.hid (validR_c k n s sub sa sc wa hf.1 hf.2.1 hf.2.2.1 hsc (hr.keep (fun b hlt => hb.block b hlt) (fun b hlt => by omega)))
  have v0 := hV.c0; have v1 := hV.c1; have v2 := hV.c2; have v3 := hV.c3
  obtain ⟨c, hc⟩ : ∃ c, c = (walk1 k n s sub 1 4096).1 := ⟨_, rfl⟩
  have HR := Lib.hid (show rightB k n s sub = decide (c = 0) by rw [hc]; rfl)
  rw [← hc] at WC
  rw [HR.out]
  have HB := Lib.hid hb
  have HWA := Lib.hid hwa
  have HWZ := Lib.hid hwz
  rw [hwa] at v0 v1 v2 v3
  clear hb hV hwa hwz hr hc
  have hcc : ((c : Int) == 0) = decide (c = 0) := by
    by_cases h : c = 0
    · subst h; rfl
    · rw [(bne_of (show (c : Int) ≠ 0 by omega)).2, decide_eq_false h]
  go_enter Tryz.func23, Tryz.ntmps23
  go_wp2_with fail
  rw [← HWA.out]
  refine WC.out.mono ?_
  rintro e w5 ⟨rfl, hb5⟩
  have HB5 := Lib.hid (HB.out.trans (below_le' hb5 (by have := HWZ.out; omega)))
  clear hb5
  go_wp2_with fail
  go_ret
  exact ⟨ret_bool rfl, HB5.out⟩
end Go.Proofs.YtgmnbdfbbcpciaaGreatDoor
namespace Go.Proofs.YtgmnbdfbbcpciaaGreatDoor
open Go.Lib

/-- A role's number as the reference has it. -/
def plc (r : Nat) : Nat := if r = 7 then 9 else if r = 8 then 8 else r + 1
/-- How many a node has to have. -/
def countsP (op : Int) (m : Nat) : Bool :=
  if op = 1 ∨ op = 2 ∨ op = 45 ∨ op = 46 then m == 0
  else if op = 3 ∨ op = 4 ∨ op = 26 ∨ op = 40 then m == 1
  else if op = 19 ∨ op = 21 ∨ op = 43 then m == 3
  else if op = 23 ∨ op = 28 ∨ op = 41 ∨ op = 49 then decide (2 ≤ m)
  else if op = 24 ∨ op = 25 ∨ op = 52 then true
  else if op = 29 then m == 2 || m == 3
  else if op = 47 then decide (m ≤ 1)
  else m == 2
def placeP (op : Int) (m own i : Nat) : Nat :=
  if op = 23 then (if 2 ≤ i then 2 else 1)
  else if op = 24 then 2
  else if op = 25 then (if own = 6 then 1 else 2)
  else if op = 26 then (if own = 5 then 4 else 1)
  else if op = 20 then (if own = 3 ∧ i = 0 then 3 else 1)
  else if op = 27 then (if i = 0 then 3 else 1)
  else if op = 28 then (if i + 2 = m then 5 else if i + 2 < m then 4 else 1)
  else if op = 29 then (if i = 1 then 6 else 1)
  else if op = 50 then (if i = 0 then 6 else 7)
  else if op = 41 then (if i % 2 = 1 ∨ i + 1 = m then 7 else 1)
  else if op = 42 ∨ op = 48 ∨ op = 44 ∨ op = 43 then (if i + 1 = m then 7 else 1)
  else if op = 49 then (if 0 < i then 8 else 7)
  else if op = 51 then 7
  else if op = 52 then 9
  else 1

theorem plc_le (r : Nat) (h : r ≤ 8) : plc r ≤ 9 := by unfold plc; (repeat' split) <;> omega

/-- What stands where something may stand, by its number. -/
theorem ops_of {op : Int} {role : Nat} (h : standsP op role = true) : (1 ≤ op ∧ op ≤ 29) ∨ (40 ≤ op ∧ op ≤ 52) := by
  unfold standsP isExpr at h
  split at h <;> simp at h <;> omega

theorem ops_list {op : Int} (h : (1 ≤ op ∧ op ≤ 29) ∨ (40 ≤ op ∧ op ≤ 52)) :
    op ∈ ([1, 2, 3, 4, 5, 6, 7, 8, 9, 10, 11, 12, 13, 14, 15, 16, 17, 18, 19, 20, 21, 22, 23, 24, 25, 26, 27, 28, 29, 40, 41, 42, 43, 44, 45, 46, 47, 48, 49, 50, 51, 52] : List Int) := by
  have h2 : op = 1 ∨ op = 2 ∨ op = 3 ∨ op = 4 ∨ op = 5 ∨ op = 6 ∨ op = 7 ∨ op = 8 ∨ op = 9 ∨ op = 10 ∨ op = 11 ∨ op = 12 ∨ op = 13 ∨ op = 14 ∨ op = 15 ∨ op = 16 ∨ op = 17 ∨ op = 18 ∨ op = 19 ∨ op = 20 ∨ op = 21 ∨ op = 22 ∨ op = 23 ∨ op = 24 ∨ op = 25 ∨ op = 26 ∨ op = 27 ∨ op = 28 ∨ op = 29 ∨ op = 40 ∨ op = 41 ∨ op = 42 ∨ op = 43 ∨ op = 44 ∨ op = 45 ∨ op = 46 ∨ op = 47 ∨ op = 48 ∨ op = 49 ∨ op = 50 ∨ op = 51 ∨ op = 52 := by omega
  simpa using h2

theorem counts_roles {op : Int} {m : Nat} (h : (1 ≤ op ∧ op ≤ 29) ∨ (40 ≤ op ∧ op ≤ 52)) (hc : countsP op m = true) : (rolesP op m).2 = true := by
  have hl := ops_list h
  simp only [List.mem_cons, List.not_mem_nil, or_false] at hl
  rcases hl with rfl | rfl | rfl | rfl | rfl | rfl | rfl | rfl | rfl | rfl | rfl | rfl | rfl | rfl | rfl | rfl | rfl | rfl | rfl | rfl | rfl | rfl | rfl | rfl | rfl | rfl | rfl | rfl | rfl | rfl | rfl | rfl | rfl | rfl | rfl | rfl | rfl | rfl | rfl | rfl | rfl | rfl <;> exact hc

/-- The finite ones, each looked at. -/
def plcChk (op : Int) (m : Nat) : Bool := (List.range 9).all fun role => (List.range m).all fun i => !standsP op role || placeP op m (plc role) i == plc (subRole op m role false i).1
theorem plc_chk : ([(3, 1), (4, 1), (5, 2), (6, 2), (7, 2), (8, 2), (9, 2), (10, 2), (11, 2), (12, 2), (13, 2), (14, 2), (15, 2), (16, 2), (17, 2), (18, 2), (19, 3), (20, 2), (21, 3), (22, 2), (26, 1), (27, 2), (29, 2), (29, 3), (40, 1), (42, 2), (43, 3), (44, 2), (47, 1), (48, 2), (50, 2), (51, 2)] : List (Int × Nat)).all (fun p => plcChk p.1 p.2) = true := by decide +kernel
theorem plc_fin {op : Int} {m : Nat} (h : (op, m) ∈ ([(3, 1), (4, 1), (5, 2), (6, 2), (7, 2), (8, 2), (9, 2), (10, 2), (11, 2), (12, 2), (13, 2), (14, 2), (15, 2), (16, 2), (17, 2), (18, 2), (19, 3), (20, 2), (21, 3), (22, 2), (26, 1), (27, 2), (29, 2), (29, 3), (40, 1), (42, 2), (43, 3), (44, 2), (47, 1), (48, 2), (50, 2), (51, 2)] : List (Int × Nat)))
    {role i : Nat} {loop : Bool} (hr : role ≤ 8) (hi : i < m) (hs : standsP op role = true) : placeP op m (plc role) i = plc (subRole op m role loop i).1 := by
  have h1 := List.all_eq_true.1 plc_chk _ h
  have h2 := List.all_eq_true.1 h1 role (List.mem_range.2 (by omega))
  have h3 := List.all_eq_true.1 h2 i (List.mem_range.2 hi)
  rw [hs] at h3
  show _ = plc (subRole op m role false i).1
  simpa using h3

theorem getD_rep (n v i d : Nat) (h : i < n) : (List.replicate n v).getD i d = v := by
  rw [List.getD_eq_getElem?_getD, List.getElem?_replicate, if_pos h]; rfl

theorem place_eq {op : Int} {m role i : Nat} {loop : Bool} (hs : standsP op role = true) (hm : (rolesP op m).2 = true) (hr : role ≤ 8) (hi : i < m) : placeP op m (plc role) i = plc (subRole op m role loop i).1 := by
  have hl := ops_list (ops_of hs)
  simp only [List.mem_cons, List.not_mem_nil, or_false] at hl
  rcases hl with rfl | rfl | rfl | rfl | rfl | rfl | rfl | rfl | rfl | rfl | rfl | rfl | rfl | rfl | rfl | rfl | rfl | rfl | rfl | rfl | rfl | rfl | rfl | rfl | rfl | rfl | rfl | rfl | rfl | rfl | rfl | rfl | rfl | rfl | rfl | rfl | rfl | rfl | rfl | rfl | rfl | rfl
  case inr.inr.inr.inr.inr.inr.inr.inr.inr.inr.inr.inr.inr.inr.inr.inr.inr.inr.inr.inr.inr.inr.inl =>
    have hk : role = 0 ∨ role = 1 := by
      simp only [standsP] at hs; revert hs; rcases (show role = 0 ∨ role = 1 ∨ role = 2 ∨ role = 3 ∨ role = 4 ∨ role = 5 ∨ role = 6 ∨ role = 7 ∨ role = 8 by omega) with rfl | rfl | rfl | rfl | rfl | rfl | rfl | rfl | rfl <;> decide
    have e : (subRole 23 m role loop i).1 = ([0, 0] ++ List.replicate (m - 2) 1).getD i 0 := by rcases hk with rfl | rfl <;> rfl
    have h2 : 2 ≤ m := by simpa [rolesP] using hm
    rw [e]
    show (if 2 ≤ i then 2 else 1) = _
    by_cases h : 2 ≤ i
    · obtain ⟨j, rfl⟩ : ∃ j, i = j + 2 := ⟨i - 2, by omega⟩
      rw [if_pos h]
      show 2 = plc ((List.replicate (m - 2) 1).getD j 0)
      rw [getD_rep _ _ _ _ (by omega)]; rfl
    · rw [if_neg h]
      rcases (show i = 0 ∨ i = 1 by omega) with rfl | rfl <;> rfl
  case inr.inr.inr.inr.inr.inr.inr.inr.inr.inr.inr.inr.inr.inr.inr.inr.inr.inr.inr.inr.inr.inr.inr.inl =>
    have hk : role = 0 ∨ role = 1 := by
      revert hs; rcases (show role = 0 ∨ role = 1 ∨ role = 2 ∨ role = 3 ∨ role = 4 ∨ role = 5 ∨ role = 6 ∨ role = 7 ∨ role = 8 by omega) with rfl | rfl | rfl | rfl | rfl | rfl | rfl | rfl | rfl <;> decide
    have e : (subRole 24 m role loop i).1 = (List.replicate m 1).getD i 0 := by rcases hk with rfl | rfl <;> rfl
    rw [e, getD_rep _ _ _ _ hi]; rfl
  case inr.inr.inr.inr.inr.inr.inr.inr.inr.inr.inr.inr.inr.inr.inr.inr.inr.inr.inr.inr.inr.inr.inr.inr.inl =>
    have hk : role = 0 ∨ role = 1 ∨ role = 5 := by
      revert hs; rcases (show role = 0 ∨ role = 1 ∨ role = 2 ∨ role = 3 ∨ role = 4 ∨ role = 5 ∨ role = 6 ∨ role = 7 ∨ role = 8 by omega) with rfl | rfl | rfl | rfl | rfl | rfl | rfl | rfl | rfl <;> decide
    rcases hk with rfl | rfl | rfl
    · show 2 = plc ((List.replicate m 1).getD i 0)
      rw [getD_rep _ _ _ _ hi]; rfl
    · show 2 = plc ((List.replicate m 1).getD i 0)
      rw [getD_rep _ _ _ _ hi]; rfl
    · rfl
  case inr.inr.inr.inr.inr.inr.inr.inr.inr.inr.inr.inr.inr.inr.inr.inr.inr.inr.inr.inr.inr.inr.inr.inr.inr.inr.inr.inl =>
    have hk : role = 0 ∨ role = 1 := by
      revert hs; rcases (show role = 0 ∨ role = 1 ∨ role = 2 ∨ role = 3 ∨ role = 4 ∨ role = 5 ∨ role = 6 ∨ role = 7 ∨ role = 8 by omega) with rfl | rfl | rfl | rfl | rfl | rfl | rfl | rfl | rfl <;> decide
    have h2 : 2 ≤ m := by simpa [rolesP] using hm
    have e : (subRole 28 m role loop i).1 = ((List.replicate (m - 2) 3 ++ [4]) ++ [0]).getD i 0 := by
      have e2 : (rolesP 28 m).1 = (List.replicate (m - 2) 3 ++ [4]) ++ [0] := by
        show (List.replicate (m - 2) 3 ++ (if 1 < m then [4] else [])) ++ [0] = _
        rw [if_pos (by omega)]
      rw [← e2]
      rcases hk with rfl | rfl <;> rfl
    rw [e]
    show (if i + 2 = m then 5 else if i + 2 < m then 4 else 1) = _
    by_cases h : i + 2 = m
    · rw [if_pos h, List.getD_eq_getElem?_getD, List.append_assoc, List.getElem?_append_right (by rw [List.length_replicate]; omega), List.length_replicate, show i - (m - 2) = 0 from by omega]; rfl
    · rw [if_neg h]
      by_cases h3 : i + 2 < m
      · rw [if_pos h3, List.getD_eq_getElem?_getD, List.append_assoc, List.getElem?_append_left (by rw [List.length_replicate]; omega), List.getElem?_replicate, if_pos (by omega)]; rfl
      · rw [if_neg h3, List.getD_eq_getElem?_getD, List.append_assoc, List.getElem?_append_right (by rw [List.length_replicate]; omega), List.length_replicate, show i - (m - 2) = 1 from by omega]; rfl
  case inr.inr.inr.inr.inr.inr.inr.inr.inr.inr.inr.inr.inr.inr.inr.inr.inr.inr.inr.inr.inr.inr.inr.inr.inr.inr.inr.inr.inr.inr.inl =>
    have hk : role = 7 := by
      revert hs; rcases (show role = 0 ∨ role = 1 ∨ role = 2 ∨ role = 3 ∨ role = 4 ∨ role = 5 ∨ role = 6 ∨ role = 7 ∨ role = 8 by omega) with rfl | rfl | rfl | rfl | rfl | rfl | rfl | rfl | rfl <;> decide
    subst hk
    show (if i % 2 = 1 ∨ i + 1 = m then 7 else 1) = plc (((List.range m).map (fun i => if m % 2 = 1 ∧ i = m - 1 then 6 else if i % 2 = 0 then 0 else 6)).getD i 0)
    rw [List.getD_eq_getElem?_getD, List.getElem?_map, List.getElem?_range hi]
    show _ = plc (if m % 2 = 1 ∧ i = m - 1 then 6 else if i % 2 = 0 then 0 else 6)
    by_cases h : i % 2 = 1 ∨ i + 1 = m
    · rw [if_pos h]
      by_cases h1 : m % 2 = 1 ∧ i = m - 1
      · rw [if_pos h1]; rfl
      · rw [if_neg h1, if_neg (by omega)]; rfl
    · rw [if_neg h, if_neg (by omega), if_pos (by omega)]; rfl
  case inr.inr.inr.inr.inr.inr.inr.inr.inr.inr.inr.inr.inr.inr.inr.inr.inr.inr.inr.inr.inr.inr.inr.inr.inr.inr.inr.inr.inr.inr.inr.inr.inr.inr.inr.inr.inr.inr.inl =>
    have hk : role = 7 := by
      revert hs; rcases (show role = 0 ∨ role = 1 ∨ role = 2 ∨ role = 3 ∨ role = 4 ∨ role = 5 ∨ role = 6 ∨ role = 7 ∨ role = 8 by omega) with rfl | rfl | rfl | rfl | rfl | rfl | rfl | rfl | rfl <;> decide
    subst hk
    have h2 : 2 ≤ m := by simpa [rolesP] using hm
    show (if 0 < i then 8 else 7) = plc (([6] ++ List.replicate (m - 1) 8).getD i 0)
    by_cases h : 0 < i
    · obtain ⟨j, rfl⟩ : ∃ j, i = j + 1 := ⟨i - 1, by omega⟩
      rw [if_pos h]
      show 8 = plc ((List.replicate (m - 1) 8).getD j 0)
      rw [getD_rep _ _ _ _ (by omega)]; rfl
    · obtain rfl : i = 0 := by omega
      rfl
  case inr.inr.inr.inr.inr.inr.inr.inr.inr.inr.inr.inr.inr.inr.inr.inr.inr.inr.inr.inr.inr.inr.inr.inr.inr.inr.inr.inr.inr.inr.inr.inr.inr.inr.inr.inr.inr.inr.inr.inr.inr =>
    have hk : role = 6 := by
      revert hs; rcases (show role = 0 ∨ role = 1 ∨ role = 2 ∨ role = 3 ∨ role = 4 ∨ role = 5 ∨ role = 6 ∨ role = 7 ∨ role = 8 by omega) with rfl | rfl | rfl | rfl | rfl | rfl | rfl | rfl | rfl <;> decide
    subst hk
    show 9 = plc ((List.replicate m 7).getD i 0)
    rw [getD_rep _ _ _ _ hi]; rfl
  all_goals
    have hm' := hm
    simp [rolesP] at hm'
    first
    | (subst hm'; first | omega | exact plc_fin (by decide) hr hi hs)
    | (rcases hm' with hm' | hm' <;> subst hm' <;> exact plc_fin (by decide) hr hi hs)
    | (have h1 : m = 1 := Nat.le_antisymm hm' (by omega)
       subst h1
       exact plc_fin (by decide) hr hi hs)

/-- What is right with a node itself. -/
theorem own_ref {op : Int} {s : ByteArray} {k n : Int} {t : ByteArray} {v : VL} {m role : Nat} {loop : Bool} (hs : standsP op role = true) (hc : countsP op m = true) (hl : op = 45 ∨ op = 46 → loop = true)
    (h1 : op = 1 → rightB k n t v = true ∧ k ≠ 4 ∧ (k ≠ 0 ∨ n ≠ -9223372036854775808)) (h2 : op ≠ 1 → same1 k n t v 0 0 ⟨#[]⟩ .nil = true)
    (h3 : (namedP op).1 = true → nameB s = true ∨ ((namedP op).2 = true ∧ s.size = 0)) (h4 : (namedP op).1 = false → s.size = 0) : ownN op s k n t v m role loop = 0 := by
  have hr := counts_roles (ops_of hs) hc
  have hll : (loop || (op != 45 && op != 46)) = true := by
    by_cases h : op = 45 ∨ op = 46
    · rw [hl h]; rfl
    · have a : op ≠ 45 := fun e => h (Or.inl e)
      have b : op ≠ 46 := fun e => h (Or.inr e)
      simp [a, b]
  have hv : (if op = 1 then k != 4 && (walk1 k n t v 1 4096).1 == 0 && (k != 0 || n != -9223372036854775808) else k == 0 && n == 0 && t.size == 0 && v.len == 0) = true := by
    by_cases h : op = 1
    · obtain ⟨a, b, c⟩ := h1 h
      have a' : (walk1 k n t v 1 4096).1 = 0 := by simpa [rightB] using a
      rw [if_pos h, a']
      rcases c with c | c <;> simp [b, c]
    · have a := h2 h
      simp only [same1, Bool.and_eq_true, decide_eq_true_eq] at a
      obtain ⟨⟨⟨a1, a2⟩, a3⟩, a4⟩ := a
      have a5 := (sameL_iff v .nil).1 a1
      subst a5; subst a2; subst a3; subst a4
      rw [if_neg h]; rfl
  unfold ownN
  simp only [hs, hll, hv, hr]
  by_cases hn : (namedP op).1 = true
  · rcases h3 hn with h | ⟨h, h'⟩
    · simp [hn, h]
    · simp [hn, h, h']
  · have hn' : (namedP op).1 = false := by simpa using hn
    have h5 := h4 hn'
    simp [hn', h5]
end Go.Proofs.YtgmnbdfbbcpciaaGreatDoor
namespace Go.Proofs.YtgmnbdfbbcpciaaGreatDoor
open Go.RowKit Go.Lib
set_option linter.unusedVariables false

/-- A fault with no value. -/
def fltV (c : Int) (p : Bool) (pos : Int) : Value := .agg #[.int .i64 c, .bool p, .int .i64 pos, .int .i64 0, .int .i64 0, .string ⟨#[]⟩, .slice none 0 0]

set_option maxRecDepth 100000 in
set_option maxHeartbeats 1000000 in
theorem fbare_c (c : Int) (w : World) :
    Calls Tryz.prog 14 #[.int .i64 c] w fun e w' => e = .returned (fltV c false 0) ∧ Below w.heap.size w w' := by
  unfold fltV
  go_enter Tryz.func14, Tryz.ntmps14
  go_wp2
  go_returns
  exact ⟨rfl, (Below.refl _ _).alloc (Nat.le_refl _) _⟩
set_option maxRecDepth 100000 in
set_option maxHeartbeats 1000000 in
theorem none_c (w : World) :
    Calls Tryz.prog 17 #[] w fun e w' => e = .returned (fltV 0 false 0) ∧ Below w.heap.size w w' := by
  unfold fltV
  go_enter Tryz.func17, Tryz.ntmps17
  go_wp2
  go_returns
  exact ⟨rfl, (Below.refl _ _).alloc (Nat.le_refl _) _⟩
set_option maxRecDepth 100000 in
set_option maxHeartbeats 1000000 in
theorem placed_c (c pos : Int) (hc : (c == 0) = false) (w : World) :
    Calls Tryz.prog 27 #[.int .i64 c, .int .i64 pos] w fun e w' => e = .returned (fltV c true pos) ∧ Below w.heap.size w w' := by
  unfold fltV
  go_enter Tryz.func27, Tryz.ntmps27
  go_wp2
  go_returns
  exact ⟨rfl, (Below.refl _ _).alloc (Nat.le_refl _) _⟩

/-- Seven cells in a block of their own. -/
def StF (w : World) (g : Nat) (a b c d e f h : Value) : Prop := w.heap[g]? = some (.cells #[a, b, c, d, e, f, h] 37 (0, 0))
section
variable {w w' : World} {g : Nat} {a b c d e f h : Value}
theorem StF.new (W : World) (a b c d e f h : Value) : StF (W.alloc (.cells #[a, b, c, d, e, f, h] 37)) W.heap.size a b c d e f h := by unfold StF World.alloc; simp
theorem StF.lt (H : StF w g a b c d e f h) : g < w.heap.size := by
  rcases Nat.lt_or_ge g w.heap.size with hlt | hge
  · exact hlt
  · unfold StF at H; rw [Array.getElem?_eq_none hge] at H; cases H
theorem StF.below (H : StF w g a b c d e f h) (hb : Below w.heap.size w w') : StF w' g a b c d e f h := (hb.block g H.lt).trans H
theorem StF.cells (H : StF w g a b c d e f h) : w.cell? ⟨g, 0, none⟩ = some a ∧ w.cell? ⟨g, 1, none⟩ = some b ∧ w.cell? ⟨g, 2, none⟩ = some c ∧ w.cell? ⟨g, 3, none⟩ = some d ∧ w.cell? ⟨g, 4, none⟩ = some e ∧ w.cell? ⟨g, 5, none⟩ = some f ∧ w.cell? ⟨g, 6, none⟩ = some h :=
  ⟨cell_of_row w g 0 _ _ _ H, cell_of_row w g 1 _ _ _ H, cell_of_row w g 2 _ _ _ H, cell_of_row w g 3 _ _ _ H, cell_of_row w g 4 _ _ _ H, cell_of_row w g 5 _ _ _ H, cell_of_row w g 6 _ _ _ H⟩
theorem StF.fr (H : StF w g a b c d e f h) (k : Nat) : w.frozen? ⟨g, k, none⟩ = false := by unfold StF at H; simp [World.frozen?, H]
end
theorem StF.set7 {w : World} {g : Nat} {a b c d e f h : Value} (H : StF w g a b c d e f h) (a' b' c' d' e' f' h' : Value) :
    StF (((((((w.setCell ⟨g, 0, none⟩ a').setCell ⟨g, 1, none⟩ b').setCell ⟨g, 2, none⟩ c').setCell ⟨g, 3, none⟩ d').setCell ⟨g, 4, none⟩ e').setCell ⟨g, 5, none⟩ f').setCell ⟨g, 6, none⟩ h') g a' b' c' d' e' f' h' := by
  unfold StF at H ⊢; simp [World.setCell, Array.getElem?_modify, H]
theorem below_set7 {w w' : World} {B : Nat} (h : Below B w w') {g : Nat} (hg : B ≤ g) (a b c d e f k : Value) :
    Below B w (((((((w'.setCell ⟨g, 0, none⟩ a).setCell ⟨g, 1, none⟩ b).setCell ⟨g, 2, none⟩ c).setCell ⟨g, 3, none⟩ d).setCell ⟨g, 4, none⟩ e).setCell ⟨g, 5, none⟩ f).setCell ⟨g, 6, none⟩ k) :=
  Below.setCell (Below.setCell (Below.setCell (Below.setCell (Below.setCell (Below.setCell (Below.setCell h hg _) hg _) hg _) hg _) hg _) hg _) hg _
/-- A struct of seven cells handed back. -/
theorem ret_cell7 {fn : Func} {p : Tmp} {Q : Ending → World → Prop} {act : Act} {w : World} (hr : fn.results = #[.cell p 37]) (g : Nat) (hp : act.tmps.getD p undef = .pointer (some ⟨g, 0, none⟩)) (hd : act.defers = [])
    {a b c d e f h : Value} (hS : StF w g a b c d e f h) (hQ : Q (.returned (.agg #[a, b, c, d, e, f, h])) w) : bodyPost Tryz.prog fn Q .ret act w := by
  refine bodyPost_ret (v := .agg #[a, b, c, d, e, f, h]) ?_ hd hQ
  obtain ⟨c0, c1, c2, c3, c4, c5, c6⟩ := hS.cells
  have hp' : (act.tmps[p]?).getD undef = .pointer (some ⟨g, 0, none⟩) := by simpa using hp
  simp [results, hr, hp', go_sem, c0, c1, c2, c3, c4, c5, c6]
theorem belowLe {B B' : Nat} {w w' : World} (h : Below B w w') (hb : B' ≤ B) : Below B' w w' := ⟨h.os, h.tape, h.output, h.size, fun k hk => h.block k (by omega)⟩
end Go.Proofs.YtgmnbdfbbcpciaaGreatDoor
namespace Go.Proofs.YtgmnbdfbbcpciaaGreatDoor
open Go.RowKit Go.Lib
set_option linter.unusedVariables false

set_option maxHeartbeats 1000000 in
theorem expr_r (op : Int) (w : World) : Calls Tryz.prog 42 #[.int .i64 op] w fun e w' => e = .returned (.bool (isExpr op)) ∧ w = w' := by
  by_cases h : 1 ≤ op
  · by_cases h2 : op ≤ 29
    · by_cases h3 : op = 26
      · subst h3
        go_enter Tryz.func42, Tryz.ntmps42
        go_wp2_with fail
        go_ret
        exact ⟨rfl, rfl⟩
      · have b26 := bne_yes h3
        have HE := Lib.hid (show isExpr op = true by simp [isExpr]; omega)
        clear h3
        go_enter Tryz.func42, Tryz.ntmps42
        go_wp2_with fail
        go_ret
        exact ⟨ret_val (by rw [HE.out]; rfl), rfl⟩
    · have HE := Lib.hid (show isExpr op = false by simp [isExpr]; omega)
      go_enter Tryz.func42, Tryz.ntmps42
      go_wp2_with fail
      go_ret
      exact ⟨ret_val (by rw [HE.out]; rfl), rfl⟩
  · have HE := Lib.hid (show isExpr op = false by simp [isExpr]; omega)
    go_enter Tryz.func42, Tryz.ntmps42
    go_wp2_with fail
    go_ret
    exact ⟨ret_val (by rw [HE.out]; rfl), rfl⟩

set_option maxHeartbeats 1000000 in
theorem stmt_r (op : Int) (w : World) : Calls Tryz.prog 43 #[.int .i64 op] w fun e w' => e = .returned (.bool (standsP op 7)) ∧ w = w' := by
  by_cases h : 40 ≤ op
  · by_cases h2 : op ≤ 51
    · by_cases h3 : op = 50
      · subst h3
        go_enter Tryz.func43, Tryz.ntmps43
        go_wp2_with fail
        go_ret
        exact ⟨rfl, rfl⟩
      · have b26 := bne_yes h3
        have HE := Lib.hid (show standsP op 7 = true by simp [standsP]; omega)
        clear h3
        go_enter Tryz.func43, Tryz.ntmps43
        go_wp2_with fail
        go_ret
        exact ⟨ret_val (by rw [HE.out]; rfl), rfl⟩
    · have HE := Lib.hid (show standsP op 7 = false by simp [standsP]; omega)
      go_enter Tryz.func43, Tryz.ntmps43
      go_wp2_with fail
      go_ret
      exact ⟨ret_val (by rw [HE.out]; rfl), rfl⟩
  · have HE := Lib.hid (show standsP op 7 = false by simp [standsP]; omega)
    go_enter Tryz.func43, Tryz.ntmps43
    go_wp2_with fail
    go_ret
    exact ⟨ret_val (by rw [HE.out]; rfl), rfl⟩

set_option maxRecDepth 100000 in
set_option maxHeartbeats 2000000 in
theorem stands_r0 (op : Int) (w : World) : Calls Tryz.prog 25 #[.int .i64 op, .int .i64 1] w fun e w' => e = .returned (.bool (standsP op 0)) ∧ w = w' := by
  have EC := Lib.hid (expr_r op w)
  go_enter Tryz.func25, Tryz.ntmps25
  go_wp2_with fail
  refine EC.out.mono ?_
  rintro e w2 ⟨rfl, rfl⟩
  go_wp2_with fail
  go_ret
  exact ⟨rfl, rfl⟩

set_option maxRecDepth 100000 in
set_option maxHeartbeats 2000000 in
theorem stands_r7 (op : Int) (w : World) : Calls Tryz.prog 25 #[.int .i64 op, .int .i64 9] w fun e w' => e = .returned (.bool (standsP op 7)) ∧ w = w' := by
  have EC := Lib.hid (stmt_r op w)
  go_enter Tryz.func25, Tryz.ntmps25
  go_wp2_with fail
  refine EC.out.mono ?_
  rintro e w2 ⟨rfl, rfl⟩
  go_wp2_with fail
  go_ret
  exact ⟨rfl, rfl⟩

set_option maxRecDepth 100000 in
set_option maxHeartbeats 2000000 in
theorem stands_r1 (op : Int) (w : World) : Calls Tryz.prog 25 #[.int .i64 op, .int .i64 2] w fun e w' => e = .returned (.bool (standsP op 1)) ∧ w = w' := by
  obtain ⟨b, hb⟩ : ∃ b, b = isExpr op := ⟨_, rfl⟩
  have EC := Lib.hid (expr_r op w)
  rw [← hb] at EC
  have HS := Lib.hid (show standsP op 1 = (b || op == 26) by rw [hb]; rfl)
  clear hb
  by_cases h : op = 26
  · subst h
    cases b
    all_goals
      go_enter Tryz.func25, Tryz.ntmps25
      go_wp2_with fail
      refine EC.out.mono ?_
      rintro e w2 ⟨rfl, rfl⟩
      go_wp2_with fail
      go_ret
      exact ⟨ret_val (by rw [HS.out]; rfl), rfl⟩
  · have n26 := beq_no h
    rw [n26] at HS
    clear h
    cases b
    all_goals
      go_enter Tryz.func25, Tryz.ntmps25
      go_wp2_with fail
      refine EC.out.mono ?_
      rintro e w2 ⟨rfl, rfl⟩
      go_wp2_with fail
      go_ret
      exact ⟨ret_val (by rw [HS.out]; rfl), rfl⟩

set_option maxRecDepth 100000 in
set_option maxHeartbeats 2000000 in
theorem stands_r2 (op : Int) (w : World) : Calls Tryz.prog 25 #[.int .i64 op, .int .i64 3] w fun e w' => e = .returned (.bool (standsP op 2)) ∧ w = w' := by
  by_cases hn : op = 2 ∨ op = 22 ∨ op = 20
  · rcases hn with rfl | rfl | rfl
    all_goals
      go_enter Tryz.func25, Tryz.ntmps25
      go_wp2_with fail
      go_ret
      exact ⟨rfl, rfl⟩
  · have n2 := beq_no (show op ≠ 2 by omega)
    have n22 := beq_no (show op ≠ 22 by omega)
    have n20 := beq_no (show op ≠ 20 by omega)
    have HS := Lib.hid (show standsP op 2 = false by simp only [standsP, n2, n22, n20]; rfl)
    clear hn
    go_enter Tryz.func25, Tryz.ntmps25
    go_wp2_with fail
    go_ret
    exact ⟨ret_val (by rw [HS.out]; rfl), rfl⟩

set_option maxRecDepth 100000 in
set_option maxHeartbeats 2000000 in
theorem stands_r3 (op : Int) (w : World) : Calls Tryz.prog 25 #[.int .i64 op, .int .i64 4] w fun e w' => e = .returned (.bool (standsP op 3)) ∧ w = w' := by
  by_cases hn : op = 2
  · subst hn
    go_enter Tryz.func25, Tryz.ntmps25
    go_wp2_with fail
    go_ret
    exact ⟨rfl, rfl⟩
  · have n2 := beq_no (show op ≠ 2 by omega)
    have HS := Lib.hid (show standsP op 3 = false by simp only [standsP, n2])
    clear hn
    go_enter Tryz.func25, Tryz.ntmps25
    go_wp2_with fail
    go_ret
    exact ⟨ret_val (by rw [HS.out]; rfl), rfl⟩

set_option maxRecDepth 100000 in
set_option maxHeartbeats 2000000 in
theorem stands_r4 (op : Int) (w : World) : Calls Tryz.prog 25 #[.int .i64 op, .int .i64 5] w fun e w' => e = .returned (.bool (standsP op 4)) ∧ w = w' := by
  by_cases hn : op = 2 ∨ op = 26
  · rcases hn with rfl | rfl
    all_goals
      go_enter Tryz.func25, Tryz.ntmps25
      go_wp2_with fail
      go_ret
      exact ⟨rfl, rfl⟩
  · have n2 := beq_no (show op ≠ 2 by omega)
    have n26 := beq_no (show op ≠ 26 by omega)
    have HS := Lib.hid (show standsP op 4 = false by simp only [standsP, n2, n26]; rfl)
    clear hn
    go_enter Tryz.func25, Tryz.ntmps25
    go_wp2_with fail
    go_ret
    exact ⟨ret_val (by rw [HS.out]; rfl), rfl⟩

set_option maxRecDepth 100000 in
set_option maxHeartbeats 2000000 in
theorem stands_r5 (op : Int) (w : World) : Calls Tryz.prog 25 #[.int .i64 op, .int .i64 6] w fun e w' => e = .returned (.bool (standsP op 5)) ∧ w = w' := by
  by_cases hn : op = 25
  · subst hn
    go_enter Tryz.func25, Tryz.ntmps25
    go_wp2_with fail
    go_ret
    exact ⟨rfl, rfl⟩
  · have n25 := beq_no (show op ≠ 25 by omega)
    have HS := Lib.hid (show standsP op 5 = false by simp only [standsP, n25])
    clear hn
    go_enter Tryz.func25, Tryz.ntmps25
    go_wp2_with fail
    go_ret
    exact ⟨ret_val (by rw [HS.out]; rfl), rfl⟩

set_option maxRecDepth 100000 in
set_option maxHeartbeats 2000000 in
theorem stands_r6 (op : Int) (w : World) : Calls Tryz.prog 25 #[.int .i64 op, .int .i64 7] w fun e w' => e = .returned (.bool (standsP op 6)) ∧ w = w' := by
  by_cases hn : op = 52
  · subst hn
    go_enter Tryz.func25, Tryz.ntmps25
    go_wp2_with fail
    go_ret
    exact ⟨rfl, rfl⟩
  · have n52 := beq_no (show op ≠ 52 by omega)
    have HS := Lib.hid (show standsP op 6 = false by simp only [standsP, n52])
    clear hn
    go_enter Tryz.func25, Tryz.ntmps25
    go_wp2_with fail
    go_ret
    exact ⟨ret_val (by rw [HS.out]; rfl), rfl⟩

set_option maxRecDepth 100000 in
set_option maxHeartbeats 2000000 in
theorem stands_r8 (op : Int) (w : World) : Calls Tryz.prog 25 #[.int .i64 op, .int .i64 8] w fun e w' => e = .returned (.bool (standsP op 8)) ∧ w = w' := by
  by_cases hn : op = 50
  · subst hn
    go_enter Tryz.func25, Tryz.ntmps25
    go_wp2_with fail
    go_ret
    exact ⟨rfl, rfl⟩
  · have n50 := beq_no (show op ≠ 50 by omega)
    have HS := Lib.hid (show standsP op 8 = false by simp only [standsP, n50])
    clear hn
    go_enter Tryz.func25, Tryz.ntmps25
    go_wp2_with fail
    go_ret
    exact ⟨ret_val (by rw [HS.out]; rfl), rfl⟩

theorem stands_r (op : Int) (role : Nat) (hr : role ≤ 8) (w : World) : Calls Tryz.prog 25 #[.int .i64 op, .int .i64 (plc role : Int)] w fun e w' => e = .returned (.bool (standsP op role)) ∧ w = w' := by
  rcases (show role = 0 ∨ role = 1 ∨ role = 2 ∨ role = 3 ∨ role = 4 ∨ role = 5 ∨ role = 6 ∨ role = 7 ∨ role = 8 by omega) with rfl | rfl | rfl | rfl | rfl | rfl | rfl | rfl | rfl
  · exact stands_r0 op w
  · exact stands_r1 op w
  · exact stands_r2 op w
  · exact stands_r3 op w
  · exact stands_r4 op w
  · exact stands_r5 op w
  · exact stands_r6 op w
  · exact stands_r7 op w
  · exact stands_r8 op w

set_option maxRecDepth 100000 in
set_option maxHeartbeats 8000000 in
theorem counts_r (op : Int) (m : Nat) (ho : (1 ≤ op ∧ op ≤ 29) ∨ (40 ≤ op ∧ op ≤ 52)) (hm : m ≤ 140737488351232) (w : World) :
    Calls Tryz.prog 26 #[.int .i64 op, .int .i64 (m : Int)] w fun e w' => e = .returned (.bool (countsP op m)) ∧ w = w' := by
  have b0 : ((m : Int) == 0) = (m == 0) := by cases m <;> rfl
  have b1 : ((m : Int) == 1) = (m == 1) := by
    by_cases h : m = 1
    · subst h; rfl
    · rw [beq_no (show (m : Int) ≠ 1 by omega)]; exact (beq_eq_false_iff_ne.2 h).symm
  have b2 : ((m : Int) == 2) = (m == 2) := by
    by_cases h : m = 2
    · subst h; rfl
    · rw [beq_no (show (m : Int) ≠ 2 by omega)]; exact (beq_eq_false_iff_ne.2 h).symm
  have b3 : ((m : Int) == 3) = (m == 3) := by
    by_cases h : m = 3
    · subst h; rfl
    · rw [beq_no (show (m : Int) ≠ 3 by omega)]; exact (beq_eq_false_iff_ne.2 h).symm
  have hl := ops_list ho
  simp only [List.mem_cons, List.not_mem_nil, or_false] at hl
  clear ho
  rcases hl with rfl | rfl | rfl | rfl | rfl | rfl | rfl | rfl | rfl | rfl | rfl | rfl | rfl | rfl | rfl | rfl | rfl | rfl | rfl | rfl | rfl | rfl | rfl | rfl | rfl | rfl | rfl | rfl | rfl | rfl | rfl | rfl | rfl | rfl | rfl | rfl | rfl | rfl | rfl | rfl | rfl | rfl
  case inr.inr.inr.inr.inr.inr.inr.inr.inr.inr.inr.inr.inr.inr.inr.inr.inr.inr.inr.inr.inr.inr.inr.inr.inr.inr.inr.inr.inl =>
    by_cases h2 : m = 2
    · have y2 : ((m : Int) == 2) = true := by rw [h2]; rfl
      have HC := Lib.hid (show countsP 29 m = true by rw [h2]; rfl)
      clear h2 b0 b1 b2 b3
      go_enter Tryz.func26, Tryz.ntmps26
      go_wp2_with fail
      go_ret
      exact ⟨ret_val (by rw [HC.out]; rfl), rfl⟩
    · have n2 := beq_no (show (m : Int) ≠ 2 by omega)
      have HC := Lib.hid (show countsP 29 m = (m == 3) by show (m == 2 || m == 3) = _; rw [← b2, n2]; rfl)
      clear h2 b2
      go_enter Tryz.func26, Tryz.ntmps26
      go_wp2_with fail
      go_ret
      exact ⟨ret_val (by rw [HC.out]; first | rfl | (congr 1)), rfl⟩
  all_goals
    go_enter Tryz.func26, Tryz.ntmps26
    go_wp2_with fail
    go_ret
    exact ⟨ret_val (by
      first
      | rfl
      | (show Value.bool _ = Value.bool _
         congr 1
         first | exact b0 | exact b1 | exact b2 | exact b3 | (simp [countsP]; done) | (simp [countsP]; omega))), rfl⟩
end Go.Proofs.YtgmnbdfbbcpciaaGreatDoor
namespace Go.Proofs.YtgmnbdfbbcpciaaGreatDoor
open Go.RowKit Go.Lib
set_option linter.unusedVariables false

def smR (c : UInt8) : Bool := decide ((97 ≤ c.toNat ∧ c.toNat ≤ 122) ∨ c.toNat = 95)
def dgR (c : UInt8) : Bool := decide (48 ≤ c.toNat ∧ c.toNat ≤ 57)

set_option maxHeartbeats 1000000 in
theorem small_r (c : UInt8) (w : World) : Calls Tryz.prog 54 #[.int .u8 (c.toNat : Int)] w fun e w' => e = .returned (.bool (smR c)) ∧ w = w' := by
  have hcase : (c.toNat : Int) = 95 ∨ ((c.toNat : Int) < 97 ∧ (c.toNat : Int) ≠ 95) ∨ 122 < (c.toNat : Int) ∨ (97 ≤ (c.toNat : Int) ∧ (c.toNat : Int) ≤ 122) := by omega
  rcases hcase with g1 | ⟨g1, g2⟩ | g1 | ⟨g1, g2⟩
  · have HS := Lib.hid (show smR c = true from decide_eq_true (by omega))
    have g3 : ¬ (97 ≤ (c.toNat : Int)) := by omega
    have g4 : ((c.toNat : Int) == 95) = true := by rw [g1]; rfl
    clear g1
    go_enter Tryz.func54, Tryz.ntmps54
    go_wp2_with fail
    go_ret
    exact ⟨ret_val (by rw [HS.out]; rfl), rfl⟩
  · have HS := Lib.hid (show smR c = false from decide_eq_false (by omega))
    have g3 : ¬ (97 ≤ (c.toNat : Int)) := by omega
    have g4 := beq_no g2
    clear g2
    go_enter Tryz.func54, Tryz.ntmps54
    go_wp2_with fail
    go_ret
    exact ⟨ret_val (by rw [HS.out]; rfl), rfl⟩
  · have HS := Lib.hid (show smR c = false from decide_eq_false (by omega))
    have g3 : 97 ≤ (c.toNat : Int) := by omega
    have g5 : ¬ ((c.toNat : Int) ≤ 122) := by omega
    have g4 := beq_no (show (c.toNat : Int) ≠ 95 by omega)
    go_enter Tryz.func54, Tryz.ntmps54
    go_wp2_with fail
    go_ret
    exact ⟨ret_val (by rw [HS.out]; rfl), rfl⟩
  · have HS := Lib.hid (show smR c = true from decide_eq_true (by omega))
    go_enter Tryz.func54, Tryz.ntmps54
    go_wp2_with fail
    go_ret
    exact ⟨ret_val (by rw [HS.out]; rfl), rfl⟩

set_option maxHeartbeats 1000000 in
theorem digit_r (c : UInt8) (w : World) : Calls Tryz.prog 55 #[.int .u8 (c.toNat : Int)] w fun e w' => e = .returned (.bool (dgR c)) ∧ w = w' := by
  have hcase : (c.toNat : Int) < 48 ∨ 57 < (c.toNat : Int) ∨ (48 ≤ (c.toNat : Int) ∧ (c.toNat : Int) ≤ 57) := by omega
  rcases hcase with g1 | g1 | ⟨g1, g2⟩
  · have HS := Lib.hid (show dgR c = false from decide_eq_false (by omega))
    have g3 : ¬ (48 ≤ (c.toNat : Int)) := by omega
    go_enter Tryz.func55, Tryz.ntmps55
    go_wp2_with fail
    go_ret
    exact ⟨ret_val (by rw [HS.out]; rfl), rfl⟩
  · have HS := Lib.hid (show dgR c = false from decide_eq_false (by omega))
    have g3 : 48 ≤ (c.toNat : Int) := by omega
    have g4 : ¬ ((c.toNat : Int) ≤ 57) := by omega
    go_enter Tryz.func55, Tryz.ntmps55
    go_wp2_with fail
    go_ret
    exact ⟨ret_val (by rw [HS.out]; rfl), rfl⟩
  · have HS := Lib.hid (show dgR c = true from decide_eq_true (by omega))
    go_enter Tryz.func55, Tryz.ntmps55
    go_wp2_with fail
    go_ret
    exact ⟨ret_val (by rw [HS.out]; rfl), rfl⟩

/-- A Bool is handed back; if it is so, something is. -/
def RetB (e : Ending) (p : Prop) : Prop := ∃ b : Bool, e = .returned (.bool b) ∧ (b = true → p)
theorem RetB.mk {e : Ending} {p : Prop} (b : Bool) (h : e = .returned (.bool b)) (hp : b = true → p) : RetB e p := ⟨b, h, hp⟩
theorem RetB.out {e : Ending} {p : Prop} (h : RetB e p) : ∃ b : Bool, e = .returned (.bool b) ∧ (b = true → p) := h
/-- A text that the reference takes for a name, whether it be a key or not. -/
def NmOk (s : ByteArray) : Prop := 1 ≤ s.size ∧ s.size ≤ 32 ∧ (∀ h : 0 < s.size, ¬ (48 ≤ s[0].toNat ∧ s[0].toNat ≤ 57)) ∧ s.data.toList.all nmCh = true
theorem nameB_of {s : ByteArray} (h : NmOk s) (hk : s ∉ tkeysL) : nameB s = true := by
  have h0 : 0 < s.size := h.1
  rw [nm_all s h.1 h.2.1 (h.2.2.1 h0) h.2.2.2, ← tkeys_contains]
  rw [Bool.not_eq_true', Bool.eq_false_iff]
  intro hc
  exact hk ((containsS_iff _ _).1 hc)

/-- What IsName answers. -/
def nmOkB (s : ByteArray) : Bool := decide (1 ≤ s.size) && decide (s.size ≤ 32) && smR (s.data.toList.getD 0 0) && s.data.toList.all (fun c => smR c || dgR c)
theorem nm_sd (c : UInt8) : (smR c || dgR c) = nmCh c := by
  rw [nmCh_eq, Bool.eq_iff_iff]
  unfold smR dgR
  simp only [Bool.or_eq_true, decide_eq_true_eq]
  omega
theorem nmOkB_ok {s : ByteArray} (h : nmOkB s = true) : NmOk s := by
  unfold nmOkB at h
  simp only [Bool.and_eq_true, decide_eq_true_eq] at h
  obtain ⟨⟨⟨h1, h2⟩, h3⟩, h4⟩ := h
  refine ⟨h1, h2, fun h0 => ?_, ?_⟩
  · rw [head_get s h0] at h3
    have := of_decide_eq_true (show decide ((97 ≤ s[0].toNat ∧ s[0].toNat ≤ 122) ∨ s[0].toNat = 95) = true from h3)
    omega
  · rw [show (fun c => smR c || dgR c) = nmCh from funext nm_sd] at h4; exact h4

set_option maxRecDepth 100000 in
set_option maxHeartbeats 2000000 in
theorem isname_r (s : ByteArray) (w : World) (hs : s.size ≤ 140737488351232) :
    Calls Tryz.prog 39 #[.string s] w fun e w' => e = .returned (.bool (nmOkB s)) ∧ w = w' := by
  obtain ⟨r, hr⟩ : ∃ r, r = nmOkB s := ⟨_, rfl⟩
  rw [← hr]
  have HR := Lib.hid hr
  clear hr
  by_cases h0 : s.size < 1
  · have HF := Lib.hid (show r = false by rw [HR.out]; unfold nmOkB; rw [decide_eq_false (show ¬ 1 ≤ s.size by omega)]; rfl)
    have q : (s.size : Int) < 1 := by omega
    clear h0
    go_enter Tryz.func39, Tryz.ntmps39
    go_wp2_with fail
    go_ret
    exact ⟨ret_val (by rw [HF.out]; rfl), rfl⟩
  by_cases h1 : 32 < s.size
  · have HF := Lib.hid (show r = false by rw [HR.out]; unfold nmOkB; rw [decide_eq_false (show ¬ s.size ≤ 32 by omega)]; simp)
    have q : (32 : Int) < s.size := by omega
    have q1 : ¬ ((s.size : Int) < 1) := by omega
    clear h0 h1
    go_enter Tryz.func39, Tryz.ntmps39
    go_wp2_with fail
    go_ret
    exact ⟨ret_val (by rw [HF.out]; rfl), rfl⟩
  have q1 : ¬ ((s.size : Int) < 1) := by omega
  have q2 : ¬ ((32 : Int) < s.size) := by omega
  have q3 : 0 < s.size := by omega
  have S0 := Lib.hid (fun W => small_r s[0] W)
  obtain ⟨b0, hb0⟩ : ∃ b, b = smR s[0] := ⟨_, rfl⟩
  rw [← hb0] at S0
  have HA := Lib.hid (show r = (b0 && s.data.toList.all (fun c => smR c || dgR c)) by rw [HR.out, hb0]; unfold nmOkB; rw [decide_eq_true (show 1 ≤ s.size by omega), decide_eq_true (show s.size ≤ 32 by omega), head_get s q3]; rfl)
  clear hb0 HR
  go_enter Tryz.func39, Tryz.ntmps39
  go_wp2_with fail
  refine (S0.out _).mono ?_
  rintro e w2 ⟨rfl, rfl⟩
  cases b0
  · go_wp2_with fail
    go_ret
    exact ⟨ret_val (by rw [HA.out]; rfl), rfl⟩
  have HAL := Lib.hid (show r = s.data.toList.all (fun c => smR c || dgR c) from HA.out)
  clear HA S0
  go_wp2_with fail
  go_loopg [3] s.size (fun kk v wr => ∃ i : Nat, v = .int .i64 i ∧ i + kk = s.size ∧ w = wr ∧ Hid (r = (s.data.toList.drop i).all (fun c => smR c || dgR c)))
  case atStart => exact ⟨0, rfl, by omega, rfl, HAL.out⟩
  case round =>
    obtain ⟨i, rfl, hik, rfl, hall⟩ := hrel
    by_cases hlt : i < s.size
    · obtain ⟨g, rfl⟩ : ∃ g, gk = g + 1 := ⟨gk - 1, by omega⟩
      have HST := Lib.hid (show r = ((smR s[i] || dgR s[i]) && (s.data.toList.drop (i + 1)).all (fun c => smR c || dgR c)) by
        rw [hall.out, List.drop_eq_getElem_cons (show i < s.data.toList.length by rw [Array.length_toList]; exact hlt), List.all_cons]; rfl)
      have S1 := Lib.hid (fun W => small_r s[i] W)
      have D1 := Lib.hid (fun W => digit_r s[i] W)
      obtain ⟨b1, hb1⟩ : ∃ b, b = smR s[i] := ⟨_, rfl⟩
      obtain ⟨b2, hb2⟩ : ∃ b, b = dgR s[i] := ⟨_, rfl⟩
      rw [← hb1] at S1 HST
      rw [← hb2] at D1 HST
      clear hb1 hb2 hall HAL
      go_wp2_with fail
      refine (S1.out _).mono ?_
      rintro e w2 ⟨rfl, rfl⟩
      cases b1
      · go_wp2_with fail
        refine (D1.out _).mono ?_
        rintro e w2 ⟨rfl, rfl⟩
        cases b2
        · go_wp2_with fail
          go_ret
          exact ⟨ret_val (by rw [HST.out]; rfl), rfl⟩
        · go_wp2_with fail
          go_roundg g
          case measure => omega
          case rel => exact ⟨i + 1, by go_num, by omega, rfl, HST.out⟩
      · go_wp2_with fail
        go_roundg g
        case measure => omega
        case rel => exact ⟨i + 1, by go_num, by omega, rfl, by show r = _; rw [HST.out]; rfl⟩
    · obtain rfl : i = s.size := by omega
      have HT := Lib.hid (show r = true by rw [hall.out, List.drop_of_length_le (by rw [Array.length_toList]; exact Nat.le_refl _)]; rfl)
      clear hall
      go_wp2_with fail
      go_ret
      exact ⟨ret_val (by rw [HT.out]; rfl), rfl⟩

set_option maxRecDepth 100000 in
set_option maxHeartbeats 1000000 in
theorem before_r (a b : ByteArray) (w : World) (ha : a.size ≤ 140737488351232) (hb : b.size ≤ 140737488351232) :
    Calls Tryz.prog 72 #[.string a, .string b] w fun e w' => RetB e True ∧ Below w.heap.size w w' := by
  go_enter Tryz.func72, Tryz.ntmps72
  go_wp2_with fail
  go_loopg [5] a.size (fun kk v wr => ∃ i : Nat, v = .int .i64 i ∧ i + kk = a.size ∧ Hid (Below w.heap.size w wr))
  case atStart => exact ⟨0, rfl, by omega, Below.refl _ _⟩
  case round =>
    obtain ⟨i, rfl, hik, hbr⟩ := hrel
    have HQ := Lib.hid (fun nq => show Below w.heap.size w (wr.drewN nq) from hbr.out.trans ⟨rfl, rfl, rfl, Nat.le_refl _, fun _ _ => rfl⟩)
    have HQ2 := Lib.hid (fun p q => show Below w.heap.size w ((wr.drewN p).drewN q) from hbr.out.trans ⟨rfl, rfl, rfl, Nat.le_refl _, fun _ _ => rfl⟩)
    have HBR := Lib.hid hbr.out
    clear hbr
    by_cases h1 : i < a.size
    · obtain ⟨g, rfl⟩ : ∃ g, gk = g + 1 := ⟨gk - 1, by omega⟩
      by_cases h2 : i < b.size
      · obtain ⟨r, hr⟩ : ∃ r : Bool, r = ((a[i].toNat : Int) != (b[i].toNat : Int)) := ⟨_, rfl⟩
        cases r
        · have hr' := hr.symm
          clear hr
          go_wp2_with fail
          go_quiet (fail)
          go_wp2_with fail
          go_roundg g
          case measure => omega
          case rel => exact ⟨i + 1, by go_num, by omega, HQ.out _⟩
        · have hr' := hr.symm
          clear hr
          go_wp2_with fail
          go_quiet (fail)
          go_wp2_with fail
          go_quiet (fail)
          go_wp2_with fail
          go_ret
          exact ⟨.mk _ rfl (fun _ => trivial), HQ2.out _ _⟩
      · go_wp2_with fail
        go_ret
        exact ⟨.mk _ rfl (fun _ => trivial), HBR.out⟩
    · go_wp2_with fail
      go_ret
      exact ⟨.mk _ rfl (fun _ => trivial), HBR.out⟩
end Go.Proofs.YtgmnbdfbbcpciaaGreatDoor
namespace Go.Proofs.YtgmnbdfbbcpciaaGreatDoor
open Go.RowKit Go.Lib
set_option linter.unusedVariables false

def SamesC (N : Nat) : Prop := ∀ (la lb : VL) (sa sb : Option Addr) (ca cb : Nat) (w : World), la.size < N → la.len ≤ 140737488351232 → lb.len ≤ 140737488351232 → la.fit → lb.fit → la.len ≤ ca → lb.len ≤ cb → RpL w (fun b => b < w.heap.size) la sa → RpL w (fun b => b < w.heap.size) lb sb →
  Calls Tryz.prog 37 #[.slice sa la.len ca, .slice sb lb.len cb] w fun e w' => e = .returned (.bool (sameL la lb)) ∧ Below w.heap.size w w'

theorem beq_dec (a b : Int) : (a == b) = decide (a = b) := by
  by_cases h : a = b
  · subst h; simp
  · rw [decide_eq_false h, beq_eq_false_iff_ne]; exact h
theorem sbeq_dec (a b : ByteArray) : (a.toList == b.toList) = decide (a = b) := by
  by_cases h : a = b
  · subst h; simp
  · rw [decide_eq_false h]; exact str_ne h

set_option maxRecDepth 100000 in
set_option maxHeartbeats 2000000 in
theorem sameV_of (k n : Int) (s : ByteArray) (a : VL) (sa : Option Addr) (ca : Nat) (k' n' : Int) (s' : ByteArray) (a' : VL) (sa' : Option Addr) (ca' : Nat) (w : World) (ih : SamesC (a.size + 1))
    (hf : (val1 k n s a).fit) (hf' : (val1 k' n' s' a').fit) (hc : a.len ≤ ca) (hc' : a'.len ≤ ca') (hr : RpL w (fun b => b < w.heap.size) a sa) (hr' : RpL w (fun b => b < w.heap.size) a' sa') :
    Calls Tryz.prog 22 #[.agg #[.int .i64 k, .int .i64 n, .string s, .slice sa a.len ca], .agg #[.int .i64 k', .int .i64 n', .string s', .slice sa' a'.len ca']] w fun e w' => e = .returned (.bool (same1 k n s a k' n' s' a')) ∧ Below w.heap.size w w' := by
  obtain ⟨wa, hwa⟩ : ∃ wa, wa = (w.alloc (.cells #[.int .i64 k, .int .i64 n, .string s, .slice sa a.len ca] 31)).alloc (.cells #[.int .i64 k', .int .i64 n', .string s', .slice sa' a'.len ca'] 31) := ⟨_, rfl⟩
  have hba : Below w.heap.size w wa := by rw [hwa]; exact ((Below.refl _ _).alloc (Nat.le_refl _) _).alloc (by simp) _
  have hwz : wa.heap.size = w.heap.size + 2 := by rw [hwa]; simp
  have hV : StB wa w.heap.size (.int .i64 k) (.int .i64 n) (.string s) (.slice sa a.len ca) := by rw [hwa]; exact (StB.new w _ _ _ _).alloc _
  have hV' : StB wa (w.heap.size + 1) (.int .i64 k') (.int .i64 n') (.string s') (.slice sa' a'.len ca') := by
    rw [hwa]; have := StB.new (w.alloc (.cells #[.int .i64 k, .int .i64 n, .string s, .slice sa a.len ca] 31)) (.int .i64 k') (.int .i64 n') (.string s') (.slice sa' a'.len ca')
    simpa using this
  have IH := Lib.hid (ih a a' sa sa' ca ca' wa (by omega) hf.2.1 hf'.2.1 hf.2.2.1 hf'.2.2.1 hc hc' (hr.keep (fun b hb => hba.block b hb) (fun b hb => by omega)) (hr'.keep (fun b hb => hba.block b hb) (fun b hb => by omega)))
  have v3 := hV.c3; have v3' := hV'.c3
  rw [hwa] at v3 v3'
  have HV := Lib.hid hV
  have HV' := Lib.hid hV'
  have HB := Lib.hid hba
  have HWA := Lib.hid hwa
  have HWZ := Lib.hid hwz
  have e1 := beq_dec k k'
  have e2 := beq_dec n n'
  have e3 := sbeq_dec s s'
  have HS := Lib.hid (show same1 k n s a k' n' s' a' = (sameL a a' && decide (k = k') && decide (n = n') && decide (s = s')) from rfl)
  rw [HS.out]
  obtain ⟨q, hq⟩ : ∃ q, q = sameL a a' := ⟨_, rfl⟩
  obtain ⟨b1, hb1⟩ : ∃ b1, b1 = decide (k = k') := ⟨_, rfl⟩
  obtain ⟨b2, hb2⟩ : ∃ b2, b2 = decide (n = n') := ⟨_, rfl⟩
  obtain ⟨b3, hb3⟩ : ∃ b3, b3 = decide (s = s') := ⟨_, rfl⟩
  rw [← hq] at IH ⊢
  rw [← hb1] at e1 ⊢
  rw [← hb2] at e2 ⊢
  rw [← hb3] at e3 ⊢
  clear hba hwz hV hV' hwa hr hr' hq hb1 hb2 hb3 HS ih
  have fin : ∀ w5, Below wa.heap.size wa w5 → Below w.heap.size w w5 := fun w5 h => HB.out.trans (below_le' h HB.out.size)
  have FIN := Lib.hid fin
  clear fin
  cases q with
  | false =>
    clear e1 e2 e3
    go_enter Tryz.func22, Tryz.ntmps22
    go_wp2_with fail
    rw [← HWA.out]
    refine IH.out.mono ?_
    rintro e w5 ⟨rfl, hb5⟩
    have HB5 := Lib.hid (FIN.out _ hb5)
    clear hb5
    go_wp2_with fail
    go_ret
    exact ⟨rfl, HB5.out⟩
  | true =>
    cases b1 with
    | false =>
      clear e2 e3
      go_enter Tryz.func22, Tryz.ntmps22
      go_wp2_with fail
      rw [← HWA.out]
      refine IH.out.mono ?_
      rintro e w5 ⟨rfl, hb5⟩
      have hv5 := HV.out.below' hb5
      have hv5' := HV'.out.below' hb5
      have u0 := hv5.c0; have u0' := hv5'.c0
      have HB5 := Lib.hid (FIN.out _ hb5)
      clear hb5 hv5 hv5' v3 v3'
      go_wp2_with fail
      go_ret
      exact ⟨rfl, HB5.out⟩
    | true =>
      cases b2 with
      | false =>
        clear e3
        go_enter Tryz.func22, Tryz.ntmps22
        go_wp2_with fail
        rw [← HWA.out]
        refine IH.out.mono ?_
        rintro e w5 ⟨rfl, hb5⟩
        have hv5 := HV.out.below' hb5
        have hv5' := HV'.out.below' hb5
        have u0 := hv5.c0; have u0' := hv5'.c0
        have u1 := hv5.c1; have u1' := hv5'.c1
        have HB5 := Lib.hid (FIN.out _ hb5)
        clear hb5 hv5 hv5' v3 v3'
        go_wp2_with fail
        go_ret
        exact ⟨rfl, HB5.out⟩
      | true =>
        go_enter Tryz.func22, Tryz.ntmps22
        go_wp2_with fail
        rw [← HWA.out]
        refine IH.out.mono ?_
        rintro e w5 ⟨rfl, hb5⟩
        have hv5 := HV.out.below' hb5
        have hv5' := HV'.out.below' hb5
        have u0 := hv5.c0; have u0' := hv5'.c0
        have u1 := hv5.c1; have u1' := hv5'.c1
        have u2 := hv5.c2; have u2' := hv5'.c2
        have HB5 := Lib.hid (FIN.out _ hb5)
        clear hb5 hv5 hv5' v3 v3'
        go_wp2_with fail
        go_ret
        exact ⟨ret_bool (by simp), HB5.out⟩
end Go.Proofs.YtgmnbdfbbcpciaaGreatDoor
namespace Go.Proofs.YtgmnbdfbbcpciaaGreatDoor
open Go.RowKit Go.Lib
set_option linter.unusedVariables false

/-- 'make([]T, 0, n)' at a step of a region that draws. -/
theorem step_make_own {P : Program} {ops : Array Oper} {o : Oper} {a : Act} {w : World} {K : Act → World → Prop} {Q : Exit → Act → World → Prop} {E : Prop} (hgd : o.guard = none) (l c : Operand) (t : TypeId) (hop : o.op = Op.makeSlice t l c)
    (base : Nat) (e : TypeId) (i : TypeInfo) (z : Value) (size : Nat) (h1 : P.underlying t = some (.slice e)) (h2 : P.info? e = some i) (h3 : i.zero = some z) (h4 : i.size = size)
    (kl kc : IntKind) (C : Int) (n : Nat) (hl : a.eval l = .int kl 0) (hc : a.eval c = .int kc C) (hC : C = (n : Int)) (b2 : i.bytes * n ≤ 281474976710656) (b3 : n ≤ maxLen) (b4 : base ≤ w.heap.size)
    (h : ∀ w', w'.ownsRow base e size (.slice (some ⟨w.heap.size, 0, none⟩) 0 n) 0 [] → w.grownBy w' none → K (a.put o.dst (.slice (some ⟨w.heap.size, 0, none⟩) 0 n)) w') :
    if Region.wanted o (yielded ops a.tmps) = true then Oper.wp P o a w K Q else E := by
  have hw : Region.wanted o (yielded ops a.tmps) = true := by simp [Region.wanted, hgd]
  rw [if_pos hw]
  obtain ⟨w', hrun, r1, r2⟩ := run_make_own (P := P) w base t e i z size h1 h2 h3 h4 kl kc n b2 b3 b4
  subst hC
  unfold Oper.wp
  simp [execOp, hop, hl, hc, hrun, Result.andThen]
  exact h w' r1 r2
/-- 'append(own, row...)' at a step of a region that draws. -/
theorem step_append_own {P : Program} {ops : Array Oper} {o : Oper} {a : Act} {w : World} {K : Act → World → Prop} {Q : Exit → Act → World → Prop} {E : Prop} (hgd : o.guard = none) (s x : Operand) (t : TypeId)
    (ho : o.op = .call { callee := .builtin .append, args := #[s, x], argTypes := #[t, t] })
    (base : Nat) (e : TypeId) (i : TypeInfo) (z : Value) (size bytes : Nat) (ht : P.underlying t = some (.slice e)) (hi : P.info? e = some i) (hz : i.zero = some z)
    (hsize : i.size = size) (hby : i.bytes = bytes) (hzs : z.cells.size = size) (hsz : 0 < size)
    (v : Value) (n : Nat) (xs : List Value) (hs : a.eval s = v) (hown : w.ownsRow base e size v n xs)
    (ad : Addr) (m c : Nat) (news : List Value) (hx : a.eval x = .slice (some ad) m c) (hl : news.length = m * size) (hnews : ∀ j u, news[j]? = some u → w.cell? (ad.add j) = some u) (h1 : ∀ u ∈ news, u.oneCell' = true)
    (h63 : n + m ≤ maxLen) (hbytes : (n + m) * bytes ≤ 140737488355328) (hbase : base ≤ w.heap.size)
    (h : ∀ v' w', w'.ownsRow base e size v' (n + m) (xs ++ news) → w.grownBy w' v.ownBlock → K (a.put o.dst v') w') :
    if Region.wanted o (yielded ops a.tmps) = true then Oper.wp P o a w K Q else E := by
  have hw : Region.wanted o (yielded ops a.tmps) = true := by simp [Region.wanted, hgd]
  rw [if_pos hw]
  obtain ⟨v', w', hrun, r1, r2, _⟩ := run_append_own (P := P) (w := w) base t o.type e i z size bytes ht hi hz hsize hby hzs hsz v n xs hown ad m c news hl hnews h1 h63 hbytes hbase
  unfold Oper.wp
  simp [execOp, ho, resolve, invoke, builtin, hs, hx, hrun, Result.andThen]
  exact h v' w' r1 r2
theorem step_append_own_none {P : Program} {ops : Array Oper} {o : Oper} {a : Act} {w : World} {K : Act → World → Prop} {Q : Exit → Act → World → Prop} {E : Prop} (hgd : o.guard = none) (s x : Operand) (t : TypeId)
    (ho : o.op = .call { callee := .builtin .append, args := #[s, x], argTypes := #[t, t] })
    (base : Nat) (e : TypeId) (i : TypeInfo) (size : Nat) (ht : P.underlying t = some (.slice e)) (hi : P.info? e = some i)
    (v : Value) (n : Nat) (xs : List Value) (hs : a.eval s = v) (hown : w.ownsRow base e size v n xs) (hx : a.eval x = .slice none 0 0)
    (h : K (a.put o.dst v) w) : if Region.wanted o (yielded ops a.tmps) = true then Oper.wp P o a w K Q else E := by
  have hw : Region.wanted o (yielded ops a.tmps) = true := by simp [Region.wanted, hgd]
  rw [if_pos hw]
  have hrun := run_append_owned_none (P := P) (w := w) base t o.type e i size ht hi v n xs hown
  unfold Oper.wp
  simp [execOp, ho, resolve, invoke, builtin, hs, hx, hrun, Result.andThen]
  exact h

/-- A made row of texts, in any world. -/
theorem make_strs {T E : TypeId} {P : Program} {i : TypeInfo} {z : Value} (ht : P.underlying T = some (.slice E)) (hi : P.info? E = some i) (hz : i.zero = some z) (hs : i.size = 1) (hb : i.bytes = 16) (n : Nat) (hn : n ≤ 100000) :
    ∃ mc : Array Value, (∀ W : World, (Instr.makeSlice T (.int .i64 0) (.int .i64 (n : Int))).run P W = .ok (.slice (some ⟨W.heap.size, 0, none⟩) 0 n) (W.alloc (.cells mc E))) ∧
      ∀ (W : World) (base : Nat), base ≤ W.heap.size → (W.alloc (.cells mc E)).ownsRow base E 1 (.slice (some ⟨W.heap.size, 0, none⟩) 0 n) 0 [] := by
  refine ⟨madeCells z.cells (n * i.size), fun W => ?_, fun W base h => ?_⟩
  · have h := run_make (P := P) W T E i z ht hi hz .i64 .i64 0 (n : Int) (Int.le_refl _) (by omega) (by rw [hb]; omega) (by omega)
    simpa using h
  · refine World.ownsRow_made W _ n h (by unfold maxLen; omega) ?_
    rw [size_madeCells, hs]
def vstr (l : List ByteArray) : List Value := l.map Value.string
theorem vstr_len (l : List ByteArray) : (vstr l).length = l.length := List.length_map _
theorem vstr_at (l : List ByteArray) (j : Nat) : (vstr l)[j]? = (l[j]?).map Value.string := List.getElem?_map
theorem vstr_one (l : List ByteArray) : ∀ u ∈ vstr l, u.oneCell' = true := by
  intro u hu; unfold vstr at hu; rw [List.mem_map] at hu; obtain ⟨x, _, rfl⟩ := hu; rfl

theorem addr_at (b o k : Nat) : (⟨b, o, none⟩ : Addr).add k = ⟨b, o + k, none⟩ := by unfold Addr.add; split <;> simp_all
/-- Texts that lie somewhere. -/
def StrAt (w : World) (g o : Nat) (l : List ByteArray) : Prop := g < w.heap.size ∧ ∀ (j : Nat) (x : ByteArray), l[j]? = some x → w.cell? ⟨g, o + j, none⟩ = some (.string x)
theorem StrAt.below {w w' : World} {g o : Nat} {l : List ByteArray} (h : StrAt w g o l) (hb : Below w.heap.size w w') : StrAt w' g o l :=
  ⟨Nat.lt_of_lt_of_le h.1 hb.size, fun j x hx => (hb.cell (p := ⟨g, o + j, none⟩) h.1).trans (h.2 j x hx)⟩

set_option maxRecDepth 100000 in
set_option maxHeartbeats 4000000 in
theorem rising_r (l : List ByteArray) (g o c : Nat) (w : World) (hl : l.length ≤ 1000) (hz : ∀ x ∈ l, x.size ≤ 1000) (hc : l.length ≤ c) (hat : StrAt w g o l) :
    Calls Tryz.prog 56 #[.slice (some ⟨g, o, none⟩) l.length c] w fun e w' => (∃ (v : Value) (R : List ByteArray), e = .returned v ∧ w'.ownsRow w.heap.size 9 1 v R.length (vstr R) ∧ R.length ≤ l.length ∧ ∀ x ∈ l, x ∈ R) ∧ Below w.heap.size w w' := by
  obtain ⟨j0, hj0, hy0, hy1, hy2⟩ := info_parts str_info
  have HAT := Lib.hid hat
  have HZ := Lib.hid hz
  clear hat hz
  go_enter Tryz.func56, Tryz.ntmps56
  go_wp2_with fail
  go_loopg [3, 4] l.length (fun kk ov v wr => ∃ (bv : Value) (i : Nat) (R : List ByteArray), bv = ov ∧ v = .int .i64 i ∧ i + kk = l.length ∧ R.length ≤ i ∧ Hid (wr.ownsRow w.heap.size 9 1 bv R.length (vstr R)) ∧ Hid (Below w.heap.size w wr) ∧ Hid (∀ x ∈ l.take i, x ∈ R) ∧ Hid (∀ x ∈ R, x.size ≤ 1000))
  case atStart => exact ⟨_, 0, [], rfl, rfl, by omega, Nat.le_refl _, World.ownsRow_nil _ _ _ _, Below.refl _ _, fun x hx => by simp at hx, fun x hx => by simp at hx⟩
  case round =>
    obtain ⟨bv, i, R, rfl, rfl, hik, hRi, hown, hbr, hmem, hsz⟩ := hrel
    by_cases hi : i < l.length
    · obtain ⟨g', rfl⟩ : ∃ g', gk = g' + 1 := ⟨gk - 1, by omega⟩
      obtain ⟨x, hx⟩ : ∃ x, l[i]? = some x := ⟨_, List.getElem?_eq_getElem hi⟩
      have hxm : x ∈ l := List.mem_of_getElem? hx
      have hxs := HZ.out x hxm
      have hcx := ((HAT.out.below hbr.out).2 i x hx)
      obtain ⟨wo, rfl⟩ : ∃ wo, wo = wr := ⟨_, rfl⟩
      have HOW := Lib.hid hown.out
      have HBR := Lib.hid hbr.out
      have HMEM := Lib.hid hmem.out
      have HSZ := Lib.hid hsz.out
      have HXC := Lib.hid (show ∀ W, Below wo.heap.size wo W → W.cell? ⟨g, o + i, none⟩ = some (.string x) from fun W hW => (hW.cell (p := ⟨g, o + i, none⟩) (by have := HAT.out.1; have := HBR.out.size; show g < wo.heap.size; omega)).trans hcx)
      obtain ⟨ba, bc, hbv⟩ := own_form HOW.out
      subst hbv
      have hRc : R.length ≤ bc := by
        rcases HOW.out.2 with ⟨h1, h2⟩ | ⟨gb, cap, cur, h1, h2, h3, h4, _⟩
        · injection h1 with _ h5 h6; omega
        · injection h1 with _ _ h6; omega
      clear hown hbr hmem hsz hcx
      go_upto_block 2 with fail
      go_cut [5] (fun v wx => ∃ k : Nat, v = .int .i64 (k : Int) ∧ k ≤ R.length ∧ Hid (Below wo.heap.size wo wx))
      case first =>
        go_wp2_with fail
        go_loopg [5] R.length (fun kq v wx => ∃ k : Nat, v = .int .i64 (k : Int) ∧ k + kq = R.length ∧ Hid (Below wo.heap.size wo wx))
        case atStart => exact ⟨0, rfl, by omega, Below.refl _ _⟩
        case round =>
          obtain ⟨k, rfl, hkk, hbx⟩ := hrel
          by_cases hk : k < R.length
          · obtain ⟨g2, rfl⟩ : ∃ g2, gk = g2 + 1 := ⟨gk - 1, by omega⟩
            obtain ⟨y, hy⟩ : ∃ y, R[k]? = some y := ⟨_, List.getElem?_eq_getElem hk⟩
            have hys := HSZ.out y (List.mem_of_getElem? hy)
            obtain ⟨gb, hgb, hgl, hcy⟩ : ∃ gb, ba = some ⟨gb, 0, none⟩ ∧ gb < wo.heap.size ∧ wo.cell? ⟨gb, k, none⟩ = some (.string y) := by
              rcases HOW.out.2 with ⟨h1, h2⟩ | ⟨gb, cap, cur, h1, h2, h3, h4, h5, h6, h7⟩
              · omega
              · injection h1 with h8 _ h9
                subst h8
                refine ⟨gb, rfl, (HOW.out.lt gb rfl).2, ?_⟩
                have h10 := HOW.out.cells (g := gb) rfl k (.string y) (by rw [vstr_at, hy]; rfl)
                rw [addr_at, Nat.zero_add] at h10; exact h10
            subst hgb
            have HYC := Lib.hid (show ∀ W, Below wo.heap.size wo W → W.cell? ⟨gb, k, none⟩ = some (.string y) from fun W hW => (hW.cell (p := ⟨gb, k, none⟩) hgl).trans hcy)
            have HBX := Lib.hid hbx.out
            clear hbx hcy
            have BF := Lib.hid (fun W (h : W.cell? ⟨gb, k, none⟩ = some (.string y) ∧ W.cell? ⟨g, o + i, none⟩ = some (.string x) ∧ Below wo.heap.size wo W) => (before_r y x W (by omega) (by omega)).mono (R' := fun e W' => (∃ bq : Bool, e = .returned (.bool bq)) ∧ (W'.cell? ⟨gb, k, none⟩ = some (.string y) ∧ W'.cell? ⟨g, o + i, none⟩ = some (.string x) ∧ Below wo.heap.size wo W')) fun e W' ⟨h1, h2⟩ => ⟨(let ⟨bq, h3, _⟩ := h1.out; ⟨bq, h3⟩), by
              have hb2 : Below wo.heap.size wo W' := h.2.2.trans (below_le' h2 h.2.2.size)
              exact ⟨HYC.out _ hb2, HXC.out _ hb2, hb2⟩⟩)
            have K0 : wr.drew.cell? ⟨gb, k, none⟩ = some (.string y) ∧ wr.drew.cell? ⟨g, o + i, none⟩ = some (.string x) ∧ Below wo.heap.size wo wr.drew := ⟨HYC.out _ HBX.out.drew, HXC.out _ HBX.out.drew, HBX.out.drew⟩
            have k1 : (k : Int) < (R.length : Int) := by omega
            go_upto_region 6 with fail
            go_region_held3 (fun W => W.cell? ⟨gb, k, none⟩ = some (.string y) ∧ W.cell? ⟨g, o + i, none⟩ = some (.string x) ∧ Below wo.heap.size wo W)
              (first | (with_reducible assumption) | (with_reducible exact K0))
              (first
                | (go_at_call 72; with_reducible refine (BF.out _ ?_).mono ?_; (with_reducible assumption); rintro e w10 ⟨⟨bq, rfl⟩, hs10⟩))
            all_goals
              have HB10 := Lib.hid hs10.2.2
              clear hs10
              cases bq
              · go_wp2_with fail
                go_meet
                exact ⟨k, rfl, by omega, HB10.out⟩
              · go_wp2_with fail
                go_roundg g2
                case measure => omega
                case rel => exact ⟨k + 1, by go_num, by omega, HB10.out⟩
          · have HBX := Lib.hid hbx.out
            clear hbx
            obtain rfl : k = R.length := by omega
            have k1 : ¬ ((R.length : Int) < (R.length : Int)) := by omega
            have HQ := Lib.hid (fun nq => show Below wo.heap.size wo (wr.drewN nq) from HBX.out.trans ⟨rfl, rfl, rfl, Nat.le_refl _, fun _ _ => rfl⟩)
            go_upto_region 6 with fail
            go_quiet (fail)
            go_wp2_with fail
            go_meet
            exact ⟨R.length, rfl, Nat.le_refl _, HQ.out _⟩
      case rest =>
        obtain ⟨k, rfl, hk, hbx⟩ := hcut
        have HBX := Lib.hid hbx.out
        have hwz := hbx.out.size
        have HQ := Lib.hid (fun nq => show Below wo.heap.size wo (wc.drewN nq) from HBX.out.trans ⟨rfl, rfl, rfl, Nat.le_refl _, fun _ _ => rfl⟩)
        clear hbx
        go_upto_region 8 with fail
        go_cut [44] (fun v wx => v = .bool (decide (R[k]? = some x)) ∧ Hid (Below wo.heap.size wo wx))
        case first =>
          by_cases hk2 : k < R.length
          · obtain ⟨y, hy⟩ : ∃ y, R[k]? = some y := ⟨_, List.getElem?_eq_getElem hk2⟩
            obtain ⟨gb, hgb, hgl, hcy⟩ : ∃ gb, ba = some ⟨gb, 0, none⟩ ∧ gb < wo.heap.size ∧ wo.cell? ⟨gb, k, none⟩ = some (.string y) := by
              rcases HOW.out.2 with ⟨h1, h2⟩ | ⟨gb, cap, cur, h1, h2, h3, h4, h5, h6, h7⟩
              · omega
              · injection h1 with h8 _ h9
                subst h8
                refine ⟨gb, rfl, (HOW.out.lt gb rfl).2, ?_⟩
                have h10 := HOW.out.cells (g := gb) rfl k (.string y) (by rw [vstr_at, hy]; rfl)
                rw [addr_at, Nat.zero_add] at h10; exact h10
            subst hgb
            have z1 : wc.cell? ⟨gb, k, none⟩ = some (.string y) := (HBX.out.cell (p := ⟨gb, k, none⟩) hgl).trans hcy
            have z2 := HXC.out wc HBX.out
            have hdd := sbeq_dec y x
            obtain ⟨r, hr⟩ : ∃ r : Bool, r = decide (y = x) := ⟨_, rfl⟩
            rw [← hr] at hdd
            have HR := Lib.hid (show r = decide (R[k]? = some x) by rw [hr, hy]; simp)
            clear hr hy hcy
            have k1 : (k : Int) < (R.length : Int) := by omega
            cases r
            all_goals
              go_quiet (fail)
              go_wp2_with fail
              go_meet
              exact ⟨by rw [← HR.out], HQ.out _⟩
          · have HR := Lib.hid (show false = decide (R[k]? = some x) by rw [List.getElem?_eq_none (by omega)]; rfl)
            have k1 : ¬ ((k : Int) < (R.length : Int)) := by omega
            go_quiet (fail)
            go_wp2_with fail
            go_meet
            exact ⟨by rw [← HR.out], HQ.out _⟩
        case rest =>
          obtain ⟨rfl, hbx8⟩ := hcut
          have HBX8 := Lib.hid hbx8.out
          clear hbx8
          by_cases heq : R[k]? = some x
          · rw [decide_eq_true heq]
            have HM2 := Lib.hid (show ∀ z ∈ l.take (i + 1), z ∈ R from fun z hz => by
              rw [List.take_succ_eq_append_getElem hi, List.mem_append, List.mem_singleton] at hz
              rcases hz with hz | hz
              · exact HMEM.out z hz
              · rw [List.getElem?_eq_getElem hi] at hx; injection hx with hx
                rw [hz, hx]; exact List.mem_of_getElem? heq)
            have HOW2 := Lib.hid (fun w2 (h2 : Below wo.heap.size wo w2) => own_below HOW.out h2)
            clear heq
            go_wp2_with fail
            go_roundg g'
            case measure => omega
            case rel => exact ⟨_, i + 1, R, rfl, by go_num, by omega, by omega, HOW2.out _ HBX8.out, HBR.out.trans (below_le' HBX8.out HBR.out.size), HM2.out, HSZ.out⟩
          · rw [decide_eq_false heq]
            clear heq
            have hz8 := HBX8.out.size
            have eN : IntKind.i64.wrap ((R.length : Int) + 1) = (R.length : Int) + 1 := IntWalk.i64_in _ (by omega)
            have hkb : k ≤ bc := by omega
            have hcells : ba = none ∧ R.length = 0 ∧ bc = 0 ∨ ∃ gb, ba = some ⟨gb, 0, none⟩ ∧ gb < wo.heap.size ∧ ∀ (j : Nat) (y : ByteArray), R[j]? = some y → wo.cell? ⟨gb, j, none⟩ = some (.string y) := by
              rcases HOW.out.2 with ⟨h1, h2⟩ | ⟨gb, cap, cur, h1, h2, h3, h4, h5, h6, h7⟩
              · injection h1 with h8 h9 h10
                exact .inl ⟨h8, by omega, h10⟩
              · injection h1 with h8 _ h9
                subst h8
                refine .inr ⟨gb, rfl, (HOW.out.lt gb rfl).2, fun j y hy => ?_⟩
                have h10 := HOW.out.cells (g := gb) rfl j (.string y) (by rw [vstr_at, hy]; rfl)
                rw [addr_at, Nat.zero_add] at h10; exact h10
            obtain ⟨mc, hmk, hmo⟩ := make_strs Tryz.underlying70 hj0 hy0 hy1 hy2 (R.length + 1) (by omega)
            rw [show ((R.length + 1 : Nat) : Int) = (R.length : Int) + 1 from by omega] at hmk
            have HMO := Lib.hid hmo
            clear hmo
            go_upto_region 9 with fail
            go_cut [6] (fun v wx => Hid (wx.ownsRow wo.heap.size 9 1 v k (vstr (R.take k))) ∧ Hid (Below wo.heap.size wo wx))
            case first =>
              have HB9 := Lib.hid (show Below wo.heap.size wo (wc.drew.alloc (.cells mc 9)) from (HBX8.out.drew).alloc hz8 _)
              have HO9 := Lib.hid (HMO.out wc.drew wo.heap.size hz8)
              rcases hcells with ⟨rfl, hR0, rfl⟩ | ⟨gb, rfl, hgl, hcell⟩
              · obtain rfl : R = [] := List.eq_nil_of_length_eq_zero hR0
                obtain rfl : k = 0 := by omega
                have eN1 : IntKind.i64.wrap 1 = 1 := by decide
                have hmk1 : ∀ W : World, (Instr.makeSlice 70 (.int .i64 0) (.int .i64 1)).run Tryz.prog W = .ok (.slice (some ⟨W.heap.size, 0, none⟩) 0 1) (W.alloc (.cells mc 9)) := hmk
                clear hmk
                go_region_law (first
                  | (refine step_append_own_none (by rfl) (.tmp 48) (.tmp 51) 70 (by rfl) wo.heap.size 9 j0 1 Tryz.underlying70 hj0 _ 0 [] (by rfl) HO9.out (by rfl) ?_))
                all_goals
                  go_wp2_with fail
                  go_meet
                  exact ⟨HO9.out, HB9.out⟩
              · have hnc : ∀ j u, (vstr (R.take k))[j]? = some u → (wc.drew.alloc (.cells mc 9)).cell? ((⟨gb, 0, none⟩ : Addr).add j) = some u := by
                  intro j u hu
                  rw [vstr_at] at hu
                  obtain ⟨y, hy, rfl⟩ := Option.map_eq_some_iff.1 hu
                  rw [List.getElem?_take] at hy
                  split at hy
                  · rw [addr_at, Nat.zero_add]
                    exact (HB9.out.cell (p := ⟨gb, j, none⟩) hgl).trans (hcell j y hy)
                  · cases hy
                have HNC := Lib.hid hnc
                clear hnc hcell
                go_region_law (first
                  | (refine step_append_own (by rfl) (.tmp 48) (.tmp 51) 70 (by rfl) wo.heap.size 9 j0 (.string ⟨#[]⟩) 1 16 Tryz.underlying70 hj0 hy0 hy1 hy2 (by rfl) (by decide) _ 0 [] (by rfl) HO9.out ⟨gb, 0, none⟩ k bc (vstr (R.take k)) (by rfl) (by rw [vstr_len, List.length_take]; omega) HNC.out (vstr_one _) (by unfold maxLen; omega) (by omega) (by have := HB9.out.size; exact this) ?_
                     intro v9 w9 hown9 hgrow9))
                all_goals
                  have HO10 := Lib.hid (show w9.ownsRow wo.heap.size 9 1 v9 k (vstr (R.take k)) by have h := hown9; rw [Nat.zero_add, List.nil_append] at h; exact h)
                  have HB10 := Lib.hid (grown_belowN HB9.out HB9.out.size hgrow9 (fun q hq => (HO9.out.lt q hq).1))
                  clear hown9 hgrow9
                  go_wp2_with fail
                  go_meet
                  exact ⟨HO10.out, HB10.out⟩
            case rest =>
              obtain ⟨ho9, hb9⟩ := hcut
              have HO9 := Lib.hid ho9.out
              have HB9 := Lib.hid hb9.out
              clear ho9 hb9
              have z2 := HXC.out wc HB9.out
              have HLN := Lib.hid (show (R.take k ++ [x] ++ R.drop k).length = R.length + 1 by simp only [List.length_append, List.length_take, List.length_drop, List.length_singleton]; omega)
              have HM3 := Lib.hid (show ∀ z ∈ l.take (i + 1), z ∈ R.take k ++ [x] ++ R.drop k from fun z hz => by
                rw [List.take_succ_eq_append_getElem hi, List.mem_append, List.mem_singleton] at hz
                rcases hz with hz | hz
                · have h := HMEM.out z hz
                  rw [← List.take_append_drop k R, List.mem_append] at h
                  simp only [List.mem_append, List.mem_singleton]
                  rcases h with h | h
                  · exact .inl (.inl h)
                  · exact .inr h
                · rw [List.getElem?_eq_getElem hi] at hx; injection hx with hx
                  simp only [List.mem_append, List.mem_singleton]
                  exact .inl (.inr (hz.trans hx)))
              have HS3 := Lib.hid (show ∀ z ∈ R.take k ++ [x] ++ R.drop k, z.size ≤ 1000 from fun z hz => by
                simp only [List.mem_append, List.mem_singleton] at hz
                rcases hz with (hz | hz) | hz
                · exact HSZ.out z (List.mem_of_mem_take hz)
                · rw [hz]; exact hxs
                · exact HSZ.out z (List.mem_of_mem_drop hz))
              have HBA := Lib.hid (show Below wo.heap.size wo (wc.alloc (.cells #[.string x] 9)) from HB9.out.alloc HB9.out.size _)
              have HOA := Lib.hid (own_below HO9.out (show Below wc.heap.size wc (wc.alloc (.cells #[.string x] 9)) from (Below.refl _ _).alloc (Nat.le_refl _) _))
              have k1 : (k : Int) ≤ (R.length : Int) := by omega
              have k2 : (0 : Int) ≤ (k : Int) := by omega
              have kk : k + 1 ≤ 2000 := by omega
              rcases hcells with ⟨rfl, hR0, rfl⟩ | ⟨gb, rfl, hgl, hcell⟩
              · obtain rfl : R = [] := List.eq_nil_of_length_eq_zero hR0
                obtain rfl : k = 0 := by omega
                go_wp2_with (first
                  | (at_builtin; refine wpList_append_own _ rfl (.tmp 53) (.tmp 58) 70 rfl wo.heap.size 9 j0 (.string ⟨#[]⟩) 1 16 Tryz.underlying70 hj0 hy0 hy1 hy2 rfl (by decide) _ _ _ rfl HOA.out ⟨wc.heap.size, 0, none⟩ 1 1 [.string x] rfl rfl ?c1 ?c2 ?c3 ?c4 ?c5 ?_
                     case c1 => exact cell_one_new _ _ _
                     case c2 => intro u hu; simp at hu; subst hu; rfl
                     case c3 => unfold maxLen; omega
                     case c4 => omega
                     case c5 => exact HBA.out.size
                     intro v10 w10 hown10 hgrow10 _
                     have HB10 := Lib.hid (grown_belowN HBA.out HBA.out.size hgrow10 (fun q hq => (HOA.out.lt q hq).1))
                     have HO10 := Lib.hid hown10
                     clear hown10 hgrow10)
                  | (at_builtin; refine wpList_append_own_none rfl (.tmp 60) (.tmp 63) 70 rfl wo.heap.size 9 j0 1 Tryz.underlying70 hj0 v10 _ _ rfl HO10.out rfl ?_))
                have HO12 := Lib.hid (show w10.ownsRow w.heap.size 9 1 v10 ([] ++ [x] ++ [] : List ByteArray).length (vstr ([] ++ [x] ++ [])) from own_lower HO10.out HBR.out.size)
                go_roundg g'
                case measure => omega
                case rel => exact ⟨_, i + 1, [] ++ [x] ++ [], rfl, by go_num, by omega, by simp, HO12.out, HBR.out.trans (below_le' HB10.out HBR.out.size), HM3.out, HS3.out⟩
              · have hnd : ∀ j u, (vstr (R.drop k))[j]? = some u → wo.cell? ((⟨gb, k, none⟩ : Addr).add j) = some u := by
                  intro j u hu
                  rw [vstr_at] at hu
                  obtain ⟨y, hy, rfl⟩ := Option.map_eq_some_iff.1 hu
                  rw [List.getElem?_drop] at hy
                  rw [addr_at]; exact hcell _ y hy
                have HND := Lib.hid (show ∀ W, Below wo.heap.size wo W → ∀ j u, (vstr (R.drop k))[j]? = some u → W.cell? ((⟨gb, k, none⟩ : Addr).add j) = some u from fun W hW j u hu => by
                  have h := hnd j u hu
                  rw [addr_at] at h ⊢
                  exact (hW.cell (p := ⟨gb, k + j, none⟩) hgl).trans h)
                clear hnd hcell
                by_cases hbk : k = bc
                · have hRk : R.length = k := by omega
                  have hq2 : bc - k = 0 := by omega
                  have hq3 : R.length - k = 0 := by omega
                  have HDR := Lib.hid (show R.drop k = [] from List.drop_of_length_le (by omega))
                  go_wp2_with (first
                    | (at_builtin; refine wpList_append_own _ rfl (.tmp 53) (.tmp 58) 70 rfl wo.heap.size 9 j0 (.string ⟨#[]⟩) 1 16 Tryz.underlying70 hj0 hy0 hy1 hy2 rfl (by decide) _ _ _ rfl HOA.out ⟨wc.heap.size, 0, none⟩ 1 1 [.string x] rfl rfl ?c1 ?c2 ?c3 ?c4 ?c5 ?_
                       case c1 => exact cell_one_new _ _ _
                       case c2 => intro u hu; simp at hu; subst hu; rfl
                       case c3 => unfold maxLen; omega
                       case c4 => omega
                       case c5 => exact HBA.out.size
                       intro v10 w10 hown10 hgrow10 _
                       have HB10 := Lib.hid (grown_belowN HBA.out HBA.out.size hgrow10 (fun q hq => (HOA.out.lt q hq).1))
                       have HO10 := Lib.hid hown10
                       clear hown10 hgrow10)
                    | (at_builtin; refine wpList_append_own _ rfl (.tmp 60) (.tmp 63) 70 rfl wo.heap.size 9 j0 (.string ⟨#[]⟩) 1 16 Tryz.underlying70 hj0 hy0 hy1 hy2 rfl (by decide) v10 _ _ rfl HO10.out ⟨gb, 0, none⟩ 0 0 (vstr (R.drop k)) rfl ?d0 ?d1 ?d2 ?d3 ?d4 ?d5 ?_
                       case d0 => rw [HDR.out]; rfl
                       case d1 => intro j u hu; rw [HDR.out] at hu; simp [vstr] at hu
                       case d2 => exact vstr_one _
                       case d3 => unfold maxLen; omega
                       case d4 => omega
                       case d5 => exact HB10.out.size
                       intro v11 w11 hown11 hgrow11 _
                       have HB11 := Lib.hid (grown_belowN HB10.out HB10.out.size hgrow11 (fun q hq => (HO10.out.lt q hq).1))
                       have HO11 := Lib.hid hown11
                       clear hown11 hgrow11))
                  have HO12 := Lib.hid (show w11.ownsRow w.heap.size 9 1 v11 (R.take k ++ [x] ++ R.drop k).length (vstr (R.take k ++ [x] ++ R.drop k)) from by
                    have h := own_lower HO11.out HBR.out.size
                    rw [HLN.out]
                    have e : k + 1 + 0 = R.length + 1 := by omega
                    rw [e] at h
                    have e2 : vstr (R.take k) ++ [Value.string x] ++ vstr (R.drop k) = vstr (R.take k ++ [x] ++ R.drop k) := by unfold vstr; simp
                    rw [e2] at h
                    exact h)
                  go_roundg g'
                  case measure => omega
                  case rel => exact ⟨_, i + 1, R.take k ++ [x] ++ R.drop k, rfl, by go_num, by omega, by rw [HLN.out]; omega, HO12.out, HBR.out.trans (below_le' HB11.out HBR.out.size), HM3.out, HS3.out⟩
                · have hq2 : ¬ ((bc : Int) - (k : Int) = 0) := by omega
                  go_wp2_with (first
                    | (at_builtin; refine wpList_append_own _ rfl (.tmp 53) (.tmp 58) 70 rfl wo.heap.size 9 j0 (.string ⟨#[]⟩) 1 16 Tryz.underlying70 hj0 hy0 hy1 hy2 rfl (by decide) _ _ _ rfl HOA.out ⟨wc.heap.size, 0, none⟩ 1 1 [.string x] rfl rfl ?c1 ?c2 ?c3 ?c4 ?c5 ?_
                       case c1 => exact cell_one_new _ _ _
                       case c2 => intro u hu; simp at hu; subst hu; rfl
                       case c3 => unfold maxLen; omega
                       case c4 => omega
                       case c5 => exact HBA.out.size
                       intro v10 w10 hown10 hgrow10 _
                       have HB10 := Lib.hid (grown_belowN HBA.out HBA.out.size hgrow10 (fun q hq => (HOA.out.lt q hq).1))
                       have HO10 := Lib.hid hown10
                       clear hown10 hgrow10)
                    | (at_builtin; refine wpList_append_own _ rfl (.tmp 60) (.tmp 63) 70 rfl wo.heap.size 9 j0 (.string ⟨#[]⟩) 1 16 Tryz.underlying70 hj0 hy0 hy1 hy2 rfl (by decide) v10 _ _ rfl HO10.out ⟨gb, k, none⟩ (R.length - k) (bc - k) (vstr (R.drop k)) rfl ?d0 ?d1 ?d2 ?d3 ?d4 ?d5 ?_
                       case d0 => rw [vstr_len, List.length_drop]; omega
                       case d1 => exact HND.out _ HB10.out
                       case d2 => exact vstr_one _
                       case d3 => unfold maxLen; omega
                       case d4 => omega
                       case d5 => exact HB10.out.size
                       intro v11 w11 hown11 hgrow11 _
                       have HB11 := Lib.hid (grown_belowN HB10.out HB10.out.size hgrow11 (fun q hq => (HO10.out.lt q hq).1))
                       have HO11 := Lib.hid hown11
                       clear hown11 hgrow11))
                  have HO12 := Lib.hid (show w11.ownsRow w.heap.size 9 1 v11 (R.take k ++ [x] ++ R.drop k).length (vstr (R.take k ++ [x] ++ R.drop k)) from by
                    have h := own_lower HO11.out HBR.out.size
                    rw [HLN.out]
                    have e : k + 1 + (R.length - k) = R.length + 1 := by omega
                    rw [e] at h
                    have e2 : vstr (R.take k) ++ [Value.string x] ++ vstr (R.drop k) = vstr (R.take k ++ [x] ++ R.drop k) := by unfold vstr; simp
                    rw [e2] at h
                    exact h)
                  go_roundg g'
                  case measure => omega
                  case rel => exact ⟨_, i + 1, R.take k ++ [x] ++ R.drop k, rfl, by go_num, by omega, by rw [HLN.out]; omega, HO12.out, HBR.out.trans (below_le' HB11.out HBR.out.size), HM3.out, HS3.out⟩
    · have HBR := Lib.hid hbr.out
      have HOW := Lib.hid hown.out
      obtain rfl : i = l.length := by omega
      have HM := Lib.hid (show ∀ x ∈ l, x ∈ R by have h := hmem.out; rw [List.take_length] at h; exact h)
      clear hbr hown hmem hsz
      go_wp2_with fail
      go_ret
      exact ⟨⟨bv, R, rfl, HOW.out, hRi, HM.out⟩, HBR.out⟩

theorem strAt_new (w : World) (cs : Array Value) (T : TypeId) (l : List ByteArray) (h : cs.toList = vstr l) : StrAt (w.alloc (.cells cs T)) w.heap.size 0 l := by
  refine ⟨by simp, fun j x hx => ?_⟩
  rw [Nat.zero_add, cell_of_row _ _ j _ _ _ (heap_alloc_new w _), ← Array.getElem?_toList, h, vstr_at, hx]; rfl
theorem tkeys_small : ∀ x ∈ tkeysL, x.size ≤ 1000 := by
  intro x hx
  simp only [tkeysL, List.mem_cons, List.not_mem_nil, or_false] at hx
  rcases hx with rfl | rfl | rfl | rfl | rfl | rfl | rfl | rfl | rfl | rfl | rfl | rfl | rfl | rfl | rfl | rfl | rfl | rfl | rfl <;> decide
set_option maxRecDepth 100000 in
set_option maxHeartbeats 1000000 in
theorem keys_r (w : World) : Calls Tryz.prog 41 #[] w fun e w' => (∃ (v : Value) (R : List ByteArray), e = .returned v ∧ w'.ownsRow w.heap.size 9 1 v R.length (vstr R) ∧ R.length ≤ 19 ∧ ∀ x ∈ tkeysL, x ∈ R) ∧ Below w.heap.size w w' := by
  go_enter Tryz.func41, Tryz.ntmps41
  go_wp2_with fail
  refine (rising_r tkeysL w.heap.size 0 19 _ (by decide) tkeys_small (by decide) (strAt_new w _ _ tkeysL rfl)).mono ?_
  rintro e w2 ⟨⟨v, R, rfl, ho, hl, hm⟩, hb⟩
  have HB := Lib.hid (((Below.refl _ w).alloc (Nat.le_refl _) _).trans (below_le' hb (by simp)))
  have HO := Lib.hid (own_lower (base' := w.heap.size) ho (by simp))
  have HM := Lib.hid hm
  clear hb ho hm
  go_wp2_with fail
  go_ret
  exact ⟨⟨v, R, rfl, HO.out, hl, HM.out⟩, HB.out⟩

/-- Is a text among these? -/
def holdsB (R : List ByteArray) (s : ByteArray) : Bool := R.any fun y => decide (y = s)
theorem holdsB_no {R : List ByteArray} {s : ByteArray} (h : holdsB R s = false) : s ∉ R := by
  intro hm
  have : holdsB R s = true := List.any_eq_true.2 ⟨s, hm, decide_eq_true rfl⟩
  rw [this] at h; cases h

set_option maxRecDepth 100000 in
set_option maxHeartbeats 1000000 in
theorem holds_r (R : List ByteArray) (v : Value) (base : Nat) (s : ByteArray) (w : World) (hR : R.length ≤ 1000) (ho : w.ownsRow base 9 1 v R.length (vstr R)) :
    Calls Tryz.prog 40 #[v, .string s] w fun e w' => e = .returned (.bool (holdsB R s)) ∧ w = w' := by
  obtain ⟨ba, bc, hbv⟩ := own_form ho
  subst hbv
  have HO := Lib.hid ho
  clear ho
  obtain ⟨r, hr⟩ : ∃ r, r = holdsB R s := ⟨_, rfl⟩
  rw [← hr]
  have HR := Lib.hid hr
  clear hr
  go_enter Tryz.func40, Tryz.ntmps40
  go_wp2_with fail
  go_loopg [5] R.length (fun kk iv wr => ∃ i : Nat, iv = .int .i64 (i : Int) ∧ i + kk = R.length ∧ w = wr ∧ Hid (r = holdsB (R.drop i) s))
  case atStart => exact ⟨0, rfl, by omega, rfl, HR.out⟩
  case round =>
    obtain ⟨i, rfl, hk, rfl, HQ⟩ := hrel
    by_cases hi : i < R.length
    · obtain ⟨kk, rfl⟩ : ∃ kk, gk = kk + 1 := ⟨gk - 1, by omega⟩
      obtain ⟨y, hy⟩ : ∃ y, R[i]? = some y := ⟨_, List.getElem?_eq_getElem hi⟩
      obtain ⟨gb, hgb, hcy⟩ : ∃ gb, ba = some ⟨gb, 0, none⟩ ∧ w.cell? ⟨gb, i, none⟩ = some (.string y) := by
        rcases HO.out.2 with ⟨h1, h2⟩ | ⟨gb, cap, cur, h1, h2, h3, h4, h5, h6, h7⟩
        · omega
        · injection h1 with h8 _ h9
          subst h8
          refine ⟨gb, rfl, ?_⟩
          have h10 := HO.out.cells (g := gb) rfl i (.string y) (by rw [vstr_at, hy]; rfl)
          rw [addr_at, Nat.zero_add] at h10; exact h10
      subst hgb
      have hdd := sbeq_dec y s
      have HD := Lib.hid (show holdsB (R.drop i) s = (decide (y = s) || holdsB (R.drop (i + 1)) s) by
        rw [List.getElem?_eq_getElem hi] at hy
        injection hy with hy
        rw [List.drop_eq_getElem_cons hi, hy]
        rfl)
      obtain ⟨b, hb⟩ : ∃ b : Bool, b = decide (y = s) := ⟨_, rfl⟩
      rw [← hb] at hdd HD
      clear hb hy
      cases b
      · have HQ2 := Lib.hid (show r = holdsB (R.drop (i + 1)) s by rw [HQ.out, HD.out, Bool.false_or])
        clear HQ HD
        go_wp2_with fail
        go_roundg kk
        case measure => omega
        case rel => exact ⟨i + 1, by go_num, by omega, rfl, HQ2.out⟩
      · have HQ2 := Lib.hid (show r = true by rw [HQ.out, HD.out, Bool.true_or])
        clear HQ HD
        go_wp2_with fail
        go_ret
        exact ⟨ret_val (by rw [HQ2.out]; rfl), rfl⟩
    · obtain rfl : i = R.length := by omega
      have HQ2 := Lib.hid (show r = false by rw [HQ.out, List.drop_length]; rfl)
      clear HQ
      go_wp2_with fail
      go_ret
      exact ⟨ret_val (by rw [HQ2.out]; rfl), rfl⟩
end Go.Proofs.YtgmnbdfbbcpciaaGreatDoor
