/-
  The reference's odd: the walk.
-/
import Derived.Test.YtoemnccklakkeaaDoorOdd
import Derived.Test.YtoemnccklakkeaaDoorRdL
namespace Go.Proofs.YtoemnccklakkeaaDoor
open Go.RowKit Go.Lib
set_option linter.unusedVariables false

set_option maxRecDepth 100000 in
set_option maxHeartbeats 4000000 in
theorem odd_step (N : Nat) (ih : ∀ N', N' < N → OddC N') : OddC N := by
  intro k n s sub sa sc deep left L w hN hlf hss hsl hfit hsc hrep hd1 hd2 hl1 hl2
  have hLl := hlf.lt
  obtain ⟨wa, hwa⟩ : ∃ wa, wa = w.alloc (.cells #[.int .i64 k, .int .i64 n, .string s, .slice sa sub.len sc] 31) := ⟨_, rfl⟩
  have hba : Below w.heap.size w wa := by rw [hwa]; exact (Below.refl _ _).alloc (Nat.le_refl _) _
  have hV : StB wa w.heap.size (.int .i64 k) (.int .i64 n) (.string s) (.slice sa sub.len sc) := by rw [hwa]; exact StB.new w _ _ _ _
  have hlfa : RwAt wa L (4096 - left) := hlf.below hba hLl
  have hwz : wa.heap.size = w.heap.size + 1 := by rw [hwa]; simp
  have v0 := hV.c0; have v1 := hV.c1; have v2 := hV.c2; have v3 := hV.c3
  have l0 := hlfa.c0
  have lf0 := hlfa.fr
  have HBA := Lib.hid hba
  have HV := Lib.hid hV
  have HLF := Lib.hid hlfa
  have HRP := Lib.hid hrep
  rw [hwa] at v0 v1 v2 v3 l0 lf0
  by_cases hdp : 40 < deep
  · have HS := Lib.hid (show walk1 k n s sub deep left = (112, left) by unfold walk1; rw [if_pos hdp])
    have HF := Lib.hid (show POdd w L (walk1 k n s sub deep left) (.returned (.int .i64 112)) wa by rw [HS.out]; exact ⟨rfl, ⟨_, HLF.out, fun h => by cases h⟩, only_below HBA.out _⟩)
    rw [hwa] at HF
    clear hba hV hlfa hwa hrep
    go_enter Tryd.func71, Tryd.ntmps71
    go_wp2_with fail
    go_ret
    exact HF.out
  have hdp' : deep ≤ 40 := by omega
  clear hdp
  obtain ⟨w1', hw1'⟩ : ∃ w1', w1' = (w.setCell ⟨L, 0, none⟩ (.int .i64 (4096 - left + 1))).alloc (.cells #[.int .i64 k, .int .i64 n, .string s, .slice sa sub.len sc] 31) := ⟨_, rfl⟩
  have hr1' : RwAt w1' L (4096 - left + 1) := by rw [hw1']; exact (hlf.set _).alloc _
  have hv1' : StB w1' w.heap.size (.int .i64 k) (.int .i64 n) (.string s) (.slice sa sub.len sc) := by rw [hw1']; have := StB.new (w.setCell ⟨L, 0, none⟩ (.int .i64 (4096 - left + 1))) (.int .i64 k) (.int .i64 n) (.string s) (.slice sa sub.len sc); simpa [World.setCell] using this
  have hg1' : w.grownBy w1' (some L) := by rw [hw1']; exact only_alloc (only_setCell (only_refl w _) (.inl rfl) _) _
  by_cases hk : k = 2
  · subst hk
    obtain ⟨w1, hw1⟩ : ∃ w1, w1 = (((w.setCell ⟨L, 0, none⟩ (.int .i64 (4096 - left + 1))).setCell ⟨L, 0, none⟩ (.int .i64 (4096 - left + 1 + (s.size : Int)))).alloc (.cells #[.int .i64 2, .int .i64 n, .string s, .slice sa sub.len sc] 31)).drew := ⟨_, rfl⟩
    have hr1 : RwAt w1 L (4096 - left + 1 + (s.size : Int)) := by rw [hw1]; exact (((hlf.set _).set _).alloc _)
    have hv1 : StB w1 w.heap.size (.int .i64 2) (.int .i64 n) (.string s) (.slice sa sub.len sc) := by rw [hw1]; have := StB.new ((w.setCell ⟨L, 0, none⟩ (.int .i64 (4096 - left + 1))).setCell ⟨L, 0, none⟩ (.int .i64 (4096 - left + 1 + (s.size : Int)))) (.int .i64 2) (.int .i64 n) (.string s) (.slice sa sub.len sc); simpa [World.setCell, StB, World.drew] using this
    have hg1 : w.grownBy w1 (some L) := by rw [hw1]; exact only_drew (only_alloc (only_setCell (only_setCell (only_refl w _) (.inl rfl) _) (.inl rfl) _) _)
    have p0 := hv1'.c0; have p2 := hv1'.c2; have q0 := hr1'.c0; have qf := hr1'.fr
    have u0 := hv1.c0; have u1 := hv1.c1; have u2 := hv1.c2; have u3 := hv1.c3; have r0 := hr1.c0
    have HG1 := Lib.hid hg1
    have hm : mOf 2 s = (s.size : Int) := rfl
    by_cases hlm : left ≤ (s.size : Int)
    · have HS := Lib.hid (show walk1 2 n s sub deep left = (104, left) by unfold walk1; rw [if_neg (by omega), hm, if_pos hlm])
      have HF := Lib.hid (show POdd w L (walk1 2 n s sub deep left) (.returned (.int .i64 104)) w1 by rw [HS.out]; exact ⟨rfl, ⟨_, hr1, fun h => by cases h⟩, hg1⟩)
      rw [hw1] at HF
      rw [hw1] at u0 u1 u2 u3 r0
      rw [hw1'] at p0 p2 q0 qf
      clear hba hV hlfa hwa hrep hw1' hr1' hv1' hg1' hw1 hr1 hv1 hg1
      go_enter Tryd.func71, Tryd.ntmps71
      go_wp2_with fail
      go_region
      go_wp2_with fail
      go_ret
      exact HF.out
    obtain ⟨lf, hlfe⟩ : ∃ lf : Int, lf = left - (1 + (s.size : Int)) := ⟨_, rfl⟩
    have HS := Lib.hid (show walk1 2 n s sub deep left = if ownE 2 n s sub.len = 0 then walkL sub (deep + 1) lf else (ownE 2 n s sub.len, lf) by unfold walk1; rw [if_neg (by omega), hm, if_neg (by omega), hlfe])
    have hlf0 : 0 ≤ lf := by omega
    have hlf4 : lf ≤ 4096 := by omega
    have HR1 := Lib.hid (show RwAt w1 L (4096 - lf) by rw [show 4096 - lf = 4096 - left + 1 + (s.size : Int) by omega]; exact hr1)
    have HV1 := Lib.hid hv1
    have PC := Lib.hid (fun W => printed_c s W hss)
    have HW1 := Lib.hid (show (((w.setCell ⟨L, 0, none⟩ (.int .i64 (4096 - left + 1))).setCell ⟨L, 0, none⟩ (.int .i64 (4096 - left + 1 + (s.size : Int)))).alloc (.cells #[.int .i64 2, .int .i64 n, .string s, .slice sa sub.len sc] 31)).drew = w1 by rw [hw1])
    rw [hw1] at u0 u1 u2 u3 r0
    rw [hw1'] at p0 p2 q0 qf
    clear hba hV hlfa hwa hrep hw1' hr1' hv1' hg1' hw1 hr1 hv1 hg1 hlfe
    rcases str_cases (n := n) (s := s) (len := sub.len) with ⟨hE, hcs⟩ | ⟨hE, rfl, h0, hp⟩ | ⟨hE, rfl, h0, hp⟩
    · rw [hE, if_neg (by decide)] at HS
      rcases hcs with hn | ⟨rfl, hl⟩
      · have hn1 := (bne_of hn).1
        have hn2 := (bne_of hn).2
        clear hn
        go_enter Tryd.func71, Tryd.ntmps71
        go_wp2_with fail
        go_region
        go_wp2_with fail
        go_ret
        rw [HW1.out, HS.out]
        exact ⟨rfl, ⟨_, HR1.out, fun h => by cases h⟩, HG1.out⟩
      · have hl' : (0 : Int) < (sub.len : Int) := by omega
        go_enter Tryd.func71, Tryd.ntmps71
        go_wp2_with fail
        go_region
        go_wp2_with fail
        go_ret
        rw [HW1.out, HS.out]
        exact ⟨rfl, ⟨_, HR1.out, fun h => by cases h⟩, HG1.out⟩
    · rw [hE, if_neg (by decide)] at HS
      rw [hp] at PC
      clear hp
      obtain rfl : sub = .nil := by cases sub with | nil => rfl | cons _ _ _ _ _ => exact absurd h0 (Nat.succ_ne_zero _)
      rw [show VL.nil.len = 0 from rfl] at v0 v1 v2 v3 l0 lf0 u0 u1 u2 u3 r0 HV1 HW1
      rw [show VL.nil.len = 0 from rfl] at p0 p2 q0 qf
      rw [show VL.nil.len = 0 from rfl]
      clear h0
      go_enter Tryd.func71, Tryd.ntmps71
      go_wp2_with fail
      go_region
      go_wp2_with fail
      rw [HW1.out]
      refine (PC.out _).mono ?_
      rintro e w' ⟨rfl, rfl⟩
      go_wp2_with fail
      go_ret
      rw [HS.out]
      exact ⟨rfl, ⟨_, HR1.out, fun h => by cases h⟩, HG1.out⟩
    · rw [hE, if_pos rfl] at HS
      rw [hp] at PC
      clear hp
      obtain rfl : sub = .nil := by cases sub with | nil => rfl | cons _ _ _ _ _ => exact absurd h0 (Nat.succ_ne_zero _)
      rw [show VL.nil.len = 0 from rfl] at v0 v1 v2 v3 l0 lf0 u0 u1 u2 u3 r0 HV1 HW1
      rw [show VL.nil.len = 0 from rfl] at p0 p2 q0 qf
      rw [show VL.nil.len = 0 from rfl]
      clear h0
      go_enter Tryd.func71, Tryd.ntmps71
      go_wp2_with fail
      go_region
      go_wp2_with fail
      rw [HW1.out]
      refine (PC.out _).mono ?_
      rintro e w' ⟨rfl, rfl⟩
      have x3 := HV1.out.c3
      go_wp2_with fail
      go_loopg [9] 0 (fun kk v wr => v = .int .i64 0 ∧ w1 = wr)
      case atStart => exact ⟨rfl, rfl⟩
      case round =>
        obtain ⟨rfl, rfl⟩ := hrel
        go_wp2_with fail
        go_ret
        rw [HS.out]
        exact ⟨rfl, ⟨_, HR1.out, fun _ => rfl⟩, HG1.out⟩
  · have hm : mOf k s = 0 := by unfold mOf; rw [if_neg hk]
    have hk1 := (bne_of hk).1
    have hk2 := (bne_of hk).2
    have u0 := hv1'.c0; have u1 := hv1'.c1; have u2 := hv1'.c2; have u3 := hv1'.c3; have r0 := hr1'.c0
    by_cases hlm : left ≤ 0
    · have HS := Lib.hid (show walk1 k n s sub deep left = (104, left) by unfold walk1; rw [if_neg (by omega), hm, if_pos hlm])
      have HF := Lib.hid (show POdd w L (walk1 k n s sub deep left) (.returned (.int .i64 104)) w1' by rw [HS.out]; exact ⟨rfl, ⟨_, hr1', fun h => by cases h⟩, hg1'⟩)
      rw [hw1'] at HF
      rw [hw1'] at u0 u1 u2 u3 r0
      clear hba hV hlfa hwa hrep hw1' hr1' hv1' hg1' hk
      go_enter Tryd.func71, Tryd.ntmps71
      go_wp2_with fail
      go_ret
      exact HF.out
    obtain ⟨lf, hlfe⟩ : ∃ lf : Int, lf = left - 1 := ⟨_, rfl⟩
    have HS := Lib.hid (show walk1 k n s sub deep left = if ownE k n s sub.len = 0 then walkL sub (deep + 1) lf else (ownE k n s sub.len, lf) by unfold walk1; rw [if_neg (by omega), hm, if_neg (by omega), hlfe, show left - (1 + 0) = left - 1 by omega])
    have hlf0 : 0 ≤ lf := by omega
    have hlf4 : lf ≤ 4096 := by omega
    obtain ⟨w1, hw1⟩ : ∃ w1, w1 = w1' := ⟨_, rfl⟩
    have HR1 := Lib.hid (show RwAt w1 L (4096 - lf) by rw [hw1, show 4096 - lf = 4096 - left + 1 by omega]; exact hr1')
    have HV1 := Lib.hid (show StB w1 w.heap.size (.int .i64 k) (.int .i64 n) (.string s) (.slice sa sub.len sc) by rw [hw1]; exact hv1')
    have HG1 := Lib.hid (show w.grownBy w1 (some L) by rw [hw1]; exact hg1')
    have HW1 := Lib.hid (show ((w.setCell ⟨L, 0, none⟩ (.int .i64 (4096 - left + 1))).alloc (.cells #[.int .i64 k, .int .i64 n, .string s, .slice sa sub.len sc] 31)) = w1 by rw [hw1, hw1'])
    rw [hw1'] at u0 u1 u2 u3 r0
    clear hba hV hlfa hwa hrep hw1' hr1' hv1' hg1' hw1 hlfe
    rcases kind_cases (n := n) (s := s) (len := sub.len) hk with ⟨hE, hcs⟩ | ⟨hE, hcs⟩ | ⟨hE, hs0, hcs⟩
    · rw [hE, if_neg (by decide)] at HS
      clear hk hE
      rcases hcs with h | ⟨h, h'⟩ | ⟨rfl, h⟩ | ⟨rfl, h, h'⟩ | ⟨rfl, h⟩ | ⟨rfl, h, h'⟩
      all_goals
        go_enter Tryd.func71, Tryd.ntmps71
        go_wp2_with fail
        go_ret
        rw [HW1.out, HS.out]
        exact ⟨rfl, ⟨_, HR1.out, fun h => by cases h⟩, HG1.out⟩
    · rw [hE, if_neg (by decide)] at HS
      clear hk hE
      have hln : 0 < sub.len → (0 : Int) < (sub.len : Int) := fun h => by omega
      have hnn : n ≠ 0 → (n != 0) = true ∧ (n == 0) = false := fun h => bne_of h
      have hsn : s.toList.isEmpty = false → ¬ s.toList = [] := fun h e => by rw [e] at h; cases h
      rcases hcs with ⟨rfl, he⟩ | ⟨rfl, he, hl⟩ | ⟨rfl, h1, h2, he⟩ | ⟨rfl, h1, h2, he, hl⟩ | ⟨rfl, h1, h2, he⟩ | ⟨rfl, h1, h2, he, hl⟩ | ⟨rfl, hn⟩ | ⟨rfl, rfl, he⟩
      all_goals
        try have hl' := hln hl
        try have he' := hsn he
        try (obtain ⟨hn1, hn2⟩ := hnn hn; clear hn)
        clear hln hnn hsn
        go_enter Tryd.func71, Tryd.ntmps71
        go_wp2_with fail
        go_ret
        rw [HW1.out, HS.out]
        exact ⟨rfl, ⟨_, HR1.out, fun h => by cases h⟩, HG1.out⟩
    · rw [hE, if_pos rfl] at HS
      have he : s.toList.isEmpty = true := by rw [hs0, Lib.toList_data]; rfl
      have he' : s.toList = [] := by rw [hs0, Lib.toList_data]
      have PC := Lib.hid (fun W => printed_c s W hss)
      rw [show prB s.data.toList = true by rw [hs0]; decide] at PC
      clear hk hE hs0
      rcases hcs with ⟨rfl, h0⟩ | ⟨rfl, h1, h2, h0⟩ | ⟨rfl, h1, h2, h0⟩ | ⟨rfl, rfl⟩
      · obtain rfl : sub = .nil := by cases sub with | nil => rfl | cons _ _ _ _ _ => exact absurd h0 (Nat.succ_ne_zero _)
        rw [show VL.nil.len = 0 from rfl] at v0 v1 v2 v3 l0 lf0 u0 u1 u2 u3 r0 HV1 HW1
        rw [show VL.nil.len = 0 from rfl]
        clear h0
        go_enter Tryd.func71, Tryd.ntmps71
        go_wp2_with fail
        rw [HW1.out]
        refine (PC.out _).mono ?_
        rintro e w' ⟨rfl, rfl⟩
        have x3 := HV1.out.c3
        go_wp2_with fail
        go_loopg [9] 0 (fun kk v wr => v = .int .i64 0 ∧ w1 = wr)
        case atStart => exact ⟨rfl, rfl⟩
        case round =>
          obtain ⟨rfl, rfl⟩ := hrel
          go_wp2_with fail
          go_ret
          rw [HS.out]
          exact ⟨rfl, ⟨_, HR1.out, fun _ => rfl⟩, HG1.out⟩
      · obtain rfl : sub = .nil := by cases sub with | nil => rfl | cons _ _ _ _ _ => exact absurd h0 (Nat.succ_ne_zero _)
        rw [show VL.nil.len = 0 from rfl] at v0 v1 v2 v3 l0 lf0 u0 u1 u2 u3 r0 HV1 HW1
        rw [show VL.nil.len = 0 from rfl]
        clear h0
        go_enter Tryd.func71, Tryd.ntmps71
        go_wp2_with fail
        rw [HW1.out]
        refine (PC.out _).mono ?_
        rintro e w' ⟨rfl, rfl⟩
        have x3 := HV1.out.c3
        go_wp2_with fail
        go_loopg [9] 0 (fun kk v wr => v = .int .i64 0 ∧ w1 = wr)
        case atStart => exact ⟨rfl, rfl⟩
        case round =>
          obtain ⟨rfl, rfl⟩ := hrel
          go_wp2_with fail
          go_ret
          rw [HS.out]
          exact ⟨rfl, ⟨_, HR1.out, fun _ => rfl⟩, HG1.out⟩
      · obtain rfl : sub = .nil := by cases sub with | nil => rfl | cons _ _ _ _ _ => exact absurd h0 (Nat.succ_ne_zero _)
        rw [show VL.nil.len = 0 from rfl] at v0 v1 v2 v3 l0 lf0 u0 u1 u2 u3 r0 HV1 HW1
        rw [show VL.nil.len = 0 from rfl]
        clear h0
        go_enter Tryd.func71, Tryd.ntmps71
        go_wp2_with fail
        rw [HW1.out]
        refine (PC.out _).mono ?_
        rintro e w' ⟨rfl, rfl⟩
        have x3 := HV1.out.c3
        go_wp2_with fail
        go_loopg [9] 0 (fun kk v wr => v = .int .i64 0 ∧ w1 = wr)
        case atStart => exact ⟨rfl, rfl⟩
        case round =>
          obtain ⟨rfl, rfl⟩ := hrel
          go_wp2_with fail
          go_ret
          rw [HS.out]
          exact ⟨rfl, ⟨_, HR1.out, fun _ => rfl⟩, HG1.out⟩
      · go_enter Tryd.func71, Tryd.ntmps71
        go_wp2_with fail
        rw [HW1.out]
        refine (PC.out _).mono ?_
        rintro e w' ⟨rfl, rfl⟩
        have x3 := HV1.out.c3
        go_wp2_with fail
        go_loopg [9] sub.len (fun kk v wr => ∃ (i : Nat) (l : Int), v = .int .i64 i ∧ i + kk = sub.len ∧ RwAt wr L (4096 - l) ∧ StB wr w.heap.size (.int .i64 4) (.int .i64 0) (.string s) (.slice sa sub.len sc) ∧ w1.grownBy wr (some L) ∧ 0 ≤ l ∧ l ≤ 4096 ∧ Hid (walkL (sub.drop i) (deep + 1) l = walkL sub (deep + 1) lf))
        case atStart => exact ⟨0, lf, rfl, by omega, HR1.out, HV1.out, only_refl _ _, hlf0, hlf4, by show walkL (sub.drop 0) _ _ = _; rw [VL.drop]⟩
        case round =>
          obtain ⟨i, l, rfl, hik, hlr, hvr, hgr, hl0, hl4, hwl⟩ := hrel
          have x3 := hvr.c3
          by_cases hi : i < sub.len
          · obtain ⟨g, rfl⟩ : ∃ g, gk = g + 1 := ⟨gk - 1, by omega⟩
            obtain ⟨k', n', s', sub', hd⟩ := VL.drop_of_lt i sub hi
            have hrw := HRP.out.grown (only_trans HG1.out hgr) (fun b hb => ⟨hb.1, fun e => by injection e with e; exact hb.2 e⟩)
            obtain ⟨b, o, hsa⟩ : ∃ b o, sa = some ⟨b, o, none⟩ := by
              cases sub with
              | nil => simp [VL.len] at hi
              | cons _ _ _ _ _ => obtain ⟨b, o, _, _, h, _⟩ := hrw; exact ⟨b, o, h⟩
            rw [hsa] at hrw
            have hdr := RpL.drop i sub b o hrw
            rw [hd] at hdr
            obtain ⟨b', o', sa', sc', hA, hSb, c0, c1, c2, c3, hcl, hrs, _⟩ := hdr
            injection hA with hA
            injection hA with hA1 hA2
            subst hA1
            subst hA2
            have hfd := VL.fit_drop i sub hfit
            rw [hd] at hfd
            obtain ⟨hf1, hf2, hf3, _⟩ := hfd
            have hszd := VL.size_drop i sub
            rw [hd] at hszd
            simp only [VL.size] at hszd
            have HWL := Lib.hid hwl
            have HDD := Lib.hid hd
            have HSA := Lib.hid hsa
            subst hsa
            have HRS := Lib.hid hrs
            have HLR := Lib.hid hlr
            have HVR := Lib.hid hvr
            have HGR := Lib.hid hgr
            clear hwl hd hrw hrs hlr hvr hgr
            rw [Nat.mul_comm 4 i] at c0 c1 c2 c3
            have IHC := Lib.hid (ih (sub'.size + 1) (by omega) k' n' s' sub' sa' sc' (deep + 1) l L wr (by omega) HLR.out hf1 hf2 hf3 hcl
              (HRS.out.keep (fun b hb => rfl) (fun b hb => ⟨by have := hb.1; have := HG1.out.size; have := HGR.out.size; omega, hb.2⟩)) (by omega) (by omega) hl0 hl4)
            have HST := Lib.hid (show walkL (sub.drop i) (deep + 1) l = if (walk1 k' n' s' sub' (deep + 1) l).1 = 0 then walkL (sub.drop (i + 1)) (deep + 1) (walk1 k' n' s' sub' (deep + 1) l).2 else walk1 k' n' s' sub' (deep + 1) l by rw [HDD.out, walkL_cons])
            have hrng := walk1_range k' n' s' sub' (deep + 1) l hl0
            obtain ⟨rc, rl, hrr⟩ : ∃ rc rl, walk1 k' n' s' sub' (deep + 1) l = (rc, rl) := ⟨_, _, rfl⟩
            rw [hrr] at IHC HST hrng
            simp only at hrng
            obtain ⟨hrg1, hrg2⟩ := hrng
            clear hrr
            go_wp2_with fail
            refine IHC.out.mono ?_
            rintro e w5 ⟨rfl, ⟨m5, hl5, hm5⟩, hg5⟩
            have HL5 := Lib.hid hl5
            have HG5 := Lib.hid (only_trans HGR.out hg5)
            have HV5 := Lib.hid (HVR.out.only hg5 (by intro e; injection e with e; omega))
            clear hl5 hg5
            by_cases hrc : rc = 0
            · subst hrc
              obtain rfl : m5 = 4096 - rl := hm5 rfl
              have HN := Lib.hid (HST.out.symm.trans HWL.out)
              rw [if_pos rfl] at HN
              rw [show (((0, rl) : Nat × Int).1 : Int) = 0 from rfl]
              go_wp2_with fail
              go_roundg g
              case measure => omega
              case rel => exact ⟨i + 1, rl, by go_num, by omega, HL5.out, HV5.out, HG5.out, hrg1, by omega, HN.out⟩
            · have HN := Lib.hid (HST.out.symm.trans HWL.out)
              rw [if_neg hrc] at HN
              have hb1 : (((rc : Nat) : Int) != 0) = true := (bne_of (by omega)).1
              have hb2 : (((rc : Nat) : Int) == 0) = false := (bne_of (by omega)).2
              rw [show (((rc, rl) : Nat × Int).1 : Int) = (rc : Int) from rfl]
              go_wp2_with fail
              go_ret
              rw [HS.out, ← HN.out]
              exact ⟨rfl, ⟨_, HL5.out, fun h => absurd h hrc⟩, only_trans HG1.out HG5.out⟩
          · obtain rfl : i = sub.len := by omega
            rw [VL.drop_len] at hwl
            have HN := Lib.hid hwl
            have HLR := Lib.hid hlr
            have HGR := Lib.hid hgr
            clear hwl hlr hgr hvr
            go_wp2_with fail
            go_ret
            rw [HS.out, ← HN.out]
            exact ⟨rfl, ⟨_, HLR.out, fun _ => rfl⟩, only_trans HG1.out HGR.out⟩

theorem odd_c (N : Nat) : OddC N := by
  induction N using Nat.strongRecOn with
  | _ N ih => exact odd_step N ih

end Go.Proofs.YtoemnccklakkeaaDoor
