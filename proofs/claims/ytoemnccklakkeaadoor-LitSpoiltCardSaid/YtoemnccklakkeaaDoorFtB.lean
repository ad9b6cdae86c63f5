/-
  The reference's Size and Fits; the world's Values and Number: the walks.
-/
import Derived.Test.YtoemnccklakkeaaDoorFtA
namespace Go.Proofs.YtoemnccklakkeaaDoor
open Go.RowKit Go.Lib
set_option linter.unusedVariables false

def SizeC (N : Nat) : Prop := ∀ (k n : Int) (s : ByteArray) (sub : VL) (sa : Option Addr) (sc : Nat) (w : World), sub.size < N → mOf k s + cost sub ≤ 100000 → sub.len ≤ sc → RpL w (fun b => b < w.heap.size) sub sa →
  Calls Tryd.prog 51 #[.agg #[.int .i64 k, .int .i64 n, .string s, .slice sa sub.len sc]] w fun e w' => e = .returned (.int .i64 (sz1 k s sub)) ∧ Below w.heap.size w w'

set_option maxRecDepth 100000 in
set_option maxHeartbeats 4000000 in
theorem size_step (N : Nat) (ih : ∀ N', N' < N → SizeC N') : SizeC N := by
  intro k n s sub sa sc w hN hcost hsc hrep
  obtain ⟨wa, hwa⟩ : ∃ wa, wa = w.alloc (.cells #[.int .i64 k, .int .i64 n, .string s, .slice sa sub.len sc] 31) := ⟨_, rfl⟩
  have hba : Below w.heap.size w wa := by rw [hwa]; exact (Below.refl _ _).alloc (Nat.le_refl _) _
  have hwz : wa.heap.size = w.heap.size + 1 := by rw [hwa]; simp
  have hV : StB wa w.heap.size (.int .i64 k) (.int .i64 n) (.string s) (.slice sa sub.len sc) := by rw [hwa]; exact StB.new w _ _ _ _
  have v0 := hV.c0; have v2 := hV.c2; have v3 := hV.c3
  have HV := Lib.hid hV
  have HB := Lib.hid hba
  have HWA := Lib.hid hwa
  have HWZ := Lib.hid hwz
  have HRP := Lib.hid (hrep.keep (w' := wa) (fun b hb => hba.block b hb) (fun b hb => hb))
  have hln := len_cost sub
  have hm0 := mOf_ge k s
  have hc0 := cost_ge sub
  have hall := szF_bound sub 1
  rw [hwa] at v0 v2 v3
  clear hba hwz hV hwa hrep
  by_cases h4 : k = 4
  · subst h4
    have HD := Lib.hid (show sz1 4 s sub = szF sub 1 from rfl)
    go_enter Tryd.func51, Tryd.ntmps51
    go_wp2_with fail
    rw [← HWA.out]
    clear v0 v2 v3
    go_loopg [3, 4] sub.len (fun kk ov v wr => ∃ (a : Int) (i : Nat), ov = .int .i64 a ∧ v = .int .i64 i ∧ i + kk = sub.len ∧ 0 ≤ a ∧ a + cost (sub.drop i) ≤ 100001 ∧ Hid (szF (sub.drop i) a = szF sub 1) ∧ Hid (Below wa.heap.size wa wr))
    case atStart => exact ⟨1, 0, rfl, rfl, by omega, by omega, by rw [VL.drop]; omega, by show szF (sub.drop 0) 1 = _; rw [VL.drop], Below.refl _ _⟩
    case round =>
      obtain ⟨a, i, rfl, rfl, hik, ha0, ha1, hda, hbr⟩ := hrel
      have hrz := hbr.out.size
      have hwz := HWZ.out
      have hvr := HV.out.below' hbr.out
      have x3 := hvr.c3
      clear hvr
      by_cases hi : i < sub.len
      · obtain ⟨g, rfl⟩ : ∃ g, gk = g + 1 := ⟨gk - 1, by omega⟩
        obtain ⟨b, o, k', n', s', sub', sa', sc', hA, hd, hSb, c0, c1, c2, c3, hcl, hrs, hszd⟩ := rp_at (HRP.out.keep (w' := wr) (fun b hb => hbr.out.block b (by omega)) (fun b hb => hb)) hi
        rw [hd, cost] at ha1
        have hcr := cost_ge (sub.drop (i + 1))
        have hcs := cost_ge sub'
        have hmm := mOf_ge k' s'
        have IHC := Lib.hid (ih (sub'.size + 1) (by omega) k' n' s' sub' sa' sc' wr (by omega) (by omega) hcl (hrs.wide (fun b hb => by omega)))
        have HN := Lib.hid (show szF (sub.drop (i + 1)) (a + sz1 k' s' sub') = szF sub 1 by rw [← hda.out, hd, szF_cons])
        have hdb : 0 ≤ sz1 k' s' sub' ∧ sz1 k' s' sub' ≤ 1 + mOf k' s' + cost sub' := by
          have := szF_bound (.cons k' n' s' sub' .nil) 0
          rw [szF_cons, szF, cost, cost] at this
          have h1 := szF_bound sub' 1
          refine ⟨?_, by omega⟩
          unfold sz1
          split
          · omega
          · split <;> omega
        obtain ⟨q, hq⟩ : ∃ q, q = sz1 k' s' sub' := ⟨_, rfl⟩
        rw [← hq] at IHC HN hdb
        obtain ⟨m, hm⟩ : ∃ m, m = cost (sub.drop (i + 1)) := ⟨_, rfl⟩
        have HM := Lib.hid hm
        rw [← hm] at ha1 hcr
        have HSA := Lib.hid hA
        subst hA
        clear hrs hd hq hm
        go_wp2_with fail
        refine IHC.out.mono ?_
        rintro e w3 ⟨rfl, hb3⟩
        have HB3 := Lib.hid (hbr.out.trans (below_le' hb3 hrz))
        clear hb3 c0 c1 c2 c3
        go_wp2_with fail
        go_roundg g
        case measure => omega
        case rel => exact ⟨a + q, i + 1, by go_num, by go_num, by omega, by omega, by rw [← HM.out]; omega, HN.out, HB3.out⟩
      · obtain rfl : i = sub.len := by omega
        have HN := Lib.hid (show sz1 4 s sub = a by rw [HD.out, ← hda.out, VL.drop_len, szF])
        go_wp2_with fail
        go_ret
        exact ⟨ret_int HN.out.symm, HB.out.trans (below_le' hbr.out (by omega))⟩
  · have hk := (bne_of h4).2
    by_cases h2 : k = 2
    · subst h2
      have hms : mOf 2 s = (s.size : Int) := rfl
      have HD := Lib.hid (show sz1 2 s sub = 1 + (s.size : Int) from rfl)
      rw [HD.out]
      go_enter Tryd.func51, Tryd.ntmps51
      go_wp2_with fail
      go_ret
      rw [← HWA.out]
      exact ⟨rfl, HB.out⟩
    · have hk2 := (bne_of h2).2
      have HD := Lib.hid (show sz1 k s sub = 1 by unfold sz1; rw [if_neg h2, if_neg h4])
      rw [HD.out]
      clear h4 h2
      go_enter Tryd.func51, Tryd.ntmps51
      go_wp2_with fail
      go_ret
      rw [← HWA.out]
      exact ⟨rfl, HB.out⟩
theorem size_c (N : Nat) : SizeC N := by
  induction N using Nat.strongRecOn with
  | _ N ih => exact size_step N ih

/-- Fits' code. -/
def fitsV (k : Int) (s : ByteArray) (sub : VL) : Int := if 40 < dp k sub then 9 else if 4096 < sz1 k s sub then 14 else 0
set_option maxRecDepth 100000 in
set_option maxHeartbeats 2000000 in
theorem fits_c (k n : Int) (s : ByteArray) (sub : VL) (sa : Option Addr) (sc : Nat) (w : World) (hcost : mOf k s + cost sub ≤ 100000) (hsc : sub.len ≤ sc) (hrep : RpL w (fun b => b < w.heap.size) sub sa) :
    Calls Tryd.prog 29 #[.agg #[.int .i64 k, .int .i64 n, .string s, .slice sa sub.len sc]] w fun e w' => e = .returned (.int .i64 (fitsV k s sub)) ∧ Below w.heap.size w w' := by
  obtain ⟨wa, hwa⟩ : ∃ wa, wa = w.alloc (.cells #[.int .i64 k, .int .i64 n, .string s, .slice sa sub.len sc] 31) := ⟨_, rfl⟩
  have hba : Below w.heap.size w wa := by rw [hwa]; exact (Below.refl _ _).alloc (Nat.le_refl _) _
  have hwz : wa.heap.size = w.heap.size + 1 := by rw [hwa]; simp
  have hV : StB wa w.heap.size (.int .i64 k) (.int .i64 n) (.string s) (.slice sa sub.len sc) := by rw [hwa]; exact StB.new w _ _ _ _
  have v0 := hV.c0; have v1 := hV.c1; have v2 := hV.c2; have v3 := hV.c3
  have hm0 := mOf_ge k s
  have DC := Lib.hid (deep_c (sub.size + 1) k n s sub sa sc wa (by omega) (by omega) hsc (hrep.keep (w' := wa) (fun b hb => hba.block b hb) (fun b hb => by omega)))
  have SC := Lib.hid (fun (W : World) (hb : Below wa.heap.size wa W) => size_c (sub.size + 1) k n s sub sa sc W (by omega) hcost hsc (hrep.keep (w' := W) (fun b hb' => (hb.block b (by omega)).trans (hba.block b hb')) (fun b hb' => by have := hb.size; omega)))
  have HV := Lib.hid hV
  have HB := Lib.hid hba
  have HWA := Lib.hid hwa
  have HWZ := Lib.hid hwz
  rw [hwa] at v0 v1 v2 v3
  obtain ⟨d, hd⟩ : ∃ d, d = dp k sub := ⟨_, rfl⟩
  obtain ⟨z, hz⟩ : ∃ z, z = sz1 k s sub := ⟨_, rfl⟩
  have HF := Lib.hid (show fitsV k s sub = if 40 < d then 9 else if 4096 < z then 14 else 0 by rw [hd, hz]; rfl)
  rw [← hd] at DC
  rw [← hz] at SC
  clear hba hwz hV hwa hrep hd hz
  rw [HF.out]
  by_cases h1 : 40 < d
  · rw [if_pos h1]
    have hd1 : decide (40 < d) = true := decide_eq_true h1
    clear h1
    go_enter Tryd.func29, Tryd.ntmps29
    go_wp2_with fail
    rw [← HWA.out]
    refine DC.out.mono ?_
    rintro e w2 ⟨rfl, hb2⟩
    have HB2 := Lib.hid hb2
    clear hb2
    go_wp2_with fail
    go_ret
    exact ⟨rfl, HB.out.trans (below_le' HB2.out (by have := HWZ.out; omega))⟩
  · rw [if_neg h1]
    have hd1 : decide (40 < d) = false := decide_eq_false h1
    clear h1
    by_cases h2 : 4096 < z
    · rw [if_pos h2]
      have hd2 : decide (4096 < z) = true := decide_eq_true h2
      clear h2
      go_enter Tryd.func29, Tryd.ntmps29
      go_wp2_with fail
      rw [← HWA.out]
      refine DC.out.mono ?_
      rintro e w2 ⟨rfl, hb2⟩
      have hv2 := HV.out.below' hb2
      have u0 := hv2.c0; have u1 := hv2.c1; have u2 := hv2.c2; have u3 := hv2.c3
      have HB2 := Lib.hid hb2
      clear hb2 hv2 v0 v1 v2 v3
      go_wp2_with fail
      refine (SC.out _ HB2.out).mono ?_
      rintro e w3 ⟨rfl, hb3⟩
      have HB3 := Lib.hid (HB2.out.trans (below_le' hb3 HB2.out.size))
      clear hb3
      go_wp2_with fail
      go_ret
      exact ⟨rfl, HB.out.trans (below_le' HB3.out (by have := HWZ.out; omega))⟩
    · rw [if_neg h2]
      have hd2 : decide (4096 < z) = false := decide_eq_false h2
      clear h2
      go_enter Tryd.func29, Tryd.ntmps29
      go_wp2_with fail
      rw [← HWA.out]
      refine DC.out.mono ?_
      rintro e w2 ⟨rfl, hb2⟩
      have hv2 := HV.out.below' hb2
      have u0 := hv2.c0; have u1 := hv2.c1; have u2 := hv2.c2; have u3 := hv2.c3
      have HB2 := Lib.hid hb2
      clear hb2 hv2 v0 v1 v2 v3
      go_wp2_with fail
      refine (SC.out _ HB2.out).mono ?_
      rintro e w3 ⟨rfl, hb3⟩
      have HB3 := Lib.hid (HB2.out.trans (below_le' hb3 HB2.out.size))
      clear hb3
      go_wp2_with fail
      go_ret
      exact ⟨rfl, HB.out.trans (below_le' HB3.out (by have := HWZ.out; omega))⟩

/-- Are all values right? -/
def rightsL : VL → Bool
  | .nil => true
  | .cons k n s sub rest => rightB k n s sub && rightsL rest
theorem rights_cost : ∀ (l : VL), rightsL l = true → cost l ≤ 4096 * (l.len : Int)
  | .nil, _ => by rw [cost, VL.len]; omega
  | .cons k n s sub rest, h => by
    rw [rightsL, Bool.and_eq_true] at h
    have h1 := walk1_cost k n s sub 1 4096 (by omega) (of_decide_eq_true h.1)
    have h2 := rights_cost rest h.2
    rw [cost, VL.len]; omega
set_option maxRecDepth 100000 in
set_option maxHeartbeats 2000000 in
theorem worldValues_c (l : VL) (sa : Option Addr) (sc : Nat) (w : World) (hfit : l.fit) (hln : l.len ≤ 140737488351232) (hsc : l.len ≤ sc) (hrep : RpL w (fun b => b < w.heap.size) l sa) :
    Calls Tryd.prog 28 #[.slice sa l.len sc, .int .i64 12] w fun e w' => e = .returned (.bool (decide (l.len ≤ 12) && rightsL l)) ∧ Below w.heap.size w w' := by
  by_cases h12 : l.len ≤ 12
  · have hd : decide ((12 : Int) < (l.len : Int)) = false := by simp; omega
    rw [decide_eq_true h12, Bool.true_and]
    have HRP := Lib.hid hrep
    clear hrep
    go_enter Tryd.func28, Tryd.ntmps28
    go_wp2_with fail
    go_loopg [5] l.len (fun kk v wr => ∃ (i : Nat), v = .int .i64 i ∧ i + kk = l.len ∧ Hid (rightsL (l.drop i) = rightsL l) ∧ Hid (Below w.heap.size w wr))
    case atStart => exact ⟨0, rfl, by omega, by show rightsL (l.drop 0) = _; rw [VL.drop], Below.refl _ _⟩
    case round =>
      obtain ⟨i, rfl, hik, hda, hbr⟩ := hrel
      have hrz := hbr.out.size
      by_cases hi : i < l.len
      · obtain ⟨g, rfl⟩ : ∃ g, gk = g + 1 := ⟨gk - 1, by omega⟩
        obtain ⟨b, o, k', n', s', sub', sa', sc', hA, hd', hSb, c0, c1, c2, c3, hcl, hrs, hszd⟩ := rp_at (HRP.out.keep (w' := wr) (fun b hb => hbr.out.block b hb) (fun b hb => hb)) hi
        have hfd := VL.fit_drop i l hfit
        rw [hd'] at hfd
        have RC := Lib.hid (right_c k' n' s' sub' sa' sc' wr ⟨hfd.1, hfd.2.1, hfd.2.2.1, trivial⟩ hcl (hrs.wide (fun b hb => by omega)))
        have HN := Lib.hid (show (rightB k' n' s' sub' && rightsL (l.drop (i + 1))) = rightsL l by rw [← hda.out, hd']; rfl)
        obtain ⟨q, hq⟩ : ∃ q, q = rightB k' n' s' sub' := ⟨_, rfl⟩
        rw [← hq] at RC HN
        have HSA := Lib.hid hA
        subst hA
        clear hrs hd' hq hfd
        go_wp2_with fail
        refine RC.out.mono ?_
        rintro e w3 ⟨rfl, hb3⟩
        have HB3 := Lib.hid (hbr.out.trans (below_le' hb3 hrz))
        clear hb3 c0 c1 c2 c3
        cases q with
        | true =>
          go_wp2_with fail
          go_roundg g
          case measure => omega
          case rel => exact ⟨i + 1, by go_num, by omega, by show rightsL _ = _; rw [← HN.out, Bool.true_and], HB3⟩
        | false =>
          go_wp2_with fail
          go_ret
          exact ⟨ret_bool (by rw [← HN.out, Bool.false_and]), HB3.out⟩
      · obtain rfl : i = l.len := by omega
        have HN := Lib.hid (show rightsL l = true by rw [← hda.out, VL.drop_len]; rfl)
        go_wp2_with fail
        go_ret
        exact ⟨ret_bool HN.out.symm, hbr.out⟩
  · have hd : decide ((12 : Int) < (l.len : Int)) = true := by simp; omega
    rw [decide_eq_false h12, Bool.false_and]
    clear hrep
    go_enter Tryd.func28, Tryd.ntmps28
    go_wp2_with fail
    go_ret
    exact ⟨rfl, Below.refl _ _⟩

/-- A number below another one. -/
def PNum (b : Nat) (w : World) (e : Ending) (w' : World) : Prop := ∃ r : Nat, r < b ∧ e = .returned (.int .i64 r) ∧ w = w'
set_option maxHeartbeats 1000000 in
theorem wnumber_c (n : Int) (b : Nat) (w : World) (hn0 : -9223372036854775808 ≤ n) (hn1 : n ≤ 9223372036854775807) (hb0 : 0 < b) (hb1 : b ≤ 1000000) :
    Calls Tryd.prog 32 #[.int .i64 n, .int .i64 b] w (PNum b w) := by
  have ht1 : Int.tmod n b < b := Int.tmod_lt_of_pos n (by omega)
  have ht0 : -(b : Int) < Int.tmod n b := by
    by_cases h : 0 ≤ n
    · have := Int.tmod_nonneg (b : Int) h; omega
    · have h1 := Int.tmod_lt_of_pos (-n) (show (0 : Int) < (b : Int) by omega)
      rw [Int.neg_tmod] at h1; omega
  have hbz : ((b : Int) == 0) = false := (bne_of (by omega)).2
  by_cases hneg : Int.tmod n b < 0
  · have hd : decide (Int.tmod n b < 0) = true := decide_eq_true hneg
    go_enter Tryd.func32, Tryd.ntmps32
    go_wp2_with fail
    go_ret
    exact ⟨(Int.tmod n b + b).toNat, by omega, ret_int (by omega), rfl⟩
  · have hd : decide (Int.tmod n b < 0) = false := decide_eq_false hneg
    go_enter Tryd.func32, Tryd.ntmps32
    go_wp2_with fail
    go_ret
    exact ⟨(Int.tmod n b).toNat, by omega, ret_int (by omega), rfl⟩
end Go.Proofs.YtoemnccklakkeaaDoor
