/-
  The reference's Deep, Size and Fits; the world's Values and Number: the walks.
-/
import Derived.Test.YtoemnccklakkeaaDoorCpC
import Derived.Test.YtoemnccklakkeaaDoorRight
namespace Go.Proofs.YtoemnccklakkeaaDoor
open Go.RowKit Go.Lib
set_option linter.unusedVariables false

/-- How deep values are, beside what was met. -/
def deepF : VL → Int → Int
  | .nil, a => a
  | .cons k n s sub rest, a => deepF rest (max a ((if k = 4 then deepF sub 0 else 0) + 1))
def dp (k : Int) (sub : VL) : Int := (if k = 4 then deepF sub 0 else 0) + 1
theorem deepF_cons (k n : Int) (s : ByteArray) (sub rest : VL) (a : Int) : deepF (.cons k n s sub rest) a = deepF rest (max a (dp k sub)) := rfl
theorem deepF_bound : ∀ (l : VL) (a : Int), a ≤ deepF l a ∧ deepF l a ≤ max a (cost l)
  | .nil, a => ⟨Int.le_refl _, by rw [deepF]; omega⟩
  | .cons k n s sub rest, a => by
    have h1 := deepF_bound sub 0
    have h2 := deepF_bound rest (max a (dp k sub))
    have hm := mOf_ge k s
    have hc := cost_ge sub
    have hr := cost_ge rest
    rw [deepF_cons, cost]
    have hd : dp k sub ≤ 1 + cost sub := by unfold dp; split <;> omega
    omega
/-- How great values are, beside what was met. -/
def szF : VL → Int → Int
  | .nil, a => a
  | .cons k n s sub rest, a => szF rest (a + (if k = 2 then 1 + (s.size : Int) else if k = 4 then szF sub 1 else 1))
def sz1 (k : Int) (s : ByteArray) (sub : VL) : Int := if k = 2 then 1 + (s.size : Int) else if k = 4 then szF sub 1 else 1
theorem szF_cons (k n : Int) (s : ByteArray) (sub rest : VL) (a : Int) : szF (.cons k n s sub rest) a = szF rest (a + sz1 k s sub) := rfl
theorem szF_bound : ∀ (l : VL) (a : Int), a ≤ szF l a ∧ szF l a ≤ a + cost l
  | .nil, a => ⟨Int.le_refl _, by rw [szF, cost]; omega⟩
  | .cons k n s sub rest, a => by
    have h1 := szF_bound sub 1
    have h2 := szF_bound rest (a + sz1 k s sub)
    have hm := mOf_ge k s
    have hc := cost_ge sub
    rw [szF_cons, cost]
    have hd : 0 ≤ sz1 k s sub ∧ sz1 k s sub ≤ 1 + mOf k s + cost sub := by
      unfold sz1
      by_cases h2 : k = 2
      · rw [if_pos h2]; have : mOf k s = s.size := by unfold mOf; rw [if_pos h2]
        omega
      · rw [if_neg h2]
        split <;> omega
    omega

def DeepC (N : Nat) : Prop := ∀ (k n : Int) (s : ByteArray) (sub : VL) (sa : Option Addr) (sc : Nat) (w : World), sub.size < N → cost sub ≤ 100000 → sub.len ≤ sc → RpL w (fun b => b < w.heap.size) sub sa →
  Calls Tryd.prog 50 #[.agg #[.int .i64 k, .int .i64 n, .string s, .slice sa sub.len sc]] w fun e w' => e = .returned (.int .i64 (dp k sub)) ∧ Below w.heap.size w w'

set_option maxRecDepth 100000 in
set_option maxHeartbeats 4000000 in
theorem deep_step (N : Nat) (ih : ∀ N', N' < N → DeepC N') : DeepC N := by
  intro k n s sub sa sc w hN hcost hsc hrep
  obtain ⟨wa, hwa⟩ : ∃ wa, wa = w.alloc (.cells #[.int .i64 k, .int .i64 n, .string s, .slice sa sub.len sc] 31) := ⟨_, rfl⟩
  have hba : Below w.heap.size w wa := by rw [hwa]; exact (Below.refl _ _).alloc (Nat.le_refl _) _
  have hwz : wa.heap.size = w.heap.size + 1 := by rw [hwa]; simp
  have hV : StB wa w.heap.size (.int .i64 k) (.int .i64 n) (.string s) (.slice sa sub.len sc) := by rw [hwa]; exact StB.new w _ _ _ _
  have v0 := hV.c0; have v3 := hV.c3
  have HV := Lib.hid hV
  have HB := Lib.hid hba
  have HWA := Lib.hid hwa
  have HWZ := Lib.hid hwz
  have HRP := Lib.hid (hrep.keep (w' := wa) (fun b hb => hba.block b hb) (fun b hb => hb))
  have hln := len_cost sub
  have hall := deepF_bound sub 0
  rw [hwa] at v0 v3
  clear hba hwz hV hwa hrep
  by_cases h4 : k = 4
  · subst h4
    have HD := Lib.hid (show dp 4 sub = deepF sub 0 + 1 from rfl)
    go_enter Tryd.func50, Tryd.ntmps50
    go_wp2_with fail
    rw [← HWA.out]
    clear v0 v3
    go_loopg [3, 4] sub.len (fun kk ov v wr => ∃ (a : Int) (i : Nat), ov = .int .i64 a ∧ v = .int .i64 i ∧ i + kk = sub.len ∧ 0 ≤ a ∧ a ≤ 100000 ∧ Hid (deepF (sub.drop i) a = deepF sub 0) ∧ Hid (Below wa.heap.size wa wr))
    case atStart => exact ⟨0, 0, rfl, rfl, by omega, by omega, by omega, by show deepF (sub.drop 0) 0 = _; rw [VL.drop], Below.refl _ _⟩
    case round =>
      obtain ⟨a, i, rfl, rfl, hik, ha0, ha1, hda, hbr⟩ := hrel
      have hrz := hbr.out.size
      have hwz := HWZ.out
      have hvr := HV.out.below' hbr.out
      have x3 := hvr.c3
      clear hvr
      by_cases hi : i < sub.len
      · obtain ⟨g, rfl⟩ : ∃ g, gk = g + 1 := ⟨gk - 1, by omega⟩
        obtain ⟨b, o, k', n', s', sub', sa', sc', hA, hd, hSb, c0, c1, c2, c3, hcl, hrs, hszd⟩ := rp_at (HRP.out.keep (w' := wr) (fun b hb => hbr.out.block b (by omega)) (fun b hb => hb)) hi
        have hcd := cost_drop i sub
        rw [hd, cost] at hcd
        have hcr := cost_ge (sub.drop (i + 1))
        have hcs := cost_ge sub'
        have hmm := mOf_ge k' s'
        have IHC := Lib.hid (ih (sub'.size + 1) (by omega) k' n' s' sub' sa' sc' wr (by omega) (by omega) hcl (hrs.wide (fun b hb => by omega)))
        have HN := Lib.hid (show deepF (sub.drop (i + 1)) (max a (dp k' sub')) = deepF sub 0 by rw [← hda.out, hd, deepF_cons])
        have hdb : 0 ≤ dp k' sub' ∧ dp k' sub' ≤ 100000 := by
          have := deepF_bound sub' 0
          unfold dp; split <;> omega
        obtain ⟨q, hq⟩ : ∃ q, q = dp k' sub' := ⟨_, rfl⟩
        rw [← hq] at IHC HN hdb
        have HSA := Lib.hid hA
        subst hA
        clear hrs hd hcd hq
        go_wp2_with fail
        refine IHC.out.mono ?_
        rintro e w3 ⟨rfl, hb3⟩
        have HB3 := Lib.hid (hbr.out.trans (below_le' hb3 hrz))
        clear hb3 c0 c1 c2 c3
        by_cases hm : a < q
        · have hmx : max a q = q := by omega
          rw [hmx] at HN
          go_wp2_with fail
          go_roundg g
          case measure => omega
          case rel => exact ⟨q, i + 1, by go_num, by go_num, by omega, by omega, by omega, HN.out, HB3.out⟩
        · have hmx : max a q = a := by omega
          rw [hmx] at HN
          go_wp2_with fail
          go_roundg g
          case measure => omega
          case rel => exact ⟨a, i + 1, by go_num, by go_num, by omega, by omega, by omega, HN.out, HB3.out⟩
      · obtain rfl : i = sub.len := by omega
        have HN := Lib.hid (show dp 4 sub = a + 1 by rw [HD.out, ← hda.out, VL.drop_len, deepF])
        go_wp2_with fail
        go_ret
        exact ⟨ret_int HN.out.symm, HB.out.trans (below_le' hbr.out (by omega))⟩
  · have HD := Lib.hid (show dp k sub = 1 by unfold dp; rw [if_neg h4]; rfl)
    have hk := (bne_of h4).2
    rw [HD.out]
    clear h4
    go_enter Tryd.func50, Tryd.ntmps50
    go_wp2_with fail
    go_ret
    rw [← HWA.out]
    exact ⟨rfl, HB.out⟩
theorem deep_c (N : Nat) : DeepC N := by
  induction N using Nat.strongRecOn with
  | _ N ih => exact deep_step N ih
end Go.Proofs.YtoemnccklakkeaaDoor
