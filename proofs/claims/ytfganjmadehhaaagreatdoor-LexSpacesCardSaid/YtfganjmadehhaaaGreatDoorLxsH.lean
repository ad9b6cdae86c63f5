/- Contracts of the functions that the statement reaches, and the plain mathematics beneath: several texts joined. -/
import Derived.Test.YtfganjmadehhaaaGreatDoorLxsG
import Derived.Test.YtfganjmadehhaaaGreatDoorLxsF
import Derived.Test.YtfganjmadehhaaaGreatDoorLxsD
import Derived.Laws.OwnMore
import Derived.OwnWalk
import Derived.Test.YtfganjmadehhaaaGreatDoorLxsE
import Derived.Deep.DeepCutAuto
import Derived.IntWalk
import Derived.Test.YtfganjmadehhaaaGreatDoorLxsC
import Derived.Test.YtfganjmadehhaaaGreatDoorRows
import Derived.Stop.LaidErr
import Derived.Lib.LaidTab
import Derived.ProofKit
import Derived.Test.YtfganjmadehhaaaGreatDoorTie
import Derived.Test.YtfganjmadehhaaaGreatDoorCards
import Derived.SevenTiedAt
import Derived.LaidMore
import Derived.Stop.Joined
import Derived.HandedShaped
import Derived.OpenShut
import Derived.ShutString
import Derived.Lay
import Derived.Test.YtfganjmadehhaaaGreatDoorLxsA
import Derived.Test.YtfganjmadehhaaaGreatDoorLxsB
namespace Go.Proofs.YtfganjmadehhaaaGreatDoor
open Go.RowKit Go.Lib
set_option linter.unusedVariables false

/-- A copy of a list comes out. -/
def PList (w : World) (l : VL) (e : Ending) (w' : World) : Prop :=
  ∃ (sa : Option Addr) (sc : Nat), e = .returned (.slice sa l.len sc) ∧ l.len ≤ sc ∧ RpL w' (fun b => w.heap.size ≤ b ∧ b < w'.heap.size) l sa ∧ Below w.heap.size w w'
theorem value_end {w wr : World} {k n : Int} {s : ByteArray} {sub : VL} {sb : Option Addr} {cb : Nat} (hb : Below w.heap.size w wr) (hz : w.heap.size + 2 ≤ wr.heap.size) (hr : StB wr (w.heap.size + 1) (.int .i64 0) (.int .i64 0) (.string ⟨#[]⟩) (.slice none 0 0))
    (hcb : sub.len ≤ cb) (hrb : RpL wr (fun b => w.heap.size + 2 ≤ b ∧ b < wr.heap.size) sub sb) :
    StB ((((wr.setCell ⟨w.heap.size + 1, 0, none⟩ (.int .i64 k)).setCell ⟨w.heap.size + 1, 1, none⟩ (.int .i64 n)).setCell ⟨w.heap.size + 1, 2, none⟩ (.string s)).setCell ⟨w.heap.size + 1, 3, none⟩ (.slice sb sub.len cb)) (w.heap.size + 1) (.int .i64 k) (.int .i64 n) (.string s) (.slice sb sub.len cb) ∧
    PCopy w k n s sub (.returned (.agg #[.int .i64 k, .int .i64 n, .string s, .slice sb sub.len cb])) ((((wr.setCell ⟨w.heap.size + 1, 0, none⟩ (.int .i64 k)).setCell ⟨w.heap.size + 1, 1, none⟩ (.int .i64 n)).setCell ⟨w.heap.size + 1, 2, none⟩ (.string s)).setCell ⟨w.heap.size + 1, 3, none⟩ (.slice sb sub.len cb)) :=
  ⟨hr.set4 _ _ _ _, sb, cb, rfl, hcb, hrb.keep (fun c hc => heap_set4 _ _ _ _ _ _ _ (by omega)) (fun c hc => ⟨by omega, by rw [size_set4]; exact hc.2⟩), below_set4 hb (by omega) _ _ _ _⟩

end Go.Proofs.YtfganjmadehhaaaGreatDoor
namespace Go.Proofs.YtfganjmadehhaaaGreatDoor
open Go.RowKit Go.Lib
set_option linter.unusedVariables false

/-- How deep values are, beside what was met. -/
def deepF : VL → Int → Int
  | .nil, a => a
  | .cons k n s sub rest, a => deepF rest (max a ((if k = 4 then deepF sub 0 else 0) + 1))
def dp (k : Int) (sub : VL) : Int := (if k = 4 then deepF sub 0 else 0) + 1
theorem deepF_cons (k n : Int) (s : ByteArray) (sub rest : VL) (a : Int) : deepF (.cons k n s sub rest) a = deepF rest (max a (dp k sub)) := rfl
theorem deepF_bound : ∀ (l : VL) (a : Int), a ≤ deepF l a ∧ deepF l a ≤ max a (cost l)
  | .nil, a => ⟨Int.le_refl _, by rw [deepF]; omega⟩
  | .cons k n s sub rest, a => by
    have h1 := deepF_bound sub 0
    have h2 := deepF_bound rest (max a (dp k sub))
    have hm := mOf_ge k s
    have hc := cost_ge sub
    have hr := cost_ge rest
    rw [deepF_cons, cost]
    have hd : dp k sub ≤ 1 + cost sub := by unfold dp; split <;> omega
    omega
/-- How great values are, beside what was met. -/
def szF : VL → Int → Int
  | .nil, a => a
  | .cons k n s sub rest, a => szF rest (a + (if k = 2 then 1 + (s.size : Int) else if k = 4 then szF sub 1 else 1))
def sz1 (k : Int) (s : ByteArray) (sub : VL) : Int := if k = 2 then 1 + (s.size : Int) else if k = 4 then szF sub 1 else 1
theorem szF_cons (k n : Int) (s : ByteArray) (sub rest : VL) (a : Int) : szF (.cons k n s sub rest) a = szF rest (a + sz1 k s sub) := rfl
theorem szF_bound : ∀ (l : VL) (a : Int), a ≤ szF l a ∧ szF l a ≤ a + cost l
  | .nil, a => ⟨Int.le_refl _, by rw [szF, cost]; omega⟩
  | .cons k n s sub rest, a => by
    have h1 := szF_bound sub 1
    have h2 := szF_bound rest (a + sz1 k s sub)
    have hm := mOf_ge k s
    have hc := cost_ge sub
    rw [szF_cons, cost]
    have hd : 0 ≤ sz1 k s sub ∧ sz1 k s sub ≤ 1 + mOf k s + cost sub := by
      unfold sz1
      by_cases h2 : k = 2
      · rw [if_pos h2]; have : mOf k s = s.size := by unfold mOf; rw [if_pos h2]
        omega
      · rw [if_neg h2]
        split <;> omega
    omega

end Go.Proofs.YtfganjmadehhaaaGreatDoor
namespace Go.Proofs.YtfganjmadehhaaaGreatDoor
open Go.RowKit Go.Lib
set_option linter.unusedVariables false

/-- Fits' code. -/
def fitsV (k : Int) (s : ByteArray) (sub : VL) : Int := if 40 < dp k sub then 9 else if 4096 < sz1 k s sub then 14 else 0
/-- Are all values right? -/
def rightsL : VL → Bool
  | .nil => true
  | .cons k n s sub rest => rightB k n s sub && rightsL rest
theorem rights_cost : ∀ (l : VL), rightsL l = true → cost l ≤ 4096 * (l.len : Int)
  | .nil, _ => by rw [cost, VL.len]; omega
  | .cons k n s sub rest, h => by
    rw [rightsL, Bool.and_eq_true] at h
    have h1 := walk1_cost k n s sub 1 4096 (by omega) (of_decide_eq_true h.1)
    have h2 := rights_cost rest h.2
    rw [cost, VL.len]; omega
/-- A number below another one. -/
def PNum (b : Nat) (w : World) (e : Ending) (w' : World) : Prop := ∃ r : Nat, r < b ∧ e = .returned (.int .i64 r) ∧ w = w'
set_option maxHeartbeats 1000000 in
theorem wnumber_c (n : Int) (b : Nat) (w : World) (hn0 : -9223372036854775808 ≤ n) (hn1 : n ≤ 9223372036854775807) (hb0 : 0 < b) (hb1 : b ≤ 1000000) :
    Calls Tryz.prog 11 #[.int .i64 n, .int .i64 b] w (PNum b w) := by
  have ht1 : Int.tmod n b < b := Int.tmod_lt_of_pos n (by omega)
  have ht0 : -(b : Int) < Int.tmod n b := by
    by_cases h : 0 ≤ n
    · have := Int.tmod_nonneg (b : Int) h; omega
    · have h1 := Int.tmod_lt_of_pos (-n) (show (0 : Int) < (b : Int) by omega)
      rw [Int.neg_tmod] at h1; omega
  have hbz : ((b : Int) == 0) = false := (bne_of (by omega)).2
  by_cases hneg : Int.tmod n b < 0
  · have hd : decide (Int.tmod n b < 0) = true := decide_eq_true hneg
    go_enter Tryz.func11, Tryz.ntmps11
    go_wp2_with fail
    go_ret
    exact ⟨(Int.tmod n b + b).toNat, by omega, ret_int (by omega), rfl⟩
  · have hd : decide (Int.tmod n b < 0) = false := decide_eq_false hneg
    go_enter Tryz.func11, Tryz.ntmps11
    go_wp2_with fail
    go_ret
    exact ⟨(Int.tmod n b).toNat, by omega, ret_int (by omega), rfl⟩
theorem tmod_emod (n : Int) (b : Nat) (hb : 0 < b) : (Int.tmod n b < 0 → n % (b : Int) = Int.tmod n b + b) ∧ (¬ Int.tmod n b < 0 → n % (b : Int) = Int.tmod n b) := by
  have h0 : n % (b : Int) = (Int.tmod n b) % (b : Int) := by
    conv => lhs; rw [← Int.tmod_add_mul_tdiv n b]
    rw [Int.add_mul_emod_self_left]
  have ht1 : Int.tmod n b < b := Int.tmod_lt_of_pos n (by omega)
  have ht0 : -(b : Int) < Int.tmod n b := by
    by_cases h : 0 ≤ n
    · have := Int.tmod_nonneg (b : Int) h; omega
    · have h1 := Int.tmod_lt_of_pos (-n) (show (0 : Int) < (b : Int) by omega)
      rw [Int.neg_tmod] at h1; omega
  refine ⟨fun h => ?_, fun h => ?_⟩
  · rw [h0, ← Int.add_emod_right, Int.emod_eq_of_lt (by omega) (by omega)]
  · rw [h0, Int.emod_eq_of_lt (by omega) (by omega)]
set_option maxHeartbeats 1000000 in
theorem wnumber_e (n : Int) (b : Nat) (w : World) (hn0 : -9223372036854775808 ≤ n) (hn1 : n ≤ 9223372036854775807) (hb0 : 0 < b) (hb1 : b ≤ 1000000) :
    Calls Tryz.prog 11 #[.int .i64 n, .int .i64 b] w fun e w' => e = .returned (.int .i64 (((n % (b : Int)).toNat : Nat) : Int)) ∧ w = w' := by
  have hem := tmod_emod n b hb0
  have hem0 := Int.emod_nonneg n (show (b : Int) ≠ 0 by omega)
  have ht1 : Int.tmod n b < b := Int.tmod_lt_of_pos n (by omega)
  have ht0 : -(b : Int) < Int.tmod n b := by
    by_cases h : 0 ≤ n
    · have := Int.tmod_nonneg (b : Int) h; omega
    · have h1 := Int.tmod_lt_of_pos (-n) (show (0 : Int) < (b : Int) by omega)
      rw [Int.neg_tmod] at h1; omega
  have hbz : ((b : Int) == 0) = false := (bne_of (by omega)).2
  obtain ⟨r, hr⟩ : ∃ r, r = ((n % (b : Int)).toNat : Int) := ⟨_, rfl⟩
  rw [← hr]
  by_cases hneg : Int.tmod n b < 0
  · have hd : decide (Int.tmod n b < 0) = true := decide_eq_true hneg
    have HE := Lib.hid (show Int.tmod n b + b = r by have := hem.1 hneg; omega)
    clear hem hem0 hr
    go_enter Tryz.func11, Tryz.ntmps11
    go_wp2_with fail
    go_ret
    exact ⟨ret_int HE.out, rfl⟩
  · have hd : decide (Int.tmod n b < 0) = false := decide_eq_false hneg
    have HE := Lib.hid (show Int.tmod n b = r by have := hem.2 hneg; omega)
    clear hem hem0 hr
    go_enter Tryz.func11, Tryz.ntmps11
    go_wp2_with fail
    go_ret
    exact ⟨ret_int HE.out, rfl⟩
end Go.Proofs.YtfganjmadehhaaaGreatDoor
namespace Go.Proofs.YtfganjmadehhaaaGreatDoor
open Go.RowKit Go.Lib
set_option linter.unusedVariables false

theorem allL_of {p : ByteArray → Bool} {l : List ByteArray} (h : l.all p = true) (j : Nat) (hj : j < l.length) : p (l.getD j ByteArray.empty) = true := by
  rw [List.getD_eq_getElem?_getD, List.getElem?_eq_getElem hj]
  exact List.all_eq_true.1 h _ (List.getElem_mem hj)
theorem keys_size : ∀ x ∈ keysL, x.size ≤ 20 := by decide +kernel
theorem signs_size : ∀ x ∈ signsL, x.size ≤ 20 := by decide +kernel
theorem getD_mem {l : List ByteArray} (j : Nat) (hj : j < l.length) : l.getD j ByteArray.empty ∈ l := by
  rw [List.getD_eq_getElem?_getD, List.getElem?_eq_getElem hj]; exact List.getElem_mem hj
theorem key_ne : ∀ x ∈ keysL, x.data.toList ≠ [] := by decide +kernel

set_option maxRecDepth 100000 in
set_option maxHeartbeats 1000000 in
theorem is_c (v : Value) (c : Int) (w : World) (H : ∀ W, Below w.heap.size w W → Calls Tryz.prog 24 #[v] W fun e w' => e = .returned (fltV c false 0) ∧ Below W.heap.size W w') :
    Calls Tryz.prog 12 #[v, .int .i64 c] w fun e w' => e = .returned (.bool true) ∧ Below w.heap.size w w' := by
  have HH := Lib.hid H
  clear H
  go_enter Tryz.func12, Tryz.ntmps12
  go_wp2_with fail
  refine (bare_c c _).mono ?_
  rintro e w2 ⟨rfl, hb2⟩
  have HB2 := Lib.hid hb2
  clear hb2
  go_wp2_with fail
  refine (same_c v c false 0 _ (fun W hW => HH.out W (HB2.out.trans (below_le' hW HB2.out.size)))).mono ?_
  rintro e w3 ⟨rfl, hb3⟩
  have HB3 := Lib.hid (HB2.out.trans (below_le' hb3 HB2.out.size))
  clear hb3
  go_wp2_with fail
  go_ret
  exact ⟨rfl, HB3.out⟩

/-- So many letters written, the rest still 0. -/
def fillX (n i : Nat) : List UInt8 := List.replicate i 120 ++ List.replicate (n - i) 0
theorem fillX_len (n i : Nat) (h : i ≤ n) : (fillX n i).length = n := by unfold fillX; rw [List.length_append, List.length_replicate, List.length_replicate]; omega
theorem fillX_get (n i : Nat) (h : i < n) : (u8s (fillX n i))[i]? = some (.int .u8 0) := by
  unfold u8s fillX
  rw [List.getElem?_map, List.getElem?_append_right (by rw [List.length_replicate]; exact Nat.le_refl _), List.length_replicate, Nat.sub_self, List.getElem?_replicate, if_pos (by omega)]; rfl
theorem fillX_set (n i : Nat) (h : i < n) : (u8s (fillX n i)).set i (.int .u8 120) = u8s (fillX n (i + 1)) := by
  unfold u8s fillX
  obtain ⟨k, hk⟩ : ∃ k, n - i = k + 1 := ⟨n - i - 1, by omega⟩
  rw [show n - (i + 1) = k from by omega, hk, List.map_append, List.map_append, List.set_append_right _ _ (by rw [List.length_map, List.length_replicate]; exact Nat.le_refl _), List.length_map, List.length_replicate, Nat.sub_self, List.replicate_succ, List.map_cons, List.set_cons_zero, List.replicate_succ', List.map_append, List.append_assoc]
  rfl
theorem made_fill (n : Nat) : (madeCells (Value.int .u8 0).cells (n * 1)).toList = u8s (fillX n 0) := by
  rw [Nat.mul_one, show (Value.int IntKind.u8 0).cells = #[Value.int .u8 0] from rfl, toList_madeCells_one]
  unfold u8s fillX
  simp

set_option maxRecDepth 100000 in
set_option maxHeartbeats 8000000 in
theorem lexWords_c (a : Int) (ea : Nat → Addr) (w : World) (ha0 : -9223372036854775808 ≤ a) (ha1 : a ≤ 9223372036854775807) (hse : SeesAt w ea) (hst : StrcAt w) (hsp : SpaceAt w) :
    Calls Tryz.prog 3 #[.int .i64 a] w fun e w' => e = .returned (.bool true) ∧ Below w.heap.size w w' := by
  have he : LxEnv w ea := ⟨hse.errs, hsp, hst⟩
  have hroom := hse.room
  have F := Lib.hid (lfirst_c ea w he)
  have EV := Lib.hid (fun W (hW : Below w.heap.size w W) => he.below hW (by omega))
  have SV := Lib.hid (fun W (hW : Below w.heap.size w W) => hse.below hW)
  have NC := Lib.hid (fun W => wnumber_c a 40000 W ha0 ha1 (by decide) (by decide))
  clear he hse hst hsp
  go_enter Tryz.func3, Tryz.ntmps3
  go_wp2_with fail
  refine F.out.mono ?_
  rintro e w2 ⟨rfl, hb2⟩
  have HB2 := Lib.hid hb2
  clear hb2
  go_wp2_with fail
  refine (keys_c w2 (EV.out w2 HB2.out).spc).mono ?_
  rintro e w3 ⟨kg, rfl, hkg, hks, hb3⟩
  have HB3 := Lib.hid (HB2.out.trans (below_le' hb3 HB2.out.size))
  have HK := Lib.hid hks
  clear hb3 hks
  go_wp2_with fail
  refine (signs_c w3 (EV.out w3 HB3.out).spc).mono ?_
  rintro e w4 ⟨sg, cap, rfl, hsg1, hsg2, hss, hb4⟩
  have HB4 := Lib.hid (HB3.out.trans (below_le' hb4 HB3.out.size))
  have HK4 := Lib.hid (HK.out.below hb4 hkg)
  have HS4 := Lib.hid hss
  have hkg4 : kg < w4.heap.size := by have := hb4.size; omega
  clear hb4 hss
  go_wp2_with fail
  go_loopg [6] 19 (fun kk iv wr => ∃ (i : Nat), iv = .int .i64 (i : Int) ∧ i + kk = 19 ∧ Below w4.heap.size w4 wr)
  case atStart => exact ⟨0, rfl, by omega, Below.refl _ _⟩
  case round =>
    obtain ⟨i, rfl, hk, hbr⟩ := hrel
    have HBR := Lib.hid hbr
    have HBW := Lib.hid (HB4.out.trans (below_le' hbr HB4.out.size))
    by_cases hi : i < 19
    · obtain ⟨kk, rfl⟩ : ∃ kk, gk = kk + 1 := ⟨gk - 1, by omega⟩
      obtain ⟨x, hx⟩ : ∃ x, x = keysL.getD i ByteArray.empty := ⟨_, rfl⟩
      have hc := HK4.out.below hbr hkg4 i hi
      rw [← hx, Nat.zero_add] at hc
      have hxz : x.size ≤ 20 := by rw [hx]; exact keys_size _ (getD_mem i hi)
      have hone := oneW_of (allL_of keys_one i hi)
      rw [← hx] at hone
      have AC := Lib.hid (all_some ea wr (EV.out wr HBW.out) (by omega) hone Nat.one_pos)
      have hse := str_eq x
      clear hx hone hbr
      go_wp2_with fail
      refine AC.out.mono ?_
      rintro e w5 ⟨g, cp, rfl, hg1, hg2, hb5, hcp, ht⟩
      obtain ⟨sa, sc, t0⟩ := ht 0 _ rfl
      have k0 : w5.cell? ⟨g, 0, none⟩ = some (.int .i64 2) := t0.c0
      have k2 : w5.cell? ⟨g, 2, none⟩ = some (.string x) := t0.c2
      have hc5 : w5.cell? ⟨kg, i, none⟩ = some (.string x) := cell_below7 hb5 hc (by have := HBR.out.size; show kg < _; omega)
      have HB5 := Lib.hid (HBR.out.trans (below_le' hb5 HBR.out.size))
      clear hc ht t0 hb5 hg1 hg2 hcp
      rw [show [(⟨2, 1, x, 0, 0, ⟨#[]⟩⟩ : Tok)].length = 1 from rfl]
      go_wp2_with fail
      go_quiet (fail)
      go_wp2_with fail
      go_roundg kk
      case measure => omega
      case rel => exact ⟨i + 1, by go_num, by omega, below_drewN HB5.out _⟩
    · obtain rfl : i = 19 := by omega
      clear hbr hk
      obtain ⟨wo, rfl⟩ : ∃ wo : World, wo = wr := ⟨_, rfl⟩
      go_wp2_with fail
      go_loopg [9] 33 (fun kk iv wr => ∃ (i : Nat), iv = .int .i64 (i : Int) ∧ i + kk = 33 ∧ Below w4.heap.size w4 wr)
      case atStart => exact ⟨0, rfl, by omega, HBR.out⟩
      case round =>
        obtain ⟨i, rfl, hk, hbr⟩ := hrel
        have HBR := Lib.hid hbr
        have HBW := Lib.hid (HB4.out.trans (below_le' hbr HB4.out.size))
        by_cases hi : i < 33
        · obtain ⟨kk, rfl⟩ : ∃ kk, gk = kk + 1 := ⟨gk - 1, by omega⟩
          obtain ⟨x, hx⟩ : ∃ x, x = signsL.getD i ByteArray.empty := ⟨_, rfl⟩
          have hc := HS4.out.below hbr hsg2 i hi
          rw [← hx, Nat.zero_add] at hc
          have hxz : x.size ≤ 20 := by rw [hx]; exact signs_size _ (getD_mem i hi)
          have hone := oneW_of (allL_of signs_one i hi)
          rw [← hx] at hone
          have AC := Lib.hid (all_some ea wr (EV.out wr HBW.out) (by omega) hone Nat.one_pos)
          have hse := str_eq x
          clear hx hone hbr
          go_wp2_with fail
          refine AC.out.mono ?_
          rintro e w5 ⟨g, cp, rfl, hg1, hg2, hb5, hcp, ht⟩
          obtain ⟨sa, sc, t0⟩ := ht 0 _ rfl
          have k0 : w5.cell? ⟨g, 0, none⟩ = some (.int .i64 4) := t0.c0
          have k2 : w5.cell? ⟨g, 2, none⟩ = some (.string x) := t0.c2
          have hc5 : w5.cell? ⟨sg, i, none⟩ = some (.string x) := cell_below7 hb5 hc (by have := HBR.out.size; show sg < _; omega)
          have HB5 := Lib.hid (HBR.out.trans (below_le' hb5 HBR.out.size))
          clear hc ht t0 hb5 hg1 hg2 hcp
          rw [show [(⟨4, 1, x, 0, 0, ⟨#[]⟩⟩ : Tok)].length = 1 from rfl]
          go_wp2_with fail
          go_quiet (fail)
          go_wp2_with fail
          go_roundg kk
          case measure => omega
          case rel => exact ⟨i + 1, by go_num, by omega, below_drewN HB5.out _⟩
        · obtain rfl : i = 33 := by omega
          clear hbr hk
          obtain ⟨wp, hwp⟩ : ∃ wp : World, wp = wr := ⟨_, rfl⟩
          rw [← hwp]
          rw [← hwp] at HBW
          clear hwp HBR
          go_wp2_with fail
          refine (NC.out wp).mono ?_
          rintro e w6 ⟨n, hn, rfl, rfl⟩
          obtain ⟨i0, hi0, hz0, hz1, hz2⟩ := info_parts u8_info
          go_wp2_with (refine wpList_make_full _ rfl (.tmp 101) (.tmp 101) 36 rfl wp.heap.size 5 i0 _ 1 Tryz.underlying36 hi0 hz0 hz1 .i64 .i64 (n : Int) (n : Int) n rfl rfl rfl rfl (by rw [hz2]; omega) (by unfold maxLen; omega) (Nat.le_refl _) ?_
                       intro w7 hown hgrow
                       rw [made_fill] at hown
                       have HO := Lib.hid hown
                       have HG := Lib.hid (show Below wp.heap.size wp w7 from ⟨hgrow.os, hgrow.tape, hgrow.output, hgrow.size, fun k hk => hgrow.block k hk (by simp)⟩)
                       clear hown hgrow)
          go_loopg [13] n (fun kk iv wr => ∃ (i : Nat), iv = .int .i64 (i : Int) ∧ i + kk = n ∧ wr.ownsRow wp.heap.size 5 1 (.slice (some ⟨wp.heap.size, 0, none⟩) n n) n (u8s (fillX n i)) ∧ Below wp.heap.size wp wr)
          case atStart => exact ⟨0, rfl, by omega, HO.out, HG.out⟩
          case round =>
            obtain ⟨i, rfl, hk, hor, hbr⟩ := hrel
            have HOR := Lib.hid hor
            have HBR := Lib.hid hbr
            by_cases hi : i < n
            · obtain ⟨kk, rfl⟩ : ∃ kk, gk = kk + 1 := ⟨gk - 1, by omega⟩
              have hc := (hor.cellAt i (by omega)).trans (fillX_get n i hi)
              have hf := hor.frozenAt i
              clear hor hbr
              go_wp2_with fail
              go_roundg kk
              case measure => omega
              case rel => exact ⟨i + 1, by go_num, by omega, by rw [← fillX_set n i hi]; exact (HOR.out.stored i _).1, HBR.out.setCell (Nat.le_refl _) _⟩
            · obtain rfl : i = n := by omega
              have hfl : fillX i i = List.replicate i 120 := by unfold fillX; rw [Nat.sub_self]; simp
              have hcv := conv_text wr wp.heap.size (.slice (some ⟨wp.heap.size, 0, none⟩) i i) (List.replicate i 120) (by rw [List.length_replicate, ← hfl]; exact hor)
              rw [show (⟨(List.replicate i (120 : UInt8)).toArray⟩ : ByteArray) = xsB i from rfl] at hcv
              obtain ⟨X, hX⟩ : ∃ X, X = xsB i := ⟨_, rfl⟩
              have hXz : X.size = i := by rw [hX]; exact xsB_size i
              have hall := xs_all i
              rw [← hX] at hcv hall
              have HX := Lib.hid hXz
              have HA := Lib.hid hall
              have HBX := Lib.hid (HBW.trans (below_le' hbr HBW.size))
              clear hor hbr hk hfl hX hXz hall
              by_cases hbig : 32768 < i
              · have hd : 32768 < (i : Int) := by omega
                have AM := Lib.hid (all_many X ea wr (EV.out wr HBX.out).err (by rw [HX.out]; exact hbig) (by rw [HX.out]; omega))
                clear hbig
                go_wp2_with fail
                refine AM.out.mono ?_
                rintro e w8 ⟨rfl, hb8⟩
                have HB8 := Lib.hid (HBX.out.trans (below_le' hb8 HBX.out.size))
                clear hb8
                go_wp2_with fail
                refine (is_c _ 104 _ (fun W hW => fault_bare ea 3 W (SV.out W (HB8.out.trans (below_le' hW HB8.out.size))) (by decide))).mono ?_
                rintro e w9 ⟨rfl, hb9⟩
                have HB9 := Lib.hid (HB8.out.trans (below_le' hb9 HB8.out.size))
                clear hb9
                go_wp2_with fail
                go_ret
                exact ⟨rfl, HB9.out⟩
              have hd : (i : Int) ≤ 32768 := by omega
              by_cases h32 : 32 < i
              · have hd2 : 32 < (i : Int) := by omega
                have AM := Lib.hid (all_bad ea wr (EV.out wr HBX.out) (by rw [HX.out]; omega) (HA.out.trans (if_pos h32)))
                clear hbig h32
                go_wp2_with fail
                refine AM.out.mono ?_
                rintro e w8 ⟨A, hA, hh, rfl, hb8⟩
                have HB8 := Lib.hid (HBX.out.trans (below_le' hb8 HBX.out.size))
                have HAT := Lib.hid (show AtAt w8 A 1 (.iface 199 (.pointer (some (ea (101 + 10))))) from hh)
                clear hb8 hA hh
                go_wp2_with fail
                refine (placed_c 111 1 rfl _).mono ?_
                rintro e w9 ⟨rfl, hb9⟩
                have HB9 := Lib.hid (HB8.out.trans (below_le' hb9 HB8.out.size))
                have HAT9 := Lib.hid (HAT.out.below hb9)
                clear hb9
                go_wp2_with fail
                refine (same_c _ 111 true 1 _ (fun W hW => fault_at ea 10 A 1 W (SV.out W (HB9.out.trans (below_le' hW HB9.out.size))) (by decide) (HAT9.out.below hW))).mono ?_
                rintro e w10 ⟨rfl, hb10⟩
                have HB10 := Lib.hid (HB9.out.trans (below_le' hb10 HB9.out.size))
                clear hb10
                go_wp2_with fail
                go_ret
                exact ⟨rfl, HB10.out⟩
              have hd2 : (i : Int) ≤ 32 := by omega
              by_cases h0 : i = 0
              · have AM := Lib.hid (all_none ea wr (EV.out wr HBX.out) (by rw [HX.out]; omega) (HA.out.trans ((if_neg h32).trans (if_pos h0))))
                subst h0
                clear hbig h32
                go_wp2_with fail
                refine AM.out.mono ?_
                rintro e w8 ⟨⟨VA, VC, rfl⟩, hb8⟩
                have HB8 := Lib.hid (HBX.out.trans (below_le' hb8 HBX.out.size))
                clear hb8
                go_wp2_with fail
                go_ret
                exact ⟨rfl, HB8.out⟩
              · have AM := Lib.hid (all_some ea wr (EV.out wr HBX.out) (by rw [HX.out]; omega) (HA.out.trans ((if_neg h32).trans (if_neg h0))) Nat.one_pos)
                have hd3 : 1 ≤ (i : Int) := by omega
                clear hbig h32 h0
                go_wp2_with fail
                refine AM.out.mono ?_
                rintro e w8 ⟨g, cp, rfl, hg1, hg2, hb8, hcp, ht⟩
                have HB8 := Lib.hid (HBX.out.trans (below_le' hb8 HBX.out.size))
                clear hb8 hg1 hg2 hcp ht
                simp only [List.length_cons, List.length_nil]
                have HM := Lib.hid (show ((1 : Int) == min (i : Int) 1) = true by rw [beq_iff_eq]; omega)
                go_wp2_with fail
                go_ret
                exact ⟨ret_bool HM.out, HB8.out⟩
end Go.Proofs.YtfganjmadehhaaaGreatDoor
namespace Go.Proofs.YtfganjmadehhaaaGreatDoor
open Go.RowKit Go.Lib
set_option linter.unusedVariables false

theorem strLoop_lenZ (s : ByteArray) : ∀ (f i : Nat) (acc : List UInt8), (strLoop s f i acc).2.2.length ≤ acc.length + f
  | 0, i, acc => Nat.le_refl _
  | f + 1, i, acc => by
    rw [strLoop]
    split
    · simp only; omega
    · split
      · split
        · have := strLoop_lenZ s f (i + 2) (acc ++ [pk s (i + 1)])
          simp only [List.length_append, List.length_cons, List.length_nil] at this
          omega
        · simp only; omega
      · split
        · have := strLoop_lenZ s f (i + 1) (acc ++ [pk s i])
          simp only [List.length_append, List.length_cons, List.length_nil] at this
          omega
        · simp only; omega
theorem strSp_lenZ (s : ByteArray) (i : Nat) : (strSp s i).2.2.length ≤ s.size + 1 := by
  have := strLoop_lenZ s (s.size + 1) (i + 1) []
  rw [List.length_nil, Nat.zero_add] at this
  unfold strSp
  exact this
theorem strW_len {sub t : ByteArray} (h : strW sub = .inr t) : t.size ≤ sub.size + 1 := by
  unfold strW at h
  simp only at h
  split at h
  · split at h
    · cases h
    · injection h with h
      have := strSp_lenZ sub 0
      rw [← h]
      show (List.toArray _).size ≤ _
      rw [List.size_toArray]
      exact this
  · cases h
theorem wordR_len {s : ByteArray} {i n : Nat} {line : Int} {t : Tok} (hi : i < s.size) (h : wordR s i line = .word n t) : t.t.size ≤ n + 1 ∧ i + n ≤ s.size + 20 := by
  by_cases h1 : smB (pk s i) = true
  · rw [wordR_name h1] at h
    unfold nameR at h; simp only at h
    split at h
    · cases h
    · injection h with h h'; subst h h'; exact ⟨Nat.zero_le _, by have := run_le s (fun c => smB c || digB c) i (Nat.le_of_lt hi); omega⟩
  have h1 : smB (pk s i) = false := by simpa using h1
  by_cases h2 : digB (pk s i) = true
  · rw [wordR_int h1 h2] at h
    unfold intR at h
    split at h
    · cases h
    · rename_i v m hd; injection h with h h'; subst h h'; exact ⟨Nat.zero_le _, by have := (dgs_inr hd (by omega)).2.1; omega⟩
  have h2 : digB (pk s i) = false := by simpa using h2
  by_cases h3 : gtB (pk s i) = true
  · rw [wordR_code h1 h2 h3] at h
    unfold codeR at h; simp only at h
    split at h
    · cases h
    · injection h with h h'; subst h h'; exact ⟨Nat.zero_le _, by have := run_le s (fun c => gtB c || c == 95) i (Nat.le_of_lt hi); omega⟩
  have h3 : gtB (pk s i) = false := by simpa using h3
  by_cases h4 : pk s i = 35
  · rw [wordR_obj h4] at h
    unfold objR at h; simp only at h
    split at h
    · cases h
    · rename_i v m hd
      split at h
      · cases h
      · rcases ite_word h with h | h
        · cases h
        · injection h with h h'
          subst h'
          refine ⟨Nat.zero_le _, ?_⟩
          have hj : (if (pk s (i + 1) == 45) = true then i + 2 else i + 1) ≤ i + 2 := by split <;> omega
          have hm : m ≤ s.size := by
            rcases Nat.lt_or_ge s.size (if (pk s (i + 1) == 45) = true then i + 2 else i + 1) with hb | hb
            · unfold dgsSp at hd
              have hr : run s digB (if (pk s (i + 1) == 45) = true then i + 2 else i + 1) = 0 := by
                unfold run runN; rw [if_neg (by omega)]
              simp only [hr] at hd
              rw [if_pos (Or.inl trivial)] at hd
              cases hd
            · have := (dgs_inr hd hb).2.1; omega
          rcases Nat.lt_or_ge s.size (if (pk s (i + 1) == 45) = true then i + 2 else i + 1) with hb | hb
          · unfold dgsSp at hd
            have hr : run s digB (if (pk s (i + 1) == 45) = true then i + 2 else i + 1) = 0 := by
              unfold run runN; rw [if_neg (by omega)]
            simp only [hr] at hd
            rw [if_pos (Or.inl trivial)] at hd
            cases hd
          · have := (dgs_inr hd hb).2.1; omega
  by_cases h5 : pk s i = 34
  · rw [wordR_str h5] at h
    unfold strR at h
    cases hq : quoEnd s (s.size + 1) (i + 1) with
    | none => rw [hq] at h; cases h
    | some j =>
      rw [hq] at h
      have hj := quoEnd_le s _ _ _ hq
      unfold strRq strRw at h
      simp only at h
      cases hw : strW (s.extract i j) with
      | inl e => rw [hw] at h; cases h
      | inr x =>
        rw [hw] at h; simp only at h; injection h with h h'
        subst h h'
        have := strW_len hw
        have hz : (s.extract i j).size ≤ j - i := by rw [ByteArray.size_extract]; omega
        exact ⟨by show x.size ≤ _; omega, by omega⟩
  · rw [wordR_sign h1 h2 h3 h4 h5] at h
    unfold signR at h; simp only at h
    split at h
    · cases h
    · injection h with h h'; subst h h'
      refine ⟨Nat.zero_le _, ?_⟩
      rcases signAt_mem s i signsL ⟨#[]⟩ with hm | hm
      · rw [hm]; show i + 0 ≤ _; omega
      · have := signs_size _ hm; omega
theorem tokT_len {t : Tok} (h : TokOk t) : (tokT t).length ≤ 32 + 2 * t.t.size := by
  rcases h with ⟨hk, _, ho, h4, h0, hsz, hn0, hn1⟩ | ⟨hk, ⟨c, r, _, _, _, hl⟩, _⟩ | ⟨hk, hs, _⟩
  · unfold tokT
    rw [if_pos hk]
    rcases own_ok ho with ⟨e, _⟩ | ⟨e, _⟩ | ⟨e, _⟩ | ⟨e, a, b, _⟩ | ⟨e, _⟩
    · rw [e]; have := itoa_len hn0 hn1; show (itoa t.n).length ≤ _; omega
    · rw [e]; have := itoa_len hn0 hn1; show (35 :: itoa t.n).length ≤ _; rw [List.length_cons]; omega
    · rw [e]
      have hz : t.t.data.toList.length = t.t.size := by rw [Array.length_toList]; rfl
      have := escL_le t.t.data.toList
      show (quoL t.t.data.toList).length ≤ _
      unfold quoL
      simp only [List.length_append, List.length_cons, List.length_nil]
      omega
    · rw [e]; have := nmS_len t.n a b; show (nmS t.n).data.toList.length ≤ _; omega
    · exact absurd e h4
  · unfold tokT
    rw [if_neg (by rw [hk]; split <;> decide)]
    omega
  · unfold tokT
    rw [if_neg (by rw [hk]; decide)]
    have := signs_size _ hs
    have hz : t.s.data.toList.length = t.s.size := by rw [Array.length_toList]; rfl
    omega
/-- The words' texts, all together. -/
def sumT : List Tok → Nat
  | [] => 0
  | t :: l => (tokT t).length + sumT l
theorem sumT_app : ∀ a b, sumT (a ++ b) = sumT a + sumT b
  | [], b => by rw [List.nil_append, sumT, Nat.zero_add]
  | t :: a, b => by rw [List.cons_append, sumT, sumT, sumT_app a b, Nat.add_assoc]
theorem allSp_len {s : ByteArray} : ∀ (f i : Nat) (line : Int) (out m : List Tok), i ≤ s.size + 20 → allSp s f i line out = .inr m → ∃ l, m = out ++ l ∧ sumT l ≤ 40 * (s.size + 20 - i) ∧ l.length ≤ s.size - i ∧ ∀ t ∈ l, t.line ≤ line + (s.size - i : Nat)
  | 0, i, line, out, m, hi, h => by
    rw [allSp] at h; injection h with h
    exact ⟨[], by rw [← h, List.append_nil], Nat.zero_le _, Nat.zero_le _, fun t ht => by cases ht⟩
  | f + 1, i, line, out, m, hi, h => by
    rw [allSp] at h
    split at h
    · rename_i hs
      split at h
      · obtain ⟨l, h1, h2, h3, h4⟩ := allSp_len f _ _ _ _ (by omega) h
        exact ⟨l, h1, by omega, by omega, fun t ht => by have := h4 t ht; omega⟩
      · split at h
        · obtain ⟨l, h1, h2, h3, h4⟩ := allSp_len f _ _ _ _ (by omega) h
          exact ⟨l, h1, by omega, by omega, fun t ht => by have := h4 t ht; omega⟩
        · split at h
          · cases h
          · rename_i n t hw
            obtain ⟨hl, ht⟩ := wordR_ok hs hw
            obtain ⟨g1, g2⟩ := wordR_len hs hw
            have g3 := wordR_pos hs hw
            have g4 := tokT_len ht
            obtain ⟨l, h1, h2, h3, h4⟩ := allSp_len f _ _ _ _ g2 h
            refine ⟨t :: l, by rw [h1, List.append_assoc]; rfl, ?_, ?_, ?_⟩
            · rw [sumT]; omega
            · rw [List.length_cons]; omega
            · intro u hu
              rcases List.mem_cons.1 hu with rfl | hu
              · rw [hl]; omega
              · have := h4 u hu; omega
    · injection h with h
      exact ⟨[], by rw [← h, List.append_nil], Nat.zero_le _, Nat.zero_le _, fun t ht => by cases ht⟩
theorem allW_len {s : ByteArray} {m : List Tok} (h : allW s = .inr m) : sumT m ≤ 40 * (s.size + 20) ∧ m.length ≤ s.size ∧ ∀ t ∈ m, t.line ≤ 1 + (s.size : Int) := by
  obtain ⟨l, h1, h2, h3, h4⟩ := allSp_len _ _ _ _ _ (by omega) h
  rw [List.nil_append] at h1
  subst h1
  exact ⟨h2, h3, h4⟩
theorem joinT_len : ∀ (l : List Tok) (line : Int) (first : Bool), Rise line l → ((spT (joinL line first l)).length : Int) ≤ sumT l + l.length + (endL line l - line)
  | [], line, first, h => by show (0 : Int) ≤ 0 + 0 + (line - line); omega
  | t :: l, line, first, h => by
    have h1 : line ≤ t.line := h.1
    have hmax : max line t.line = t.line := by omega
    have := joinT_len l t.line false h.2
    have e : spT (joinL line first (t :: l)) = (if line < t.line then List.replicate (t.line - line).toNat 10 else if first then [] else [32]) ++ (tokT t ++ spT (joinL (max line t.line) false l)) := rfl
    rw [e, hmax]
    have hw : ((if line < t.line then List.replicate (t.line - line).toNat (10 : UInt8) else if first then [] else [32]).length : Int) ≤ 1 + (t.line - line) := by
      split
      · rw [List.length_replicate]; omega
      · split
        · show (0 : Int) ≤ _; omega
        · show (1 : Int) ≤ _; omega
    have e2 : endL line (t :: l) = endL t.line l := rfl
    rw [e2, List.length_append, List.length_append, sumT, List.length_cons]
    omega
end Go.Proofs.YtfganjmadehhaaaGreatDoor
namespace Go.Proofs.YtfganjmadehhaaaGreatDoor
open Go.RowKit Go.Lib
set_option linter.unusedVariables false

theorem row_of {w : World} {g : Nat} : ∀ (l : List Tok) (o : Nat), (∀ j t, l[j]? = some t → ∃ sa sc, TkIn w g (7 * (o + j)) t sa sc) → ∃ L : List TokM, L.map (·.1) = l ∧ ∀ j p, L[j]? = some p → TkIn w g (7 * (o + j)) p.1 p.2.1 p.2.2
  | [], o, h => ⟨[], rfl, fun j p hj => by simp at hj⟩
  | t :: l, o, h => by
    obtain ⟨sa, sc, h0⟩ := h 0 t rfl
    obtain ⟨L, h1, h2⟩ := row_of l (o + 1) (fun j u hj => by
      obtain ⟨a, c, h3⟩ := h (j + 1) u (by simpa using hj)
      exact ⟨a, c, by rw [show o + 1 + j = o + (j + 1) by omega]; exact h3⟩)
    refine ⟨(t, sa, sc) :: L, by rw [List.map_cons, h1], fun j p hj => ?_⟩
    cases j with
    | zero => simp at hj; subst hj; exact h0
    | succ j => rw [show o + (j + 1) = o + 1 + j by omega]; exact h2 j p (by simpa using hj)
/-- One word's line set, in memory. -/
def setLn (L : List TokM) (i : Nat) (n : Int) : List TokM := L.modify i fun p => ({ p.1 with line := n }, p.2)
theorem tkCells_line : ∀ (L : List TokM) (i : Nat) (n : Int), i < L.length → (tkCells L).set (7 * i + 1) (.int .i64 n) = tkCells (setLn L i n)
  | [], i, n, h => absurd h (Nat.not_lt_zero _)
  | q :: L, 0, n, h => rfl
  | q :: L, i + 1, n, h => by
    have ih := tkCells_line L i n (by simpa using h)
    have e : tkCells (q :: L) = tk7 q ++ tkCells L := rfl
    have e2 : tkCells (setLn (q :: L) (i + 1) n) = tk7 q ++ tkCells (setLn L i n) := rfl
    have hq : (tk7 q).length = 7 := rfl
    rw [e, e2, List.set_append_right _ _ (by rw [hq]; omega), hq, show 7 * (i + 1) + 1 - 7 = 7 * i + 1 by omega, ih]
/-- The first words' lines moved. -/
def mvTo (d : Int) (i : Nat) (L : List TokM) : List TokM := (L.take i).map (fun p => ({ p.1 with line := p.1.line + d }, p.2)) ++ L.drop i
theorem mvTo_zero (d : Int) (L : List TokM) : mvTo d 0 L = L := rfl
theorem mvTo_length (d : Int) (i : Nat) (L : List TokM) : (mvTo d i L).length = L.length := by
  unfold mvTo; rw [List.length_append, List.length_map, List.length_take, List.length_drop]; omega
theorem mvTo_all (d : Int) (L : List TokM) : (mvTo d L.length L).map (·.1) = mvL d (L.map (·.1)) := by
  unfold mvTo mvL
  rw [List.take_length, List.drop_length, List.append_nil, List.map_map, List.map_map]
  rfl
theorem mvTo_get (d : Int) (i : Nat) (L : List TokM) (h : i < L.length) : (mvTo d i L)[i]? = L[i]? := by
  unfold mvTo
  have hz : ((L.take i).map (fun p : TokM => (({ p.1 with line := p.1.line + d } : Tok), p.2))).length = i := by rw [List.length_map, List.length_take]; omega
  rw [List.getElem?_append_right (by omega), hz, Nat.sub_self, List.getElem?_drop]
  rfl
theorem mvTo_succ (d : Int) : ∀ (L : List TokM) (i : Nat) (p : TokM), L[i]? = some p → setLn (mvTo d i L) i (p.1.line + d) = mvTo d (i + 1) L
  | [], i, p, h => by simp at h
  | q :: L, 0, p, h => by simp at h; subst h; rfl
  | q :: L, i + 1, p, h => by
    have ih := mvTo_succ d L i p (by simpa using h)
    show ({ q.1 with line := q.1.line + d }, q.2) :: setLn (mvTo d i L) i (p.1.line + d) = _
    rw [ih]; rfl
theorem endL_take : ∀ (l : List Tok) (k : Nat) (line : Int) (u : Tok), l[k]? = some u → endL line (l.take (k + 1)) = u.line
  | [], k, line, u, h => by simp at h
  | t :: l, 0, line, u, h => by simp at h; subst h; rfl
  | t :: l, k + 1, line, u, h => by
    rw [List.take_succ_cons]
    exact endL_take l k t.line u (by simpa using h)
/-- The text that LexSpaces asks for. -/
def spcL (L : Nat) (a : List Tok) (t0 : Tok) (b : List Tok) : List UInt8 :=
  List.replicate L 10 ++ ([32, 32] ++ (spT (joinL 1 true a) ++ (blkL (t0.line - endL 1 a).toNat ++ ([32, 32, 32] ++ spT (joinL 1 true (mvL (1 - t0.line) (t0 :: b)))))))
theorem joinL_nil_ne {l : List Tok} (h : l ≠ []) (line : Int) (first : Bool) : joinL line first l ≠ [] := by
  cases l with
  | nil => exact absurd rfl h
  | cons t l => intro e; cases e
theorem spc_all {s : ByteArray} {a b : List Tok} {t0 : Tok} (L : Nat) (hok : ∀ t ∈ a ++ t0 :: b, TokOk t) (hr : Rise 1 (a ++ t0 :: b)) (hs : s.data.toList = spcL L a t0 b) : allW s = .inr (mvL L (a ++ t0 :: b)) := by
  refine spaces_p L hok hr ?_
  rw [hs, spT_app, spT_pre (l := joinL 1 true (mvL (1 - t0.line) (t0 :: b))) _ (joinL_nil_ne (by intro e; cases e) _ _)]
  unfold spcL
  cases a with
  | nil =>
    rw [if_pos rfl]
    simp [preS, joinL, spT, List.append_assoc]
  | cons x a =>
    rw [if_neg (by simp), spT_pre _ (joinL_nil_ne (by simp) _ _)]
    simp only [List.append_assoc, List.nil_append]
theorem rise_end : ∀ (l : List Tok) (line B : Int), line ≤ B → (∀ t ∈ l, t.line ≤ B) → endL line l ≤ B
  | [], _, _, h, _ => h
  | t :: l, line, B, h, hl => rise_end l t.line B (hl t (List.mem_cons_self ..)) (fun u hu => hl u (List.mem_cons_of_mem _ hu))
theorem rise_ge : ∀ {l : List Tok} {v : Int}, Rise v l → ∀ t ∈ l, v ≤ t.line
  | [], _, _, _, ht => by cases ht
  | x :: l, v, h, t, ht => by
    rcases List.mem_cons.1 ht with rfl | ht
    · exact h.1
    · exact Int.le_trans h.1 (rise_ge h.2 t ht)
theorem sumT_mv (d : Int) : ∀ l, sumT (mvL d l) = sumT l
  | [] => rfl
  | t :: l => by show (tokT t).length + sumT (mvL d l) = _; rw [sumT_mv d l]; rfl
theorem blk_len : ∀ n, (blkL n).length = 2 * n
  | 0 => rfl
  | n + 1 => by rw [blkL, List.length_cons, List.length_cons, blk_len n]; omega
theorem spc_len {a b : List Tok} {t0 : Tok} {L n : Nat} (hL : L < 10) (hr : Rise 1 (a ++ t0 :: b)) (h1 : sumT (a ++ t0 :: b) ≤ 40 * (n + 20)) (h2 : (a ++ t0 :: b).length ≤ n) (h3 : ∀ t ∈ a ++ t0 :: b, t.line ≤ 1 + (n : Int)) (hn : n ≤ 500) :
    (spcL L a t0 b).length ≤ 32768 ∧ (spT (joinL 1 true a)).length ≤ 30000 ∧ (spT (joinL 1 true (mvL (1 - t0.line) (t0 :: b)))).length ≤ 30000 ∧ (∀ t ∈ a ++ t0 :: b, 1 ≤ t.line) := by
  obtain ⟨r1, r2⟩ := rise_app a (t0 :: b) 1 hr
  have hD : endL 1 a ≤ t0.line := r2.1
  have r3 : Rise 1 (mvL (1 - t0.line) (t0 :: b)) := by
    have := rise_mv _ _ (1 - t0.line) (show Rise t0.line (t0 :: b) from ⟨Int.le_refl _, r2.2⟩)
    rwa [show t0.line + (1 - t0.line) = 1 by omega] at this
  have e1 := joinT_len a 1 true r1
  have e2 := joinT_len _ 1 true r3
  have t0l := h3 t0 (by simp)
  have g1 := rise_end a 1 (1 + (n : Int)) (by omega) (fun t ht => h3 t (List.mem_append_left _ ht))
  have g0 := endL_le a 1 r1
  have g2 := rise_end (mvL (1 - t0.line) (t0 :: b)) 1 (1 + (n : Int)) (by omega) (fun t ht => by
    obtain ⟨u, hu, rfl⟩ := List.mem_map.1 ht
    have := h3 u (List.mem_append_right _ hu)
    show u.line + (1 - t0.line) ≤ _
    omega)
  rw [sumT_app] at h1
  rw [sumT_mv, show (mvL (1 - t0.line) (t0 :: b)).length = (t0 :: b).length from List.length_map _] at e2
  rw [List.length_append] at h2
  refine ⟨?_, by omega, by omega, ?_⟩
  · unfold spcL
    simp only [List.length_append, List.length_replicate, blk_len, List.length_cons, List.length_nil] at *
    omega
  · exact rise_ge hr
end Go.Proofs.YtfganjmadehhaaaGreatDoor
namespace Go.Proofs.YtfganjmadehhaaaGreatDoor
open Go.RowKit Go.Lib
set_option linter.unusedVariables false

def okC (c : UInt8) : Prop := prC c = true ∧ c ≠ 34 ∧ c ≠ 92
theorem size_list (b : ByteArray) : b.size = b.data.toList.length := by rw [Array.length_toList]; rfl
theorem mem_pk {s : ByteArray} (h : ∀ j, j < s.size → okC (pk s j)) : ∀ c ∈ s.data.toList, okC c := by
  intro c hc
  obtain ⟨j, hj, rfl⟩ := List.getElem_of_mem hc
  have hj' : j < s.size := by rw [size_list]; exact hj
  have := h j hj'
  unfold pk at this
  rw [List.getD_eq_getElem?_getD, List.getElem?_eq_getElem hj] at this
  exact this

set_option maxRecDepth 100000 in
set_option maxHeartbeats 8000000 in
theorem lexEnds_c (a : Int) (s : ByteArray) (ea : Nat → Addr) (w : World) (ha0 : -9223372036854775808 ≤ a) (ha1 : a ≤ 9223372036854775807) (hsz : s.size ≤ 140737488351232) (hse : SeesAt w ea) (hst : StrcAt w) (hsp : SpaceAt w) :
    Calls Tryz.prog 4 #[.int .i64 a, .string s] w fun e w' => e = .returned (.bool true) ∧ Below w.heap.size w w' := by
  have he : LxEnv w ea := ⟨hse.errs, hsp, hst⟩
  have hroom := hse.room
  have F := Lib.hid (lfirst_c ea w he)
  have EV := Lib.hid (fun W (hW : Below w.heap.size w W) => he.below hW (by omega))
  have SV := Lib.hid (fun W (hW : Below w.heap.size w W) => hse.below hW)
  have NC := Lib.hid (fun W => wnumber_c a 20 W ha0 ha1 (by decide) (by decide))
  clear he hse hst hsp
  by_cases h50 : 50 < s.size
  · have hd : (50 : Int) < (s.size : Int) := by omega
    clear h50
    go_enter Tryz.func4, Tryz.ntmps4
    go_wp2_with fail
    refine F.out.mono ?_
    rintro e w2 ⟨rfl, hb2⟩
    have HB2 := Lib.hid hb2
    clear hb2
    go_wp2_with fail
    refine (NC.out w2).mono ?_
    rintro e w3 ⟨L, hL, rfl, rfl⟩
    go_wp2_with fail
    go_ret
    exact ⟨rfl, HB2.out⟩
  have hs50 : (s.size : Int) ≤ 50 := by omega
  go_enter Tryz.func4, Tryz.ntmps4
  go_wp2_with fail
  refine F.out.mono ?_
  rintro e w2 ⟨rfl, hb2⟩
  have HB2 := Lib.hid hb2
  clear hb2
  go_wp2_with fail
  refine (NC.out w2).mono ?_
  rintro e w3 ⟨L, hL, rfl, rfl⟩
  go_wp2_with fail
  go_loopg [6, 7] L (fun kk pv iv wr => ∃ (p : ByteArray) (i : Nat), pv = .string p ∧ iv = .int .i64 (i : Int) ∧ i + kk = L ∧ w2 = wr ∧ Hid (p.data.toList = List.replicate i 10))
  case atStart => exact ⟨⟨#[]⟩, 0, rfl, rfl, by omega, rfl, rfl⟩
  case round =>
    obtain ⟨p, i, rfl, rfl, hk, rfl, hp⟩ := hrel
    by_cases hi : i < L
    · obtain ⟨kk, rfl⟩ : ∃ kk, gk = kk + 1 := ⟨gk - 1, by omega⟩
      have HP := Lib.hid (show (p ++ (⟨#[10]⟩ : ByteArray)).data.toList = List.replicate (i + 1) 10 by
        rw [ByteArray.data_append, Array.toList_append, hp.out, List.replicate_succ'])
      have hpz : p.size ≤ 20 := by rw [size_list, hp.out, List.length_replicate]; omega
      clear hp
      go_wp2_with fail
      go_roundg kk
      case measure => omega
      case rel => exact ⟨_, i + 1, rfl, by go_num, by omega, rfl, HP.out⟩
    · obtain rfl : i = L := by omega
      have HP := Lib.hid hp.out
      have hpz : p.size = i := by rw [size_list, hp.out, List.length_replicate]
      have hp20 : p.size ≤ 20 := by omega
      have hs50' : s.size ≤ 50 := by omega
      have HPZ := Lib.hid hpz
      clear hp hk hpz
      go_wp2_with fail
      go_loopg [8] s.size (fun kk jv wr => ∃ (j : Nat), jv = .int .i64 (j : Int) ∧ j + kk = s.size ∧ w2 = wr ∧ Hid (∀ x, x < j → okC (pk s x)))
      case atStart => exact ⟨0, rfl, by omega, rfl, fun x hx => by omega⟩
      case round =>
        obtain ⟨j, rfl, hk, rfl, hq⟩ := hrel
        by_cases hj : j < s.size
        · obtain ⟨kk, rfl⟩ : ∃ kk, gk = kk + 1 := ⟨gk - 1, by omega⟩
          have hpk := pk_in s j hj
          by_cases h34 : pk s j = 34
          · have t34 : (((s[j]'hj).toNat : Int) == 34) = true := by rw [← hpk, h34]; rfl
            clear hq hpk h34
            go_wp2_with fail
            go_ret
            exact ⟨rfl, HB2.out⟩
          have t34 : (((s[j]'hj).toNat : Int) == 34) = false := by rw [← hpk]; exact byte_f (d := 34) (k := 34) rfl h34
          by_cases h92 : pk s j = 92
          · have t92 : (((s[j]'hj).toNat : Int) == 92) = true := by rw [← hpk, h92]; rfl
            clear hq hpk h34 h92
            go_wp2_with fail
            go_ret
            exact ⟨rfl, HB2.out⟩
          have t92 : (((s[j]'hj).toNat : Int) == 92) = false := by rw [← hpk]; exact byte_f (d := 92) (k := 92) rfl h92
          by_cases hlo : (pk s j).toNat < 32
          · have tlo : ((s[j]'hj).toNat : Int) < 32 := by rw [← hpk]; omega
            clear hq hpk h34 h92 hlo
            go_wp2_with fail
            go_ret
            exact ⟨rfl, HB2.out⟩
          have tlo : 32 ≤ ((s[j]'hj).toNat : Int) := by rw [← hpk]; omega
          by_cases hhi : 126 < (pk s j).toNat
          · have thi : 126 < ((s[j]'hj).toNat : Int) := by rw [← hpk]; omega
            clear hq hpk h34 h92 hlo hhi
            go_wp2_with fail
            go_ret
            exact ⟨rfl, HB2.out⟩
          have thi : ((s[j]'hj).toNat : Int) ≤ 126 := by rw [← hpk]; omega
          have HQ := Lib.hid (show ∀ x, x < j + 1 → okC (pk s x) from fun x hx => by
            rcases Nat.lt_or_ge x j with h | h
            · exact hq.out x h
            · obtain rfl : x = j := by omega
              exact ⟨decide_eq_true (by omega), h34, h92⟩)
          clear hq hpk h34 h92 hlo hhi
          go_wp2_with fail
          go_roundg kk
          case measure => omega
          case rel => exact ⟨j + 1, by go_num, by omega, rfl, HQ.out⟩
        · obtain rfl : j = s.size := by omega
          have hok := mem_pk hq.out
          have T1 := Lib.hid (ends_e (s := p ++ (⟨#[34]⟩ : ByteArray) ++ s ++ (⟨#[10, 34]⟩ : ByteArray)) (L := i) (l := s.data.toList) hok (by simp [HP.out]))
          have T2 := Lib.hid (ends_f (s := p ++ (⟨#[57, 50, 50, 51, 51, 55, 50, 48, 51, 54, 56, 53, 52, 55, 55, 53, 56, 48, 56]⟩ : ByteArray)) (L := i) (by rw [ByteArray.data_append, Array.toList_append, HP.out]; rfl))
          have T3 := Lib.hid (ends_g (s := p ++ (⟨#[35, 50, 49, 52, 55, 52, 56, 51, 54, 52, 56]⟩ : ByteArray)) (L := i) (by rw [ByteArray.data_append, Array.toList_append, HP.out]; rfl))
          have T4 := Lib.hid (ends_h (s := p ++ (⟨#[57, 50, 50, 51, 51, 55, 50, 48, 51, 54, 56, 53, 52, 55, 55, 53, 56, 48, 55, 32, 35, 45, 50, 49, 52, 55, 52, 56, 51, 54, 52, 56]⟩ : ByteArray)) (L := i) (by rw [ByteArray.data_append, Array.toList_append, HP.out]; rfl))
          clear hq hok hk
          go_wp2_with fail
          refine (all_bad ea _ (EV.out _ HB2.out) (by simp only [ByteArray.size_append]; show p.size + 1 + s.size + 2 ≤ 32768; omega) T1.out).mono ?_
          rintro e w3 ⟨A1, hA1, hh1, rfl, hb3⟩
          have HB3 := Lib.hid (HB2.out.trans (below_le' hb3 HB2.out.size))
          have X1 := Lib.hid (show AtAt w3 A1 (1 + (i : Int)) (.iface 199 (.pointer (some (ea (101 + 10))))) from hh1)
          clear hA1 hh1 hb3
          go_wp2_with fail
          refine (all_bad ea _ (EV.out _ HB3.out) (by simp only [ByteArray.size_append]; show p.size + 19 ≤ 32768; omega) T2.out).mono ?_
          rintro e w4 ⟨A2, hA2, hh2, rfl, hb4⟩
          have HB4 := Lib.hid (HB3.out.trans (below_le' hb4 HB3.out.size))
          have X12 := Lib.hid (X1.out.below hb4)
          have X2 := Lib.hid (show AtAt w4 A2 (1 + (i : Int)) (.iface 199 (.pointer (some (ea (101 + 4))))) from hh2)
          clear hA2 hh2 hb4
          go_wp2_with fail
          refine (all_bad ea _ (EV.out _ HB4.out) (by simp only [ByteArray.size_append]; show p.size + 11 ≤ 32768; omega) T3.out).mono ?_
          rintro e w5 ⟨A3, hA3, hh3, rfl, hb5⟩
          have HB5 := Lib.hid (HB4.out.trans (below_le' hb5 HB4.out.size))
          have X13 := Lib.hid (X12.out.below hb5)
          have X23 := Lib.hid (X2.out.below hb5)
          have X3 := Lib.hid (show AtAt w5 A3 (1 + (i : Int)) (.iface 199 (.pointer (some (ea (101 + 4))))) from hh3)
          clear hA3 hh3 hb5
          go_wp2_with fail
          refine (all_some ea _ (EV.out _ HB5.out) (by simp only [ByteArray.size_append]; show p.size + 32 ≤ 32768; omega) T4.out Nat.two_pos).mono ?_
          rintro e w6 ⟨g, cap, rfl, hg1, hg2, hb6, hcap, ht⟩
          have HB6 := Lib.hid (HB5.out.trans (below_le' hb6 HB5.out.size))
          have X14 := Lib.hid (X13.out.below hb6)
          have X24 := Lib.hid (X23.out.below hb6)
          have X34 := Lib.hid (X3.out.below hb6)
          obtain ⟨sa0, sc0, t0⟩ := ht 0 _ rfl
          obtain ⟨sa1, sc1, t1⟩ := ht 1 _ rfl
          have KK := Lib.hid (fun W (hW : Below w6.heap.size w6 W) => (⟨(t0.below hW hg2).c4, (t1.below hW hg2).c4⟩ : W.cell? ⟨g, 4, none⟩ = some (.int .i64 9223372036854775807) ∧ W.cell? ⟨g, 11, none⟩ = some (.int .i64 (-2147483648))))
          clear hg1 hb6 hcap ht t0 t1
          rw [show [(⟨3, 1 + (i : Int), ⟨#[]⟩, 0, 9223372036854775807, ⟨#[]⟩⟩ : Tok), ⟨3, 1 + (i : Int), ⟨#[]⟩, 1, -2147483648, ⟨#[]⟩⟩].length = 2 from rfl]
          go_wp2_with fail
          refine (placed_c 105 _ rfl _).mono ?_
          rintro e w7 ⟨he7, hb7⟩
          have he7' : e = .returned (.agg #[.int .i64 105, .bool true, .int .i64 (1 + (i : Int)), .int .i64 0, .int .i64 0, .string ⟨#[]⟩, .slice none 0 0]) := he7
          subst he7'
          obtain ⟨w8, hw8⟩ : ∃ w8, w8 = w7.alloc (.cells #[.int .i64 105, .bool true, .int .i64 (1 + (i : Int)), .int .i64 0, .int .i64 0, .string ⟨#[]⟩, .slice none 0 0] 40) := ⟨_, rfl⟩
          have hb8 : Below w6.heap.size w6 w8 := by rw [hw8]; exact hb7.alloc hb7.size _
          have hF8 : StF w8 w7.heap.size (.int .i64 105) (.bool true) (.int .i64 (1 + (i : Int))) (.int .i64 0) (.int .i64 0) (.string ⟨#[]⟩) (.slice none 0 0) := by rw [hw8]; exact StF.new w7 _ _ _ _ _ _ _
          have hz8 : w7.heap.size < w8.heap.size := by rw [hw8]; simp
          have HF8 := Lib.hid hF8
          have H68 := Lib.hid hb8
          have HW8 := Lib.hid hw8
          clear he7 hb7 hb8 hF8 hw8
          go_wp2_with fail
          rw [← HW8.out]
          refine (placed_c 111 _ rfl _).mono ?_
          rintro e w9 ⟨rfl, hb9⟩
          have H69 := Lib.hid (H68.out.trans (below_le' hb9 H68.out.size))
          have HF9 := Lib.hid (HF8.out.below hb9)
          have hz9 := hb9.size
          clear hb9
          go_wp2_with fail
          refine (same_c _ 111 true _ _ (fun W hW => fault_at ea 10 A1 _ W (SV.out W (HB6.out.trans (below_le' (H69.out.trans (below_le' hW H69.out.size)) HB6.out.size))) (by decide) (X14.out.below (H69.out.trans (below_le' hW H69.out.size))))).mono ?_
          rintro e w10 ⟨rfl, hb10⟩
          have H610 := Lib.hid (H69.out.trans (below_le' hb10 H69.out.size))
          have hF10 := HF9.out.below hb10
          have HF10 := Lib.hid hF10
          have hz10 := hb10.size
          obtain ⟨f0, f1, f2, f3, f4, f5, f6⟩ := hF10.cells
          clear hb10 hF10
          go_wp2_with fail
          refine (same_c _ 105 true (1 + (i : Int)) _ (fun W hW => fault_at ea 4 A2 _ W (SV.out W (HB6.out.trans (below_le' (H610.out.trans (below_le' hW H610.out.size)) HB6.out.size))) (by decide) (X24.out.below (H610.out.trans (below_le' hW H610.out.size))))).mono ?_
          rintro e w11 ⟨rfl, hb11⟩
          have H611 := Lib.hid (H610.out.trans (below_le' hb11 H610.out.size))
          have hF11 := HF10.out.below hb11
          clear f0 f1 f2 f3 f4 f5 f6
          obtain ⟨f0, f1, f2, f3, f4, f5, f6⟩ := hF11.cells
          clear hb11 hF11
          go_wp2_with fail
          refine (same_c _ 105 true (1 + (i : Int)) _ (fun W hW => fault_at ea 4 A3 _ W (SV.out W (HB6.out.trans (below_le' (H611.out.trans (below_le' hW H611.out.size)) HB6.out.size))) (by decide) (X34.out.below (H611.out.trans (below_le' hW H611.out.size))))).mono ?_
          rintro e w12 ⟨rfl, hb12⟩
          have H612 := Lib.hid (H611.out.trans (below_le' hb12 H611.out.size))
          obtain ⟨k4, k11⟩ := KK.out w12 H612.out
          clear hb12 f0 f1 f2 f3 f4 f5 f6
          go_wp2_with fail
          go_ret
          exact ⟨rfl, HB6.out.trans (below_le' H612.out HB6.out.size)⟩
end Go.Proofs.YtfganjmadehhaaaGreatDoor
namespace Go.Proofs.YtfganjmadehhaaaGreatDoor
open Go.RowKit Go.Lib
set_option linter.unusedVariables false

theorem tkRow_cells {w : World} {g : Nat} : ∀ (M : List TokM) (o : Nat), (∀ j p, M[j]? = some p → TkIn w g (7 * (o + j)) p.1 p.2.1 p.2.2) → ∀ j u, (tkCells M)[j]? = some u → w.cell? ⟨g, 7 * o + j, none⟩ = some u
  | [], o, h, j, u, hj => by simp [tkCells] at hj
  | p :: M, o, h, j, u, hj => by
    have e : tkCells (p :: M) = tk7 p ++ tkCells M := rfl
    have hq : (tk7 p).length = 7 := rfl
    rw [e] at hj
    rcases Nat.lt_or_ge j 7 with h7 | h7
    · rw [List.getElem?_append_left (by omega)] at hj
      have h0 := h 0 p rfl
      have c0 := h0.c0; have c1 := h0.c1; have c2 := h0.c2; have c3 := h0.c3; have c4 := h0.c4; have c5 := h0.c5; have c6 := h0.c6
      rw [Nat.add_zero] at c0 c1 c2 c3 c4 c5 c6
      match j, h7 with
      | 0, _ => injection hj with hj; rw [← hj]; exact c0
      | 1, _ => injection hj with hj; rw [← hj]; exact c1
      | 2, _ => injection hj with hj; rw [← hj]; exact c2
      | 3, _ => injection hj with hj; rw [← hj]; exact c3
      | 4, _ => injection hj with hj; rw [← hj]; exact c4
      | 5, _ => injection hj with hj; rw [← hj]; exact c5
      | 6, _ => injection hj with hj; rw [← hj]; exact c6
    · rw [List.getElem?_append_right (by omega), hq] at hj
      have := tkRow_cells M (o + 1) (fun j' p' hj' => by
        rw [show o + 1 + j' = o + (j' + 1) by omega]; exact h (j' + 1) p' (by simpa using hj')) (j - 7) u hj
      rwa [show 7 * (o + 1) + (j - 7) = 7 * o + j by omega] at this
theorem tkCells_one : ∀ (L : List TokM), ∀ u ∈ tkCells L, u.oneCell' = true
  | [], u, h => by simp [tkCells] at h
  | p :: L, u, h => by
    have e : tkCells (p :: L) = tk7 p ++ tkCells L := rfl
    rw [e] at h
    rcases List.mem_append.1 h with h | h
    · simp only [tk7, List.mem_cons, List.not_mem_nil, or_false] at h
      rcases h with rfl | rfl | rfl | rfl | rfl | rfl | rfl <;> rfl
    · exact tkCells_one L u h
theorem tkCells_lenZ : ∀ (L : List TokM), (tkCells L).length = L.length * 7
  | [] => rfl
  | p :: L => by
    have e : tkCells (p :: L) = tk7 p ++ tkCells L := rfl
    have hq : (tk7 p).length = 7 := rfl
    rw [e, List.length_append, tkCells_lenZ L, hq, List.length_cons]; omega
theorem addr_add0 (g a b j : Nat) (h : a = b) : (⟨g, a, none⟩ : Addr).add j = ⟨g, b + j, none⟩ := by
  subst h; unfold Addr.add; split <;> simp_all
theorem blk_snoc : ∀ n, blkL (n + 1) = blkL n ++ [32, 10]
  | 0 => rfl
  | n + 1 => by
    show 32 :: 10 :: blkL (n + 1) = (32 :: 10 :: blkL n) ++ [32, 10]
    rw [blk_snoc n]; rfl

theorem tok_fit {t : Tok} (h : TokOk t) : (val1 t.k t.n t.t .nil).fit := by
  have hs : t.t.size ≤ 140737488351232 := by
    rcases h with ⟨_, _, h⟩ | ⟨_, _, _, _, h⟩ | ⟨_, _, _, _, h⟩
    · have := h.2.2.2.1; omega
    · rw [h]; decide
    · rw [h]; decide
  exact ⟨hs, Nat.zero_le _, trivial, trivial⟩
/-- The rest of the words, their lines moved, joined. -/
theorem join_moved (M : List TokM) (t0 : Tok) (b : List Tok) (g c : Nat) (base : Nat) (v : Int) (W : World) (ea : Nat → Addr) (he : ErrsAt W ea) (hx : TxAt W) (hm : M.map (·.1) = t0 :: b)
    (hown : W.ownsRow base 34 7 (.slice (some ⟨g, 0, none⟩) M.length c) M.length (tkCells (mvTo (1 - t0.line) M.length M))) (hok : ∀ t ∈ t0 :: b, TokOk t) (hr : Rise v (t0 :: b)) (hl : ∀ t ∈ t0 :: b, 1 ≤ t.line ∧ t.line ≤ 501)
    (hlen : (spT (joinL 1 true (mvL (1 - t0.line) (t0 :: b)))).length ≤ 1000000) (hn : M.length ≤ 1000000) :
    Calls Tryz.prog 18 #[.slice (some ⟨g, 0, none⟩) M.length c] W fun e w' => e = .returned (.string ⟨(spT (joinL 1 true (mvL (1 - t0.line) (t0 :: b)))).toArray⟩) ∧ Below W.heap.size W w' := by
  have hz : (mvTo (1 - t0.line) M.length M).length = M.length := mvTo_length _ _ _
  have hg : g < W.heap.size := (hown.lt g rfl).2
  have r3 : Rise 1 (mvL (1 - t0.line) (t0 :: b)) := by
    have := rise_mv _ _ (1 - t0.line) (show Rise t0.line (t0 :: b) from ⟨Int.le_refl _, hr.2⟩)
    rwa [show t0.line + (1 - t0.line) = 1 by omega] at this
  have := join_c (mvTo (1 - t0.line) M.length M) (mvL (1 - t0.line) (t0 :: b)) g c ea W he hx (by rw [mvTo_all, hm]) (fun j p hj => own_tkIn hown j p hj) hg (tok_mv _ hok)
    (fun t ht => ⟨rise_ge r3 t ht, by
      obtain ⟨u, hu, rfl⟩ := List.mem_map.1 ht
      have h1 := hl u hu
      have h2 := hl t0 (List.mem_cons_self ..)
      show u.line + (1 - t0.line) ≤ _
      omega⟩) hlen (by rw [hz]; exact hn)
  rw [hz] at this
  exact this
theorem same_tok (t : Tok) (sb sa : Option Addr) (sd sc : Nat) (W : World) (hfit : (val1 t.k t.n t.t .nil).fit) :
    Calls Tryz.prog 17 #[.agg #[.int .i64 t.k, .int .i64 t.n, .string t.t, .slice sb 0 sd], .agg #[.int .i64 t.k, .int .i64 t.n, .string t.t, .slice sa 0 sc]] W fun e w' => e = .returned (.bool true) ∧ Below W.heap.size W w' := by
  have h := sameV_c t.k t.n t.t .nil sb sd t.k t.n t.t .nil sa sc W hfit hfit (Nat.zero_le _) (Nat.zero_le _) trivial trivial
  have e : same1 t.k t.n t.t .nil t.k t.n t.t .nil = true := by unfold same1; simp [sameL]
  rw [e] at h
  exact h
theorem spaces_text {X X0 : ByteArray} {J1 J2 : List UInt8} {n c : Nat} {a b : List Tok} {t0 : Tok} (h0 : X0.data.toList = List.replicate n 10 ++ ([32, 32] ++ J1)) (hX : X.data.toList = X0.data.toList ++ blkL c)
    (h1 : J1 = spT (joinL 1 true a)) (h2 : J2 = spT (joinL 1 true (mvL (1 - t0.line) (t0 :: b)))) (hc : c = (t0.line - endL 1 a).toNat) :
    (X ++ (⟨#[32, 32, 32]⟩ : ByteArray) ++ ⟨J2.toArray⟩).data.toList = spcL n a t0 b := by
  rw [ByteArray.data_append, ByteArray.data_append, Array.toList_append, Array.toList_append, hX, h0]
  unfold spcL
  rw [← h1, ← h2, ← hc]
  simp only [List.append_assoc]

set_option maxRecDepth 100000 in
set_option maxHeartbeats 8000000 in
theorem lexSpaces_c (s : ByteArray) (a0 b0 : Int) (ea : Nat → Addr) (w : World) (ha0 : -9223372036854775808 ≤ a0) (ha1 : a0 ≤ 9223372036854775807) (hb0 : -9223372036854775808 ≤ b0) (hb1 : b0 ≤ 9223372036854775807) (he : LxEnv w ea) (hx : TxAt w) :
    Calls Tryz.prog 6 #[.string s, .int .i64 a0, .int .i64 b0] w fun e w' => e = .returned (.bool true) ∧ Below w.heap.size w w' := by
  have hroom := he.err.room
  have F := Lib.hid (lfirst_c ea w he)
  have EV := Lib.hid (fun W (hW : Below w.heap.size w W) => he.below hW (by omega))
  have XV := Lib.hid (fun W (hW : Below w.heap.size w W) => hx.below hW (Nat.le_refl _))
  have NA := Lib.hid (fun W => wnumber_c a0 10 W ha0 ha1 (by decide) (by decide))
  have NB := Lib.hid (fun (n : Nat) (h0 : 0 < n) (h1 : n ≤ 1000000) W => wnumber_c b0 n W hb0 hb1 h0 h1)
  clear he hx
  by_cases hbig : 500 < s.size
  · have hd : (500 : Int) < (s.size : Int) := by omega
    go_enter Tryz.func6, Tryz.ntmps6
    go_wp2_with fail
    refine F.out.mono ?_
    rintro e w2 ⟨rfl, hb2⟩
    have HB2 := Lib.hid hb2
    clear hb2
    go_wp2_with fail
    go_ret
    exact ⟨rfl, HB2.out⟩
  have hd : ¬ (500 : Int) < (s.size : Int) := by omega
  have hd' : (s.size : Int) ≤ 500 := by omega
  have hss : s.size ≤ 500 := by omega
  cases hq : allW s with
  | inl p =>
    obtain ⟨c, line⟩ := p
    go_enter Tryz.func6, Tryz.ntmps6
    go_wp2_with fail
    refine F.out.mono ?_
    rintro e w2 ⟨rfl, hb2⟩
    have HB2 := Lib.hid hb2
    clear hb2
    go_wp2_with fail
    refine (all_bad ea w2 (EV.out w2 HB2.out) (by omega) hq).mono ?_
    rintro e w3 ⟨A, hA, hh, rfl, hb3⟩
    have HB3 := Lib.hid (HB2.out.trans (below_le' hb3 HB2.out.size))
    clear hb3 hA hh
    go_wp2_with fail
    go_ret
    exact ⟨rfl, HB3.out⟩
  | inr l =>
    by_cases hl0 : l = []
    · subst hl0
      go_enter Tryz.func6, Tryz.ntmps6
      go_wp2_with fail
      refine F.out.mono ?_
      rintro e w2 ⟨rfl, hb2⟩
      have HB2 := Lib.hid hb2
      clear hb2
      go_wp2_with fail
      refine (all_none ea w2 (EV.out w2 HB2.out) (by omega) hq).mono ?_
      rintro e w3 ⟨⟨VA, VC, rfl⟩, hb3⟩
      have HB3 := Lib.hid (HB2.out.trans (below_le' hb3 HB2.out.size))
      clear hb3
      go_wp2_with fail
      go_ret
      exact ⟨rfl, HB3.out⟩
    have hlpos : 0 < l.length := List.length_pos_iff.2 hl0
    have hlne : (l.length : Int) ≠ 0 := by omega
    have hlbe : ((l.length : Int) == 0) = false := by rw [beq_eq_false_iff_ne]; exact hlne
    obtain ⟨hok, hrise⟩ := allW_ok hq
    obtain ⟨g1, g2, g3⟩ := allW_len hq
    have AS := Lib.hid (fun W hW hb => all_some (s := s) ea W hW hb hq hlpos)
    have HQ := Lib.hid hq
    have HOK := Lib.hid hok
    have HR := Lib.hid hrise
    have HG1 := Lib.hid g1
    have HG3 := Lib.hid g3
    clear hq hok hrise g1 g3 hl0
    go_enter Tryz.func6, Tryz.ntmps6
    go_wp2_with fail
    refine F.out.mono ?_
    rintro e w2 ⟨rfl, hb2⟩
    have HB2 := Lib.hid hb2
    clear hb2
    go_wp2_with fail
    refine (AS.out w2 (EV.out w2 HB2.out) (by omega)).mono ?_
    rintro e w3 ⟨g, cap, rfl, hg1, hg2, hb3, hcap, ht⟩
    have HB3 := Lib.hid (HB2.out.trans (below_le' hb3 HB2.out.size))
    have hgw : w.heap.size ≤ g := by have := HB2.out.size; omega
    obtain ⟨L, hLm, hLt⟩ := row_of l 0 (fun j t hj => by rw [Nat.zero_add]; exact ht j t hj)
    have HT3 := Lib.hid (show TkRow w3 g L from fun j p hj => by have := hLt j p hj; rwa [Nat.zero_add] at this)
    have HLM := Lib.hid hLm
    have hLl : L.length = l.length := by rw [← hLm, List.length_map]
    clear hb3 ht hLt hLm hg1
    go_wp2_with fail
    refine (NA.out w3).mono ?_
    rintro e w4 ⟨n, hn, rfl, rfl⟩
    go_wp2_with fail
    refine (NB.out l.length hlpos (by omega) w3).mono ?_
    rintro e w4 ⟨k, hkl, rfl, rfl⟩
    obtain ⟨t0, ht0⟩ : ∃ t0, l[k]? = some t0 := ⟨_, List.getElem?_eq_getElem hkl⟩
    have hsplit : l = l.take k ++ t0 :: l.drop (k + 1) := by
      have h1 : l.drop k = t0 :: l.drop (k + 1) := by
        rw [List.drop_eq_getElem_cons hkl]
        congr 1
        rw [List.getElem?_eq_getElem hkl] at ht0
        injection ht0
      rw [← h1, List.take_append_drop]
    obtain ⟨z1, z2, z3, z4⟩ := spc_len (L := n) (n := s.size) hn (a := l.take k) (t0 := t0) (b := l.drop (k + 1)) (by rw [← hsplit]; exact HR.out) (by rw [← hsplit]; exact HG1.out) (by rw [← hsplit]; exact g2) (by rw [← hsplit]; exact HG3.out) hss
    rw [← hsplit] at z4
    have zc : (spcL n (l.take k) t0 (l.drop (k + 1))).length = n + (2 + ((spT (joinL 1 true (l.take k))).length + (2 * (t0.line - endL 1 (l.take k)).toNat + (3 + (spT (joinL 1 true (mvL (1 - t0.line) (t0 :: l.drop (k + 1))))).length)))) := by
      unfold spcL
      simp only [List.length_append, List.length_replicate, blk_len, List.length_cons, List.length_nil]
    rw [zc] at z1
    obtain ⟨J1, hJ1⟩ : ∃ J, J = spT (joinL 1 true (l.take k)) := ⟨_, rfl⟩
    obtain ⟨J2, hJ2⟩ : ∃ J, J = spT (joinL 1 true (mvL (1 - t0.line) (t0 :: l.drop (k + 1)))) := ⟨_, rfl⟩
    obtain ⟨c, hc⟩ : ∃ c, c = (t0.line - endL 1 (l.take k)).toNat := ⟨_, rfl⟩
    rw [← hJ1, ← hJ2, ← hc] at z1
    rw [← hJ1] at z2
    rw [← hJ2] at z3
    have ht0m : t0 ∈ l := List.mem_of_getElem? ht0
    have t0a := z4 t0 ht0m
    have t0b := HG3.out t0 ht0m
    have hrs := HR.out
    rw [hsplit] at hrs
    have hDr : endL 1 (l.take k) ≤ t0.line := (rise_app _ _ 1 hrs).2.1
    have hD1 : 1 ≤ endL 1 (l.take k) := endL_le _ 1 (rise_app _ _ 1 hrs).1
    clear hrs
    have hLk : (L.take k).length = k := by rw [List.length_take]; omega
    have JC1 : Calls Tryz.prog 18 #[.slice (some ⟨g, 0, none⟩) k cap] w3 fun e w' => e = .returned (.string ⟨J1.toArray⟩) ∧ Below w3.heap.size w3 w' := by
      have := join_c (L.take k) (l.take k) g cap ea w3 (EV.out w3 HB3.out).err (XV.out w3 HB3.out) (by rw [← HLM.out, List.map_take]) (fun j p hj => HT3.out j p (by
          rw [List.getElem?_take] at hj; split at hj
          · exact hj
          · cases hj)) hg2
        (fun t ht => HOK.out t (List.mem_of_mem_take ht)) (fun t ht => ⟨z4 t (List.mem_of_mem_take ht), by have := HG3.out t (List.mem_of_mem_take ht); omega⟩) (by rw [← hJ1]; omega) (by rw [hLk]; omega)
      rw [hLk, ← hJ1] at this
      exact this
    have JC1 := Lib.hid JC1
    have HZ4 := Lib.hid z4
    have HJ1 := Lib.hid hJ1
    have HJ2 := Lib.hid hJ2
    have HC := Lib.hid hc
    have HSP := Lib.hid hsplit
    clear zc z4 hJ1 hJ2 hsplit
    go_wp2_with fail
    go_loopg [11, 12] n (fun kk pv iv wr => ∃ (p : ByteArray) (i : Nat), pv = .string p ∧ iv = .int .i64 (i : Int) ∧ i + kk = n ∧ w3 = wr ∧ Hid (p.data.toList = List.replicate i 10))
    case atStart => exact ⟨⟨#[]⟩, 0, rfl, rfl, by omega, rfl, rfl⟩
    case round =>
      obtain ⟨p, i, rfl, rfl, hk, rfl, hp⟩ := hrel
      by_cases hi : i < n
      · obtain ⟨kk, rfl⟩ : ∃ kk, gk = kk + 1 := ⟨gk - 1, by omega⟩
        have HP := Lib.hid (show (p ++ (⟨#[10]⟩ : ByteArray)).data.toList = List.replicate (i + 1) 10 by
          rw [ByteArray.data_append, Array.toList_append, hp.out, List.replicate_succ'])
        have hpz : p.size ≤ 20 := by rw [size_list, hp.out, List.length_replicate]; omega
        clear hp
        go_wp2_with fail
        go_roundg kk
        case measure => omega
        case rel => exact ⟨_, i + 1, rfl, by go_num, by omega, rfl, HP.out⟩
      · obtain rfl : n = i := by omega
        have HP := Lib.hid hp.out
        have hpz : p.size = n := by rw [size_list, hp.out, List.length_replicate]
        clear hp hk
        go_wp2_with fail
        refine JC1.out.mono ?_
        rintro e w5 ⟨rfl, hb5⟩
        have HB5 := Lib.hid (HB3.out.trans (below_le' hb5 HB3.out.size))
        have HT5 := Lib.hid (HT3.out.below hb5 hg2)
        have hg5 : g < w5.heap.size := by have := hb5.size; omega
        have htk : TkIn w5 g (7 * k) t0 ((L[k]'(by omega)).2.1) ((L[k]'(by omega)).2.2) := by
          have hLk2 : L[k]? = some (L[k]'(by omega)) := List.getElem?_eq_getElem (by omega)
          have h1 := HT5.out k _ hLk2
          have h2 : (L[k]'(by omega)).1 = t0 := by
            have := ht0
            rw [← HLM.out, List.getElem?_map, hLk2] at this
            injection this
          rw [h2] at h1; exact h1
        have q1 := htk.c1
        rw [Nat.mul_comm 7 k] at q1
        clear hb5 htk JC1
        obtain ⟨X0, hX0⟩ : ∃ X : ByteArray, X = p ++ (⟨#[32, 32]⟩ : ByteArray) ++ ⟨J1.toArray⟩ := ⟨_, rfl⟩
        have HX0 := Lib.hid (show X0.data.toList = List.replicate n 10 ++ ([32, 32] ++ J1) by
          rw [hX0, ByteArray.data_append, ByteArray.data_append, Array.toList_append, Array.toList_append, HP.out, List.append_assoc])
        obtain ⟨D, hD⟩ : ∃ D, D = endL 1 (l.take k) := ⟨_, rfl⟩
        rw [← hD] at hc hDr hD1
        have HD := Lib.hid hD
        have HXE := Lib.hid hX0
        have HCC := Lib.hid (show (c : Int) = t0.line - D by omega)
        clear hD hX0 hc HP
        go_upto_if 66 with fail
        rw [← HXE.out]
        go_cut [13] (fun ln wx => ln = .int .i64 (D + n) ∧ w5 = wx)
        case first =>
          rcases Nat.eq_zero_or_pos k with hk0 | hk0
          · have hDv : D = 1 := by rw [HD.out, hk0]; rfl
            have e1 : decide (0 < k) = false := by rw [decide_eq_false_iff_not]; omega
            have e1' : decide ((0 : Int) < (k : Int)) = false := by rw [decide_eq_false_iff_not]; omega
            have HDV := Lib.hid hDv
            clear hk0 hDv
            first | rw [e1] | rw [e1']
            go_wp2_with fail
            go_meet
            exact ⟨by rw [HDV.out], rfl⟩
          · have e1 : decide ((0 : Int) < (k : Int)) = true := by rw [decide_eq_true_eq]; omega
            have e2 : (0 : Int) < (k : Int) := by omega
            have e1' : decide (0 < k) = true := by rw [decide_eq_true_eq]; omega
            obtain ⟨u, hu⟩ : ∃ u, L[k - 1]? = some u := ⟨_, List.getElem?_eq_getElem (by omega)⟩
            have hul : l[k - 1]? = some u.1 := by rw [← HLM.out, List.getElem?_map, hu]; rfl
            have hDv : D = u.1.line := by
              have := endL_take l (k - 1) 1 u.1 hul
              rw [show k - 1 + 1 = k by omega] at this
              rw [HD.out]; exact this
            have p1 := (HT5.out _ _ hu).c1
            rw [Nat.mul_comm 7 (k - 1)] at p1
            obtain ⟨uline, hul2⟩ : ∃ x, x = u.1.line := ⟨_, rfl⟩
            rw [← hul2] at hDv p1
            have HDV := Lib.hid hDv
            have hub : 1 ≤ uline ∧ uline ≤ 501 := by
              have hm : u.1 ∈ l := List.mem_of_getElem? hul
              have := HZ4.out _ hm; have := HG3.out _ hm; omega
            obtain ⟨hub1, hub2⟩ := hub
            clear hu hul hul2 hDv
            first | rw [e1'] | rw [e1]
            go_wp2_with fail
            go_meet
            exact ⟨by rw [HDV.out], rfl⟩
        case rest =>
          obtain ⟨rfl, rfl⟩ := hcut
          go_wp2_with fail
          go_loopg [11, 13] c (fun kk pv iv wr => ∃ (X : ByteArray) (i : Nat), pv = .string X ∧ iv = .int .i64 (D + n + (i : Int)) ∧ i + kk = c ∧ w5 = wr ∧ Hid (X.data.toList = X0.data.toList ++ blkL i))
          case atStart => exact ⟨X0, 0, rfl, by go_num, by omega, rfl, Lib.hid (by rw [blkL, List.append_nil])⟩
          case round =>
            obtain ⟨X, i, rfl, rfl, hk, rfl, hX⟩ := hrel
            have hXz : X.size = n + (2 + J1.length) + 2 * i := by
              have e := congrArg List.length hX.out
              rw [HX0.out] at e
              simp only [List.length_append, List.length_replicate, blk_len, List.length_cons, List.length_nil] at e
              rw [size_list]; omega
            by_cases hi : i < c
            · obtain ⟨kk, rfl⟩ : ∃ kk, gk = kk + 1 := ⟨gk - 1, by omega⟩
              have hlt : D + n + (i : Int) < t0.line + n := by have := HCC.out; omega
              have HP := Lib.hid (show (X ++ (⟨#[32, 10]⟩ : ByteArray)).data.toList = X0.data.toList ++ blkL (i + 1) by
                rw [ByteArray.data_append, Array.toList_append, hX.out, blk_snoc, List.append_assoc])
              clear hX
              go_wp2_with fail
              go_roundg kk
              case measure => omega
              case rel => exact ⟨_, i + 1, rfl, by go_num, by omega, rfl, HP.out⟩
            · have hlt : ¬ D + n + (i : Int) < t0.line + n := by have := HCC.out; omega
              obtain rfl : c = i := by omega
              have HX := Lib.hid hX.out
              clear hX hk
              obtain ⟨i0, hi0, hz0, hz1, hz2⟩ := info_parts tok_info
              obtain ⟨M, hM⟩ : ∃ M, M = L.drop k := ⟨_, rfl⟩
              have hMl : M.length = l.length - k := by rw [hM, List.length_drop]; omega
              have HMM := Lib.hid (show M.map (·.1) = t0 :: l.drop (k + 1) by
                rw [hM, List.map_drop, HLM.out, List.drop_eq_getElem_cons hkl]
                congr 1
                rw [List.getElem?_eq_getElem hkl] at ht0
                injection ht0)
              have HM := Lib.hid hM
              have OW := Lib.hid (World.ownsRow_lit (base := w5.heap.size) (e := 34) (size := 7) w5 #[] 0 (Nat.le_refl _) (by decide) rfl)
              have NW := Lib.hid (show ∀ j u, (tkCells M)[j]? = some u → (w5.alloc (.cells #[] 34)).cell? ((⟨g, k * 7, none⟩ : Addr).add j) = some u from fun j u hj => by
                have h1 := tkRow_cells M k (fun j' p' hj' => HT5.out (k + j') p' (by rw [HM.out, List.getElem?_drop] at hj'; exact hj')) j u hj
                have h2 : (⟨g, k * 7, none⟩ : Addr).add j = ⟨g, 7 * k + j, none⟩ := addr_add0 g (k * 7) (7 * k) j (Nat.mul_comm _ _)
                rw [h2]; exact ((Below.refl _ _).alloc (Nat.le_refl _) _ : Below w5.heap.size w5 _).cell (p := ⟨g, 7 * k + j, none⟩) hg5 |>.trans h1)
              have HMl := Lib.hid hMl
              have hmle : l.length - k ≤ 501 := by omega
              clear hM ht0 hMl
              go_upto_region 23 with fail
              go_cut [14] (fun rv wx => ∃ g6 c6, rv = .slice (some ⟨g6, 0, none⟩) (l.length - k) c6 ∧ Hid (wx.ownsRow w5.heap.size 34 7 (.slice (some ⟨g6, 0, none⟩) (l.length - k) c6) (l.length - k) (tkCells M)) ∧ Hid (Below w5.heap.size w5 wx))
              case first =>
                go_wp2_with (at_builtin; refine wpList_append_own_at _ rfl (.tmp 88) (.tmp 91) 25 rfl w5.heap.size 34 i0 _ 7 88 Tryz.underlying25 hi0 hz0 hz1 hz2 rfl (by decide) (.slice (some ⟨w5.heap.size, 0, none⟩) 0 0) 0 [] rfl OW.out ⟨g, k * 7, none⟩ (l.length - k) (cap - k) (tkCells M) rfl (by rw [tkCells_lenZ, HMl.out]) NW.out (tkCells_one M) ?c1 ?c2 ?c3 ?_
                             case c1 => unfold maxLen; omega
                             case c2 => omega
                             case c3 => simp
                             intro v6 w6 hown hgrow _ _
                             rw [Nat.zero_add, List.nil_append] at hown
                             obtain ⟨g6, c6, rfl, hg6, hlt6⟩ := hown.form (by omega)
                             have HO6 := Lib.hid hown
                             have HB6 := Lib.hid (show Below w5.heap.size w5 w6 from grown_below ((Below.refl _ _).alloc (Nat.le_refl _) _) (by simp) hgrow (fun k' hk' => own_ge OW.out k' hk'))
                             clear hown hgrow OW NW)
                go_meet
                exact ⟨g6, c6, rfl, HO6, HB6⟩
              case rest =>
                obtain ⟨g6, c6, rfl, HO6, HB6⟩ := hcut
                clear OW NW
                go_wp2_with fail
                go_loopg [15] (l.length - k) (fun kk iv wr => ∃ i : Nat, iv = .int .i64 (i : Int) ∧ i + kk = l.length - k ∧ Hid (wr.ownsRow w5.heap.size 34 7 (.slice (some ⟨g6, 0, none⟩) (l.length - k) c6) (l.length - k) (tkCells (mvTo (1 - t0.line) i M))) ∧ Hid (Below w5.heap.size w5 wr))
                case atStart => exact ⟨0, rfl, by omega, HO6, HB6⟩
                case round =>
                  obtain ⟨i, rfl, hk, HOR, HBR⟩ := hrel
                  have hgR : g < wr.heap.size := by have := HBR.out.size; omega
                  have q2 : wr.cell? ⟨g, k * 7 + 1, none⟩ = some (.int .i64 t0.line) := (HBR.out.cell (p := ⟨g, k * 7 + 1, none⟩) hg5).trans q1
                  by_cases hi : i < l.length - k
                  · obtain ⟨kk, rfl⟩ : ∃ kk, gk = kk + 1 := ⟨gk - 1, by omega⟩
                    have hiM : i < M.length := by rw [HMl.out]; exact hi
                    obtain ⟨p, hp⟩ : ∃ p, M[i]? = some p := ⟨_, List.getElem?_eq_getElem hiM⟩
                    have hpm : (mvTo (1 - t0.line) i M)[i]? = some p := (mvTo_get _ i M hiM).trans hp
                    have r1 := (own_tkIn HOR.out i p hpm).c1
                    rw [Nat.mul_comm 7 i] at r1
                    have r2 := HOR.out.frozenAt (i * 7 + 1)
                    have hpl : p.1 ∈ l := by
                      have h1 : p ∈ L := by
                        have := List.mem_of_getElem? hp
                        rw [HM.out] at this
                        exact List.mem_of_mem_drop this
                      rw [← HLM.out]
                      exact List.mem_map_of_mem h1
                    have hp1 := HZ4.out _ hpl
                    have hp2 := HG3.out _ hpl
                    obtain ⟨pl, hpl'⟩ : ∃ x, x = p.1.line := ⟨_, rfl⟩
                    rw [← hpl'] at r1 hp1 hp2
                    have HO2 := Lib.hid (show (wr.setCell ⟨g6, i * 7 + 1, none⟩ (.int .i64 (pl - t0.line + 1))).ownsRow w5.heap.size 34 7 (.slice (some ⟨g6, 0, none⟩) (l.length - k) c6) (l.length - k) (tkCells (mvTo (1 - t0.line) (i + 1) M)) by
                      have h1 := (HOR.out.stored (i * 7 + 1) (.int .i64 (pl - t0.line + 1))).1
                      rw [Nat.mul_comm i 7, tkCells_line _ _ _ (by rw [mvTo_length]; exact hiM), show pl - t0.line + 1 = p.1.line + (1 - t0.line) by rw [← hpl']; omega, mvTo_succ _ _ _ _ hp] at h1
                      rw [Nat.mul_comm i 7, show pl - t0.line + 1 = p.1.line + (1 - t0.line) by rw [← hpl']; omega]
                      exact h1)
                    have hg6 : w5.heap.size ≤ g6 := (HOR.out.lt g6 rfl).1
                    have HB2' := Lib.hid (HBR.out.setCell (p := ⟨g6, i * 7 + 1, none⟩) hg6 (.int .i64 (pl - t0.line + 1)))
                    have b0 : (0 : Int) ≤ (i : Int) := by omega
                    have b1 : (i : Int) < ((l.length - k : Nat) : Int) := by omega
                    have b2 : (0 : Int) ≤ (k : Int) := by omega
                    have b3 : (k : Int) < (l.length : Int) := by omega
                    clear hp hpm hpl hpl'
                    have hw1 : IntKind.i64.wrap (pl - t0.line) = pl - t0.line := IntWalk.i64_in _ (by omega)
                    have hw2 : IntKind.i64.wrap (pl - t0.line + 1) = pl - t0.line + 1 := IntWalk.i64_in _ (by omega)
                    go_wp2_with fail
                    go_region
                    go_wp2_with fail
                    go_roundg kk
                    case measure => omega
                    case rel => exact ⟨i + 1, by go_num, by omega, HO2, Lib.hid HB2'.out.drew⟩
                  · obtain rfl : i = l.length - k := by omega
                    have hw5 : w.heap.size ≤ w5.heap.size := HB5.out.size
                    have HBW := Lib.hid (show Below w.heap.size w wr from HB5.out.trans (below_le' HBR.out hw5))
                    have hmem : ∀ t ∈ t0 :: l.drop (k + 1), t ∈ l := fun t ht => by
                      have h1 : t ∈ l.take k ++ t0 :: l.drop (k + 1) := List.mem_append_right _ ht
                      rwa [← HSP.out] at h1
                    have hrs : Rise 1 (l.take k ++ t0 :: l.drop (k + 1)) := by rw [← HSP.out]; exact HR.out
                    have hoks : ∀ t ∈ l.take k ++ t0 :: l.drop (k + 1), TokOk t := by rw [← HSP.out]; exact HOK.out
                    have JC2 := Lib.hid (show Calls Tryz.prog 18 #[.slice (some ⟨g6, 0, none⟩) (l.length - k) c6] wr fun e w' => e = .returned (.string ⟨J2.toArray⟩) ∧ Below wr.heap.size wr w' by
                      have := join_moved M t0 (l.drop (k + 1)) g6 c6 w5.heap.size (endL 1 (l.take k)) wr ea (EV.out wr HBW.out).err (XV.out wr HBW.out) HMM.out (by rw [HMl.out]; exact HOR.out) (fun t ht => HOK.out t (hmem t ht)) (rise_app _ _ 1 hrs).2
                        (fun t ht => ⟨HZ4.out t (hmem t ht), by have := HG3.out t (hmem t ht); omega⟩) (by rw [← HJ2.out]; omega) (by rw [HMl.out]; omega)
                      rw [HMl.out, ← HJ2.out] at this
                      exact this)
                    have AM := Lib.hid (show allW (X ++ (⟨#[32, 32, 32]⟩ : ByteArray) ++ ⟨J2.toArray⟩) = .inr (mvL n l) by
                      have := spc_all n hoks hrs (spaces_text HX0.out HX.out HJ1.out HJ2.out HC.out)
                      rwa [← HSP.out] at this)
                    have hTz : (X ++ (⟨#[32, 32, 32]⟩ : ByteArray) ++ ⟨J2.toArray⟩ : ByteArray).size ≤ 32768 := by
                      rw [ByteArray.size_append, ByteArray.size_append, show (⟨J2.toArray⟩ : ByteArray).size = J2.length by simp [ByteArray.size], show (⟨#[32, 32, 32]⟩ : ByteArray).size = 3 from rfl]
                      omega
                    have HTZ := Lib.hid hTz
                    have hml : (mvL n l).length = l.length := List.length_map _
                    have HML := Lib.hid hml
                    clear hk hmem hrs hoks hTz hml
                    go_wp2_with fail
                    refine JC2.out.mono ?_
                    rintro e w7 ⟨rfl, hb7⟩
                    have HB7 := Lib.hid (HBW.out.trans (below_le' hb7 HBW.out.size))
                    have HC7 := Lib.hid (HBR.out.trans (below_le' hb7 HBR.out.size))
                    clear hb7 JC2
                    go_wp2_with fail
                    refine (all_some ea w7 (EV.out w7 HB7.out) HTZ.out AM.out (by rw [HML.out]; exact hlpos)).mono ?_
                    rintro e w8 ⟨g8, cap8, rfl, h81, h82, hb8, hcap8, ht8⟩
                    rw [HML.out] at hcap8 ⊢
                    have HB8 := Lib.hid (HB7.out.trans (below_le' hb8 HB7.out.size))
                    have HT8 := Lib.hid ht8
                    have HT8L := Lib.hid (HT5.out.below (HC7.out.trans (below_le' hb8 HC7.out.size)) hg5)
                    have hg8 : g < w8.heap.size := by have := HC7.out.size; have := hb8.size; omega
                    have FITS := Lib.hid (fun t (ht : t ∈ l) => tok_fit (HOK.out t ht))
                    clear hb8 ht8 HC7 HBR HBW HOR q2 q1
                    go_wp2_with fail
                    go_loopg [18, 19] l.length (fun kk iv vv wr => ∃ i : Nat, iv = .int .i64 (i : Int) ∧ i + kk = l.length ∧ Hid (Below w8.heap.size w8 wr))
                    case atStart => exact ⟨0, rfl, by omega, Lib.hid (Below.refl _ _)⟩
                    case round =>
                      obtain ⟨i, rfl, hk, HBR⟩ := hrel
                      by_cases hi : i < l.length
                      · obtain ⟨kk, rfl⟩ : ∃ kk, gk = kk + 1 := ⟨gk - 1, by omega⟩
                        have hiL : i < L.length := by omega
                        obtain ⟨p, hp⟩ : ∃ p, L[i]? = some p := ⟨_, List.getElem?_eq_getElem hiL⟩
                        obtain ⟨t, sa, sc⟩ := p
                        have htl : l[i]? = some t := by rw [← HLM.out, List.getElem?_map, hp]; rfl
                        have htm : (mvL n l)[i]? = some { t with line := t.line + n } := by unfold mvL; rw [List.getElem?_map, htl]; rfl
                        obtain ⟨sb, sd, ha⟩ := HT8.out i _ htm
                        have hbL := (HT8L.out i _ hp).below HBR.out hg8
                        have haL := ha.below HBR.out h82
                        have hfit := FITS.out t (List.mem_of_getElem? htl)
                        have tl1 := HZ4.out t (List.mem_of_getElem? htl)
                        have tl2 := HG3.out t (List.mem_of_getElem? htl)
                        have SC := Lib.hid (fun W : World => same_tok t sb sa sd sc W hfit)
                        have a0 := haL.c0; have a1 := haL.c1; have a2 := haL.c2; have a3 := haL.c3; have a4 := haL.c4; have a5 := haL.c5; have a6 := haL.c6
                        have d0 := hbL.c0; have d1 := hbL.c1; have d2 := hbL.c2; have d3 := hbL.c3; have d4 := hbL.c4; have d5 := hbL.c5; have d6 := hbL.c6
                        simp only at a0 a1 a2 a3 a4 a5 a6 d0 d1 d2 d3 d4 d5 d6
                        rw [Nat.mul_comm 7 i] at a0 a1 a2 a3 a4 a5 a6 d0 d1 d2 d3 d4 d5 d6
                        have b0 : (0 : Int) ≤ (i : Int) := by omega
                        have b1 : (i : Int) < (l.length : Int) := by omega
                        clear hp htl htm ha hbL haL hfit
                        obtain ⟨wq, hwq⟩ : ∃ wq, wq = wr := ⟨_, rfl⟩
                        subst hwq
                        obtain ⟨S, hS⟩ : ∃ S : World → Prop, S = fun W => W.cell? ⟨g8, i * 7 + 3, none⟩ = some (.int .i64 t.k) ∧ W.cell? ⟨g8, i * 7 + 4, none⟩ = some (.int .i64 t.n) ∧ W.cell? ⟨g8, i * 7 + 5, none⟩ = some (.string t.t) ∧ W.cell? ⟨g8, i * 7 + 6, none⟩ = some (.slice sb 0 sd) ∧ W.cell? ⟨g, i * 7 + 3, none⟩ = some (.int .i64 t.k) ∧ W.cell? ⟨g, i * 7 + 4, none⟩ = some (.int .i64 t.n) ∧ W.cell? ⟨g, i * 7 + 5, none⟩ = some (.string t.t) ∧ W.cell? ⟨g, i * 7 + 6, none⟩ = some (.slice sa 0 sc) ∧ Below wq.heap.size wq W := ⟨_, rfl⟩
                        have KS : ∀ W, Below wq.heap.size wq W → S W := fun W hW => by
                          rw [hS]
                          exact ⟨cell_below hW a3, cell_below hW a4, cell_below hW a5, cell_below hW a6, cell_below hW d3, cell_below hW d4, cell_below hW d5, cell_below hW d6, hW⟩
                        have BS : ∀ W, S W → Below wq.heap.size wq W := fun W h => by rw [hS] at h; exact h.2.2.2.2.2.2.2.2
                        have C1 := Lib.hid (fun W (h : S W) => (SC.out W).mono (R' := fun e W' => e = .returned (.bool true) ∧ S W') fun e W' h' => ⟨h'.1, KS _ ((BS W h).trans (below_le' h'.2 (BS W h).size))⟩)
                        have K0 : S wq.drew := KS _ (Below.refl _ _).drew
                        clear KS
                        subst hS
                        go_wp2_with fail
                        go_region_held3 (fun W => W.cell? ⟨g8, i * 7 + 3, none⟩ = some (.int .i64 t.k) ∧ W.cell? ⟨g8, i * 7 + 4, none⟩ = some (.int .i64 t.n) ∧ W.cell? ⟨g8, i * 7 + 5, none⟩ = some (.string t.t) ∧ W.cell? ⟨g8, i * 7 + 6, none⟩ = some (.slice sb 0 sd) ∧ W.cell? ⟨g, i * 7 + 3, none⟩ = some (.int .i64 t.k) ∧ W.cell? ⟨g, i * 7 + 4, none⟩ = some (.int .i64 t.n) ∧ W.cell? ⟨g, i * 7 + 5, none⟩ = some (.string t.t) ∧ W.cell? ⟨g, i * 7 + 6, none⟩ = some (.slice sa 0 sc) ∧ Below wq.heap.size wq W)
                          (first | (with_reducible assumption) | (with_reducible exact K0))
                          (first
                            | (go_at_call 17; refine (C1.out _ ?_).mono ?_; (with_reducible assumption); rintro e w9 ⟨rfl, hs9⟩))
                        have h9 := hs9.2.2.2.2.2.2.2.2
                        have HB9 := Lib.hid (HBR.out.trans (below_le' h9 HBR.out.size))
                        have e0 := cell_below h9 a0; have e1 := cell_below h9 a1; have e2 := cell_below h9 a2
                        have q0 := cell_below h9 d0; have q1 := cell_below h9 d1; have q2 := cell_below h9 d2
                        clear h9 hs9 a0 a1 a2 a3 a4 a5 a6 d0 d1 d2 d3 d4 d5 d6 C1 K0 BS SC
                        have z1 : (t.kind != t.kind) = false := by simp
                        have z2 : (t.s.toList != t.s.toList) = false := by simp
                        have z3 : ((t.line + (n : Int)) != (t.line + (n : Int))) = false := by simp
                        have hw1 : IntKind.i64.wrap (t.line + (n : Int)) = t.line + (n : Int) := IntWalk.i64_in _ (by omega)
                        go_wp2_with fail
                        go_quiet (fail)
                        go_wp2_with fail
                        go_roundg kk
                        case measure => omega
                        case rel => exact ⟨i + 1, by go_num, by omega, Lib.hid (below_drewN HB9.out _)⟩
                      · have hge : ¬ (i : Int) < (l.length : Int) := by omega
                        go_wp2_with fail
                        go_ret
                        exact ⟨rfl, HB8.out.trans (below_le' HBR.out HB8.out.size)⟩
theorem lexSpaces_f (s : ByteArray) (a0 b0 : Int) (ea : Nat → Addr) (w : World) (ha0 : -9223372036854775808 ≤ a0) (ha1 : a0 ≤ 9223372036854775807) (hb0 : -9223372036854775808 ≤ b0) (hb1 : b0 ≤ 9223372036854775807) (he : ErrsAt w ea) (hst : StrcAt w) (hx : TxAt w) (hsp : SpaceAt w) :
    Calls Tryz.prog 6 #[.string s, .int .i64 a0, .int .i64 b0] w fun e w' => e = .returned (.bool true) ∧ Below w.heap.size w w' :=
  lexSpaces_c s a0 b0 ea w ha0 ha1 hb0 hb1 ⟨he, hsp, hst⟩ hx
end Go.Proofs.YtfganjmadehhaaaGreatDoor
namespace Go.Proofs.YtfganjmadehhaaaGreatDoor
open Go.RowKit Go.Lib
set_option linter.unusedVariables false

theorem star_err : "*" ++ "errors.errorString" = "*errors.errorString" := by decide
theorem row_err (u : TypeId) (h : Tryz.prog.typeName? 3 u = some "*errors.errorString") : u = 199 :=
  typeName_ptr_named (nm := "errors.errorString") (by rw [star_err]; kernel_rfl) (by kernel_rfl) (by decide) u (by rw [star_err]; exact h)
/-- A sentinel that heads the list: its variable's cell. -/
theorem sent_at {n : String} {text : List UInt8} {r : List (String × DataW Unit)} {W : World} (g : Nat) (h : laidMet Tryz.prog ((n, .iface "*errors.errorString" (.ptr (.agg [.lit (.string text)]))) :: r) W)
    (hg : Tryz.prog.globalNamed n = some g) (ht : (Tryz.prog.globals[g]?).map (·.type) = some 27) : ∃ a : Addr, W.cell? ⟨g, 0, none⟩ = some (.iface 199 (.pointer (some a))) := by
  obtain ⟨a, s, hv, _⟩ := laid_sentinel h hg ht Tryz.underlying27 row_err Tryz.underlying199 Tryz.underlying201 rfl rfl Tryz.underlying9 (by kernel_rfl) (by kernel_rfl)
  exact ⟨a, by simpa using World.var?_cell hg hv 0⟩
end Go.Proofs.YtfganjmadehhaaaGreatDoor
namespace Go.Proofs.YtfganjmadehhaaaGreatDoor
open Go.ChangeShapes Go.WideShapes Go.ChangeAt Go.RowKit Go.Lib
open Go.ChangeMaps (open_string shut_string)
set_option linter.unusedVariables false

theorem own_knob : ownKnob Tryz.prog.godebug = none := by kernel_rfl

/-- The kit's wrap with a condition, the world's shape kept. -/
theorem handed_and_shaped {H : Type} {enc : TypeId × Value → H} {a : Assume} {C : Checked} {os : Os} {f : FuncId} {fn : Func} {s : ChangeSpec} {conds : List PathCond} {apart fresh handsOn again : Bool} {X : World → Array Value → Prop}
    (hX : ∀ (w w' : World) (args : Array Value), w.heap = w'.heap → X w args → X w' args)
    (own : ownKnob C.prog.godebug = none) (started : os.Started) (noInit : C.prog.inits.idxOf? f = none) (hfn : C.prog.funcs[f]? = some fn)
    (witness : ∃ (w : World) (tape : Tape) (i : Input), w.os = os ∧ (w.forCall tape i).Shaped C.prog ∧ i.vars = [] ∧ Input.okWide C.prog (w.forCall tape i) .any w.heap.size f i ∧
      ((s.pre enc C.prog fn conds apart (w.forCall tape i).memory i.args ∧ X (w.forCall tape i).memory i.args) ∧ sizedMet enc C.prog fn (OpenSpec.ofChange s) apart (w.forCall tape i).memory i.args) ∧ a.holds C.prog (lone (Frame.enter C.prog f i.args .normal) [] (w.forCall tape i)))
    (contract : ∀ (W : World) (base : Nat) (args : Array Value) (ds gs : List (DataW H)) (before : List MemPlace),
      (∀ (j : Nat) t v, fn.params[j]? = some t → args[j]? = some v → Value.okWide C.prog W .any base t v) →
      DataW.Whole enc C.prog fn.params.toList s.vars apart W args.toList ds gs before →
      (DataW.weightsEach C.prog (fn.params.toList ++ s.plain.varTypes C.prog) (ds ++ gs)).all (· ≤ reachBytes) = true → X W args → W.ShapedOpen C.prog →
      Calls C.prog f args W fun e W' => ∃ v, e = .returned v ∧ s.post enc C.prog fn apart fresh handsOn again W args v W') :
    ReturnsInHanded a C os f .any (fun w args => (s.pre enc C.prog fn conds apart w args ∧ X w args) ∧ sizedMet enc C.prog fn (OpenSpec.ofChange s) apart w args) (s.post enc C.prog fn apart fresh handsOn again) := by
  refine returnsInHanded_of_calls own started noInit witness ?_
  intro w tape i _ hsh _ hok hpre hholds
  obtain ⟨_, _, _, fn', hfn', _, _, _, _, hval⟩ := hok
  have e : fn' = fn := Option.some.inj (hfn'.symm.trans hfn)
  subst e
  obtain ⟨⟨⟨ds, gs, before, hw, hc⟩, hx⟩, hz⟩ := hpre
  have hw' := DataW.Whole.of_heap (w' := w.forCall tape i) (by rfl) hw
  refine (contract (w.forCall tape i) w.heap.size i.args ds gs before hval hw' (hz.weights hw) (hX _ _ _ (by rfl) hx) hsh).mono fun e W' ⟨v, he, hp⟩ => ?_
  subst he
  exact ChangeSpec.post_blind hp

theorem i64_range {a : Int} (h : (Lit.int .i64 a).wf = true) : -9223372036854775808 ≤ a ∧ a ≤ 9223372036854775807 := by
  have e1 : IntKind.i64.min = -9223372036854775808 := by decide
  have e2 : IntKind.i64.max = 9223372036854775807 := by decide
  simp [Lit.wf] at h
  omega
/-- The errors' addresses out of five of them. -/
def eaOf (a b c d e : Addr) (k : Nat) : Addr := if k = 111 then a else if k = 112 then b else if k = 104 then c else if k = 105 then d else e
theorem room_of {W : World} (h : W.ShapedOpen Tryz.prog) : 24 < W.heap.size := by
  have hsome : (((begin Tryz.prog (fun _ _ => 0) default).world.heap[24]?).bind Obj.row?).isSome = true := by kernel_rfl
  obtain ⟨⟨z, t⟩, hz⟩ := Option.isSome_iff_exists.1 hsome
  have hn : Tryz.prog.globals.size = 28 := by kernel_rfl
  obtain ⟨cs, hc, _⟩ := h.1 24 z t (by rw [hn]; decide) hz
  rcases Nat.lt_or_ge 24 W.heap.size with hlt | hge
  · exact hlt
  · rw [Array.getElem?_eq_none hge] at hc; cases hc

end Go.Proofs.YtfganjmadehhaaaGreatDoor
