/- Contracts of the functions that the statement reaches, and the plain mathematics beneath: several texts joined. -/
import Derived.Shelf.Spec.SlicesGrow
import Derived.Laws.AppendOwnNone
import Derived.Deep.RegionHeld3
import Derived.Shelf.SlicesE.Clone
import Derived.Test.YtbalpfpcbckghaaGreatDoorFlsAL
import Derived.Test.YtbalpfpcbckghaaGreatDoorFlsAM
namespace Go.Proofs
open Go.Shelf
def Tryz.growV_ren : Go.Shelf.Ren := ⟨fun | 4 => 207 | n => n, fun | 22 => 22 | 25 => 24 | 3 => 3 | 4 => 4 | 9 => 9 | 20 => 20 | 0 => 0 | n => n, fun | n => n⟩
theorem Tryz.growV : Go.Proofs.Lays8.n4 Tryz.prog Tryz.growV_ren := {
  mixed := by kernel_rfl
  f4 := ⟨Tryz.f207.name, by decide, Tryz.func207.trans (congrArg some (by kernel_rfl))⟩
  t0 := Tryz.underlying0
  a0 := Tryz.isAgg0
  z0 := Tryz.sizeOf0
  v0 := Tryz.zeroValue0
  t3 := Tryz.underlying3
  a3 := Tryz.isAgg3
  z3 := Tryz.sizeOf3
  v3 := Tryz.zeroValue3
  t4 := Tryz.underlying4
  a4 := Tryz.isAgg4
  z4 := Tryz.sizeOf4
  v4 := Tryz.zeroValue4
  t9 := Tryz.underlying9
  a9 := Tryz.isAgg9
  z9 := Tryz.sizeOf9
  v9 := Tryz.zeroValue9
  t20 := Tryz.underlying20
  a20 := Tryz.isAgg20
  z20 := Tryz.sizeOf20
  v20 := Tryz.zeroValue20
  t22 := Tryz.underlying22
  a22 := Tryz.isAgg22
  z22 := Tryz.sizeOf22
  v22 := Tryz.zeroValue22 }
end Go.Proofs
namespace Go.Proofs.YtbalpfpcbckghaaGreatDoor
open Go.RowKit Go.Lib Go.Sort Go.Shelf
set_option linter.unusedVariables false
set_option linter.unusedSimpArgs false

def pcat : List (VL × Option Addr × Nat) → VL
  | [] => .nil
  | p :: r => p.1.app (pcat r)
theorem app_nil' : ∀ a : VL, a.app .nil = a
  | .nil => rfl
  | .cons k n s sub r => by show VL.cons k n s sub (r.app .nil) = _; rw [app_nil' r]
theorem app_assoc' : ∀ a b c : VL, (a.app b).app c = a.app (b.app c)
  | .nil, _, _ => rfl
  | .cons k n s sub r, b, c => by show VL.cons k n s sub ((r.app b).app c) = VL.cons k n s sub (r.app (b.app c)); rw [app_assoc' r b c]
theorem pcat_take : ∀ (ps : List (VL × Option Addr × Nat)) (i : Nat) (p : VL × Option Addr × Nat), ps[i]? = some p → pcat (ps.take (i + 1)) = (pcat (ps.take i)).app p.1
  | [], i, p, h => by simp at h
  | q :: r, 0, p, h => by
    simp only [List.getElem?_cons_zero, Option.some.injEq] at h
    subst h
    show q.1.app (pcat (r.take 0)) = VL.app (pcat []) q.1
    rw [List.take_zero]
    exact app_nil' _
  | q :: r, i + 1, p, h => by
    rw [List.getElem?_cons_succ] at h
    rw [List.take_succ_cons, List.take_succ_cons, pcat, pcat, pcat_take r i p h, app_assoc']
theorem pcat_le : ∀ (ps : List (VL × Option Addr × Nat)) (i : Nat), (pcat (ps.take i)).len ≤ (pcat ps).len
  | [], i => by simp
  | q :: r, 0 => by rw [List.take_zero]; exact Nat.zero_le _
  | q :: r, i + 1 => by
    rw [List.take_succ_cons, pcat, pcat, VL.len_app, VL.len_app]
    have := pcat_le r i
    omega
theorem rep_cells {w : World} {S : Nat → Prop} : ∀ (l : VL) (A : Option Addr), RpL w S l A → ∃ xs, CellsOf w S l xs ∧ ∀ b o, A = some ⟨b, o, none⟩ → ∀ j u, xs[j]? = some u → w.cell? ⟨b, o + j, none⟩ = some u
  | .nil, A, _ => ⟨[], rfl, fun b o _ j u hu => by simp at hu⟩
  | .cons k n s sub r, A, ⟨b, o, sa, sc, hA, hb, h0, h1, h2, h3, hc, hs, hr⟩ => by
    obtain ⟨ys, hy1, hy2⟩ := rep_cells r _ hr
    refine ⟨.int .i64 k :: .int .i64 n :: .string s :: .slice sa sub.len sc :: ys, ⟨sa, sc, ys, rfl, hc, hs, hy1⟩, ?_⟩
    intro b' o' he j u hu
    rw [hA] at he
    injection he with he
    injection he with e1 e2
    subst e1; subst e2
    match j, hu with
    | 0, hu => simp only [List.getElem?_cons_zero, Option.some.injEq] at hu; rw [← hu]; exact h0
    | 1, hu => simp only [List.getElem?_cons_succ, List.getElem?_cons_zero, Option.some.injEq] at hu; rw [← hu]; exact h1
    | 2, hu => simp only [List.getElem?_cons_succ, List.getElem?_cons_zero, Option.some.injEq] at hu; rw [← hu]; exact h2
    | 3, hu => simp only [List.getElem?_cons_succ, List.getElem?_cons_zero, Option.some.injEq] at hu; rw [← hu]; exact h3
    | j + 4, hu =>
      simp only [List.getElem?_cons_succ] at hu
      rw [show o + (j + 4) = o + 4 + j from by omega]
      exact hy2 b (o + 4) rfl j u hu
/-- slices.Grow of none. -/
theorem grow0_c (n : Nat) (hn : n ≤ 100000) (w : World) :
    Calls Tryz.prog 207 #[.slice none 0 0, .int .i64 n] w fun e w' => ∃ V, e = .returned V ∧ w'.ownsRow w.heap.size 24 4 V 0 [] ∧ Below w.heap.size w w' := by
  obtain ⟨i0, hi0, hz0, hz1, hz2⟩ := info_parts val_info
  by_cases h0 : n = 0
  · subst h0
    refine (Any8.slices_Grow_room Tryz.growV none 0 0 0 w (Nat.le_refl _) (by omega) (by omega) (Nat.le_refl _)).mono ?_
    rintro e w' ⟨rfl, rfl⟩
    exact ⟨_, rfl, World.ownsRow_nil _ _ _ _, Below.refl _ _⟩
  · refine (Any8.slices_Grow_grow Tryz.growV i0 _ hi0 hz0 (by rw [hz1]; omega) none 0 0 n [] w (Nat.le_refl _) (by omega) (by rw [hz2]; omega) (by omega) (by simp) (fun _ => rfl) (fun a h => by cases h)).mono ?_
    rintro e w' ⟨rfl, rfl⟩
    have hge := grownCap_ge w (0 + n) 0 (Tryz.growV_ren.t 25)
    have hcm := grownCap_le_maxLen w (0 + n) 0 (Tryz.growV_ren.t 25) (by unfold maxLen; omega)
    refine ⟨_, rfl, ⟨by simp, .inr ⟨w.heap.size, _, _, rfl, Nat.le_refl _, heap_alloc_new w.drew _, Nat.zero_le _, hcm, ?_, by simp⟩⟩, ((Below.refl _ _).drew).alloc (Nat.le_refl _) _⟩
    simp only [Array.size_append, List.size_toArray, size_zeroCells, List.length_nil]
    rw [show (Value.agg #[.int .i64 0, .int .i64 0, .string ⟨#[]⟩, .slice none 0 0]).cells.size = 4 from rfl]
    omega
set_option maxRecDepth 100000 in
set_option maxHeartbeats 4000000 in
theorem concat_c (ps : List (VL × Option Addr × Nat)) (bk c0 : Nat) (w : World) (hbk : bk < w.heap.size) (hpn : ps.length ≤ 1000) (hsum : (pcat ps).len ≤ 100000)
    (hps : ∀ j p, ps[j]? = some p → w.cell? ⟨bk, j, none⟩ = some (.slice p.2.1 p.1.len p.2.2) ∧ (p.2.1 = none → p.2.2 = 0) ∧ RpL w (fun b => b < w.heap.size) p.1 p.2.1) :
    Calls Tryz.prog 157 #[.slice (some ⟨bk, 0, none⟩) ps.length c0] w fun e w' => ∃ (sb : Option Addr) (cb : Nat), e = .returned (.slice sb (pcat ps).len cb) ∧ (pcat ps).len ≤ cb ∧ RpL w' (fun b => b < w'.heap.size) (pcat ps) sb ∧ Below w.heap.size w w' := by
  obtain ⟨i0, hi0, hz0, hz1, hz2⟩ := info_parts val_info
  have HPS := Lib.hid hps
  have GC := Lib.hid (grow0_c (pcat ps).len hsum w)
  have HLE := Lib.hid (pcat_le ps)
  have HTK := Lib.hid (pcat_take ps)
  have HALL := Lib.hid (show ps.take ps.length = ps from List.take_length)
  clear hps
  go_enter Tryz.func157, Tryz.ntmps157
  go_wp2_with fail
  go_loopg [3, 11] ps.length (fun kk zv v wr => ∃ (z i : Nat), zv = .int .i64 z ∧ v = .int .i64 i ∧ i + kk = ps.length ∧ Hid (z = (pcat (ps.take i)).len) ∧ wr = w)
  case atStart => exact ⟨0, 0, rfl, rfl, by omega, rfl, rfl⟩
  case round =>
    obtain ⟨z, i, rfl, rfl, hik, hz, hww⟩ := hrel
    obtain rfl : w = wr := hww.symm
    by_cases hi : i < ps.length
    · obtain ⟨g, rfl⟩ : ∃ g, gk = g + 1 := ⟨gk - 1, by omega⟩
      obtain ⟨p, hp⟩ : ∃ p, ps[i]? = some p := ⟨_, List.getElem?_eq_getElem hi⟩
      obtain ⟨hc, -, -⟩ := HPS.out i p hp
      have hz1' : z + p.1.len = (pcat (ps.take (i + 1))).len := by rw [HTK.out i p hp, VL.len_app, hz.out]
      have hle := HLE.out (i + 1)
      rw [← hz1'] at hle
      have HZ := Lib.hid hz1'
      have hwr : IntKind.i64.wrap ((z : Int) + (p.1.len : Int)) = (z : Int) + (p.1.len : Int) := IntWalk.i64_in _ ⟨by omega, by omega⟩
      have hn0 : ¬ ((z : Int) + (p.1.len : Int) < 0) := by omega
      clear hz1'
      go_wp2_with fail
      go_roundg g
      case measure => omega
      case rel => exact ⟨z + p.1.len, i + 1, by go_num, by go_num, by omega, HZ.out, rfl⟩
    · obtain rfl : i = ps.length := by omega
      have hzz : z = (pcat ps).len := by rw [hz.out, HALL.out]
      subst hzz
      clear hz
      go_wp2_with fail
      refine GC.out.mono ?_
      rintro e w2 ⟨V0, rfl, hown, hb2⟩
      have HO := Lib.hid hown
      have HB2 := Lib.hid hb2
      clear hown hb2 GC
      go_wp2_with fail
      go_loopg [6, 27] ps.length (fun kk V v wr => ∃ (i : Nat) (xs : List Value), v = .int .i64 i ∧ i + kk = ps.length ∧ Hid (wr.ownsRow w.heap.size 24 4 V (pcat (ps.take i)).len xs) ∧ Hid (CellsOf w (fun b => b < w.heap.size) (pcat (ps.take i)) xs) ∧ Hid (Below w.heap.size w wr))
      case atStart => exact ⟨0, [], rfl, by omega, HO, rfl, HB2⟩
      case round =>
        clear HO HB2
        obtain ⟨i, xs, rfl, hik, hO, hC, hB⟩ := hrel
        have hBz := hB.out.size
        by_cases hi : i < ps.length
        · obtain ⟨g, rfl⟩ : ∃ g, gk = g + 1 := ⟨gk - 1, by omega⟩
          obtain ⟨p, hp⟩ : ∃ p, ps[i]? = some p := ⟨_, List.getElem?_eq_getElem hi⟩
          obtain ⟨hc, hnil, hrp⟩ := HPS.out i p hp
          obtain ⟨news, hcn, hcl⟩ := rep_cells _ _ hrp
          have hle := HLE.out (i + 1)
          have HT := Lib.hid (HTK.out i p hp)
          rw [HT.out, VL.len_app] at hle
          have hc2 : wr.cell? ⟨bk, i, none⟩ = _ := (hB.out.cell (p := ⟨bk, i, none⟩) hbk).trans hc
          obtain ⟨pl, A, pc⟩ := p
          cases A with
          | none =>
            obtain rfl : pc = 0 := hnil rfl
            have hpl : pl = .nil := by
              cases pl with
              | nil => rfl
              | cons => obtain ⟨b, o, sa, sc, hA, -⟩ := hrp; cases hA
            subst hpl
            have HN := Lib.hid (show pcat (ps.take (i + 1)) = pcat (ps.take i) by rw [HT.out]; exact app_nil' _)
            change wr.cell? ⟨bk, i, none⟩ = some (.slice none 0 0) at hc2
            clear hc hcn hcl hrp HT
            go_wp2_with (at_builtin; refine wpList_append_own_none rfl (.tmp 31) (.tmp 32) 22 rfl w.heap.size 24 i0 4 Tryz.underlying22 hi0 _ _ _ rfl hO.out rfl ?_)
            go_roundg g
            case measure => omega
            case rel => exact ⟨i + 1, xs, by go_num, by omega, by show World.ownsRow _ _ _ _ _ (pcat (ps.take (i + 1))).len _; rw [HN.out]; exact hO.out, by show CellsOf _ _ (pcat (ps.take (i + 1))) _; rw [HN.out]; exact hC.out, hB.out⟩
          | some a =>
            have HNW := Lib.hid (show ∀ j u, news[j]? = some u → wr.cell? (a.add j) = some u from fun j u hu => by
              cases pl with
              | nil => have : news = [] := hcn; rw [this] at hu; simp at hu
              | cons k n s sub r =>
                obtain ⟨b, o, sa, sc, hA, hb, -⟩ := id hrp
                injection hA with hA
                subst hA
                rw [Addr.add_lit]
                exact (hB.out.cell (p := ⟨b, o + j, none⟩) hb).trans (hcl b o rfl j u hu))
            have HCN := Lib.hid hcn
            have HPL := Lib.hid (show news.length = pl.len * 4 from CellsOf.length _ _ hcn)
            have H1 := Lib.hid (CellsOf.one _ _ hcn)
            change wr.cell? ⟨bk, i, none⟩ = some (.slice (some a) pl.len pc) at hc2
            change (pcat (ps.take i)).len + pl.len ≤ _ at hle
            clear hc hcn hcl hrp
            go_wp2_with (at_builtin; refine wpList_append_own_at _ rfl (.tmp 31) (.tmp 32) 22 rfl w.heap.size 24 i0 _ 4 56 Tryz.underlying22 hi0 hz0 hz1 hz2 rfl (by decide) _ (pcat (ps.take i)).len xs rfl hO.out a pl.len pc news rfl HPL.out HNW.out H1.out ?c4 ?c5 (by omega) ?c7
                         case c4 => unfold maxLen; omega
                         case c5 => omega
                         intro V' w5 hown' hgrow _ hob
                         have HO5 := Lib.hid hown'
                         have HB5 := Lib.hid (grown_below hB.out hBz hgrow (fun k hk => own_ge hO.out k hk))
                         clear hown' hgrow hob)
            go_roundg g
            case measure => omega
            case rel => exact ⟨i + 1, _, by go_num, by omega, by show World.ownsRow _ _ _ _ _ (pcat (ps.take (i + 1))).len _; rw [HT.out, VL.len_app]; exact HO5.out, by show CellsOf _ _ (pcat (ps.take (i + 1))) _; rw [HT.out]; exact CellsOf.app _ _ _ _ hC.out HCN.out, HB5.out⟩
        · obtain rfl : i = ps.length := by omega
          have hO2 := hO.out
          have hC2 := hC.out
          rw [HALL.out] at hO2 hC2
          have hC3 := hC2.keep (w' := wr) (S' := fun b => b < wr.heap.size) (fun b hb => hB.out.block b hb) (fun b hb => Nat.lt_of_lt_of_le hb hB.out.size)
          obtain ⟨sb, cb, hV, hcb, hrb⟩ := own_rep hO2 hC3 (fun g hg => own_lt hO2 g hg)
          subst hV
          have HF := Lib.hid (show (pcat ps).len ≤ cb ∧ RpL wr (fun b => b < wr.heap.size) (pcat ps) sb ∧ Below w.heap.size w wr from ⟨hcb, hrb, hB.out⟩)
          clear hO hC hO2 hC2 hC3 hrb
          go_wp2_with fail
          go_ret
          exact ⟨sb, cb, rfl, HF.out⟩
end Go.Proofs.YtbalpfpcbckghaaGreatDoor
namespace Go.Proofs.YtbalpfpcbckghaaGreatDoor
open Go.RowKit Go.Lib Go.Sort Go.Shelf
set_option linter.unusedVariables false
set_option linter.unusedSimpArgs false

theorem RpL.take {w : World} {S : Nat → Prop} : ∀ (i : Nat) (l : VL) (A : Option Addr), RpL w S l A → RpL w S (l.take i) A
  | 0, l, _, _ => by rw [VL.take]; trivial
  | i + 1, .nil, _, _ => by rw [VL.take]; trivial
  | i + 1, .cons k n s sub r, A, ⟨b, o, sa, sc, hA, h1, h2, h3, h4, h5, h6, h7, hr⟩ => by
    rw [VL.take]
    exact ⟨b, o, sa, sc, hA, h1, h2, h3, h4, h5, h6, h7, RpL.take i r _ hr⟩
theorem take_vlen : ∀ (i : Nat) (l : VL), i ≤ l.len → (l.take i).len = i
  | 0, l, _ => by rw [VL.take]; rfl
  | i + 1, .nil, h => by exact absurd h (by show ¬ i + 1 ≤ 0; omega)
  | i + 1, .cons k n s sub r, h => by
    rw [VL.take]
    show (r.take i).len + 1 = i + 1
    rw [take_vlen i r (by have : (VL.cons k n s sub r).len = r.len + 1 := rfl; omega)]
/-- A row put into memory by a call: a list of one's own, with a code. -/
def PRowC (w : World) (m : VL) (e : Ending) (w' : World) : Prop :=
  ∃ (sb : Option Addr) (cb : Nat), e = .returned (.tuple #[.slice sb m.len cb, .int .i64 0]) ∧ m.len ≤ cb ∧ RpL w' (fun b => w.heap.size ≤ b ∧ b < w'.heap.size) m sb ∧ Below w.heap.size w w'
/-- Three rows in a row of rows, one behind the other. -/
theorem concat3_c (l1 l2 l3 : VL) (a1 a2 a3 : Option Addr) (c1 c2 c3 : Nat) (w W : World) (bk c0 : Nat) (hB : Below w.heap.size w W) (hbk : bk < W.heap.size)
    (h1 : W.cell? ⟨bk, 0, none⟩ = some (.slice a1 l1.len c1)) (h2 : W.cell? ⟨bk, 1, none⟩ = some (.slice a2 l2.len c2)) (h3 : W.cell? ⟨bk, 2, none⟩ = some (.slice a3 l3.len c3))
    (n1 : a1 = none → c1 = 0) (n2 : a2 = none → c2 = 0) (n3 : a3 = none → c3 = 0) (r1 : RpL W (fun b => b < W.heap.size) l1 a1) (r2 : RpL W (fun b => b < W.heap.size) l2 a2) (r3 : RpL W (fun b => b < W.heap.size) l3 a3) (hsum : (l1.app (l2.app l3)).len ≤ 100000) :
    Calls Tryz.prog 157 #[.slice (some ⟨bk, 0, none⟩) 3 c0] W fun e w' => ∃ (sb : Option Addr) (cb : Nat), e = .returned (.slice sb (l1.app (l2.app l3)).len cb) ∧ (l1.app (l2.app l3)).len ≤ cb ∧ RpL w' (fun b => b < w'.heap.size) (l1.app (l2.app l3)) sb ∧ Below w.heap.size w w' := by
  have e : pcat [(l1, a1, c1), (l2, a2, c2), (l3, a3, c3)] = l1.app (l2.app l3) := by
    show l1.app (l2.app (l3.app .nil)) = _
    rw [app_nil']
  have C := concat_c [(l1, a1, c1), (l2, a2, c2), (l3, a3, c3)] bk c0 W hbk (by simp) (by rw [e]; exact hsum) (fun j p hp => by
    match j, hp with
    | 0, hp => simp only [List.getElem?_cons_zero, Option.some.injEq] at hp; rw [← hp]; exact ⟨h1, n1, r1⟩
    | 1, hp => simp only [List.getElem?_cons_succ, List.getElem?_cons_zero, Option.some.injEq] at hp; rw [← hp]; exact ⟨h2, n2, r2⟩
    | 2, hp => simp only [List.getElem?_cons_succ, List.getElem?_cons_zero, Option.some.injEq] at hp; rw [← hp]; exact ⟨h3, n3, r3⟩
    | j + 3, hp => simp at hp)
  rw [e] at C
  refine C.mono ?_
  rintro e w' ⟨sb, cb, he, hc, hr, hb⟩
  exact ⟨sb, cb, he, hc, hr, hB.trans (below_le' hb hB.size)⟩
end Go.Proofs.YtbalpfpcbckghaaGreatDoor
namespace Go.Proofs.YtbalpfpcbckghaaGreatDoor
open Go.RowKit Go.Lib Go.Sort Go.Shelf
set_option linter.unusedVariables false
set_option linter.unusedSimpArgs false

set_option maxRecDepth 100000 in
set_option maxHeartbeats 4000000 in
theorem insert_nil (k' n' : Int) (s' : ByteArray) (sub' : VL) (va : Option Addr) (vc : Nat) (m : VL) (w : World) (hm : m = .cons k' n' s' sub' .nil) (hcost : cost m ≤ 100000)
    (hd : 1 + vD m 0 ≤ 40) (hs : vS m 1 ≤ 4096) (hvc : sub'.len ≤ vc) (hrv : RpL w (fun b => b < w.heap.size) sub' va) :
    Calls Tryz.prog 101 #[.slice none 0 0, .agg #[.int .i64 k', .int .i64 n', .string s', .slice va sub'.len vc], .int .i64 1] w (PRowC w m) := by
  have hml : m.len = 1 := by rw [hm]; rfl
  obtain ⟨wa, hwa⟩ : ∃ wa, wa = w.alloc (.cells #[.int .i64 k', .int .i64 n', .string s', .slice va sub'.len vc] 24) := ⟨_, rfl⟩
  have hba : Below w.heap.size w wa := by rw [hwa]; exact (Below.refl _ _).alloc (Nat.le_refl _) _
  have hwz : wa.heap.size = w.heap.size + 1 := by rw [hwa]; simp
  have hV : StB wa w.heap.size (.int .i64 k') (.int .i64 n') (.string s') (.slice va sub'.len vc) := by rw [hwa]; exact StB.new w _ _ _ _
  have HV := Lib.hid hV
  have HB := Lib.hid hba
  have HWA := Lib.hid hwa
  have RV := Lib.hid (fun W (hW : Below wa.heap.size wa W) => hrv.keep (w' := W) (S' := fun b => b < W.heap.size) (fun b hb => (hW.block b (by omega)).trans (hba.block b hb)) (fun b hb => by have := hW.size; omega))
  have MC := Lib.hid (fun (A : Option Addr) (c : Nat) W (hW : Below wa.heap.size wa W) (hc : m.len ≤ c) (hr : RpL W (fun b => b < W.heap.size) m A) => (made_c m A c W hcost hd hs hc hr).mono (R' := fun e w' => PRowC w m e w' ∧ Below wa.heap.size wa w') fun e w' h => by
    obtain ⟨sb, cb, he, h1, h2, h3⟩ := h
    exact ⟨⟨sb, cb, he, h1, h2.wide (fun b hb => ⟨by have := hW.size; omega, hb.2⟩), hba.trans (below_le' (hW.trans (below_le' h3 hW.size)) (by omega))⟩, hW.trans (below_le' h3 hW.size)⟩)
  have hz1 : wa.drew.heap.size = wa.heap.size := rfl
  obtain ⟨p1, hp1⟩ : ∃ p1, p1 = wa.alloc (.cells #[.int .i64 k', .int .i64 n', .string s', .slice va sub'.len vc] 24) := ⟨_, rfl⟩
  obtain ⟨pw, hpw⟩ : ∃ pw, pw = (p1.alloc (.cells #[.slice none 0 0, .slice (some ⟨wa.heap.size, 0, none⟩) 1 1, .slice none 0 0] 22)).drew := ⟨_, rfl⟩
  have bp1 : Below wa.heap.size wa p1 := by rw [hp1]; exact (Below.refl _ _).alloc (Nat.le_refl _) _
  have zp1 : p1.heap.size = wa.heap.size + 1 := by rw [hp1]; simp
  have bpw : Below wa.heap.size wa pw := by rw [hpw]; exact (bp1.alloc (by omega) _).drew
  have zpw : pw.heap.size = wa.heap.size + 2 := by rw [hpw]; show (p1.alloc _).heap.size = _; simp; omega
  have g1 : pw.heap[wa.heap.size]? = some (.cells #[.int .i64 k', .int .i64 n', .string s', .slice va sub'.len vc] 24 (0, 0)) := by
    rw [hpw]
    show (p1.alloc _).heap[_]? = _
    rw [Below.heap_alloc _ _ _ (by omega), hp1]
    exact heap_alloc_new wa _
  have g2 : pw.heap[wa.heap.size + 1]? = some (.cells #[.slice none 0 0, .slice (some ⟨wa.heap.size, 0, none⟩) 1 1, .slice none 0 0] 22 (0, 0)) := by
    rw [hpw, ← zp1]
    show (p1.alloc _).heap[_]? = _
    exact heap_alloc_new p1 _
  have CC := Lib.hid (concat3_c .nil (.cons k' n' s' sub' .nil) .nil none (some ⟨wa.heap.size, 0, none⟩) none 0 1 0 wa pw (wa.heap.size + 1) 3 bpw (by omega)
    (cell_of_row pw _ 0 _ _ _ g2) (cell_of_row pw _ 1 _ _ _ g2) (cell_of_row pw _ 2 _ _ _ g2) (fun _ => rfl) (by intro h; cases h) (fun _ => rfl)
    trivial ⟨wa.heap.size, 0, va, vc, rfl, by omega, cell_of_row pw _ 0 _ _ _ g1, cell_of_row pw _ 1 _ _ _ g1, cell_of_row pw _ 2 _ _ _ g1, cell_of_row pw _ 3 _ _ _ g1, hvc, RV.out pw bpw, trivial⟩ trivial (by show 1 ≤ 100000; omega))
  have e : VL.nil.app ((VL.cons k' n' s' sub' .nil).app .nil) = m := hm.symm
  rw [e] at CC
  clear e hm
  have hv0 := hV.c0; have hv1 := hV.c1; have hv2 := hV.c2; have hv3 := hV.c3
  have KS := Lib.hid (fun W (hW : Below wa.heap.size wa W) => (show W.cell? ⟨w.heap.size, 0, none⟩ = some (.int .i64 k') ∧ W.cell? ⟨w.heap.size, 1, none⟩ = some (.int .i64 n') ∧ W.cell? ⟨w.heap.size, 2, none⟩ = some (.string s') ∧ W.cell? ⟨w.heap.size, 3, none⟩ = some (.slice va sub'.len vc) from ⟨cell_below hW hv0, cell_below hW hv1, cell_below hW hv2, cell_below hW hv3⟩))
  rw [hwa] at hv0 hv1 hv2 hv3
  rw [hpw, hp1] at CC
  have hml' : m.len ≤ 100000 := by omega
  clear hV hba hrv hwa bp1 bpw g1 g2 hpw hp1 hwz hz1 zp1 zpw hml
  go_enter Tryz.func101, Tryz.ntmps101
  go_upto_region 2 with fail
  rw [← HWA.out] at hv0 hv1 hv2 hv3 ⊢
  go_region_held3 (fun W => W.cell? ⟨w.heap.size, 0, none⟩ = some (.int .i64 k') ∧ W.cell? ⟨w.heap.size, 1, none⟩ = some (.int .i64 n') ∧ W.cell? ⟨w.heap.size, 2, none⟩ = some (.string s') ∧ W.cell? ⟨w.heap.size, 3, none⟩ = some (.slice va sub'.len vc))
    (first | with_reducible assumption | go_keep | with_reducible exact KS.out _ (by assumption))
    (first
      | (go_at_call 157; refine CC.out.mono ?_; rintro e w' ⟨sb, cb, rfl, hcb, hrb, hbb⟩)
      | (go_at_call 156; refine (MC.out _ _ _ ?_ ?_ ?_).mono ?_; assumption; assumption; assumption; rintro e w' ⟨⟨sb2, cb2, rfl, hcb2, hrb2, hb2⟩, hbb2⟩))
  all_goals
    go_wp2_with fail
    go_ret2
    exact ⟨sb2, cb2, rfl, by assumption, by assumption, by assumption⟩
end Go.Proofs.YtbalpfpcbckghaaGreatDoor
namespace Go.Proofs.YtbalpfpcbckghaaGreatDoor
open Go.RowKit Go.Lib Go.Sort Go.Shelf
set_option linter.unusedVariables false
set_option linter.unusedSimpArgs false

set_option maxRecDepth 100000 in
set_option maxHeartbeats 4000000 in
theorem insert_c (l : VL) (sa : Option Addr) (sc : Nat) (k' n' : Int) (s' : ByteArray) (sub' : VL) (va : Option Addr) (vc : Nat) (k : Nat) (m : VL) (w : World) (hm : m = (l.take k).app (.cons k' n' s' sub' (l.drop k))) (hk : k ≤ l.len) (hcost : cost m ≤ 100000) (hlm : l.len ≤ 10000) (hml : m.len ≤ 100000)
    (hd : 1 + vD m 0 ≤ 40) (hs : vS m 1 ≤ 4096) (hsc : l.len ≤ sc) (hvc : sub'.len ≤ vc) (hA : (sa = none ∧ sc = 0) ∨ ∃ b o, sa = some ⟨b, o, none⟩) (hrep : RpL w (fun b => b < w.heap.size) l sa) (hrv : RpL w (fun b => b < w.heap.size) sub' va) :
    Calls Tryz.prog 101 #[.slice sa l.len sc, .agg #[.int .i64 k', .int .i64 n', .string s', .slice va sub'.len vc], .int .i64 ((k : Int) + 1)] w (PRowC w m) := by
  obtain ⟨wa, hwa⟩ : ∃ wa, wa = w.alloc (.cells #[.int .i64 k', .int .i64 n', .string s', .slice va sub'.len vc] 24) := ⟨_, rfl⟩
  have hba : Below w.heap.size w wa := by rw [hwa]; exact (Below.refl _ _).alloc (Nat.le_refl _) _
  have hwz : wa.heap.size = w.heap.size + 1 := by rw [hwa]; simp
  have hV : StB wa w.heap.size (.int .i64 k') (.int .i64 n') (.string s') (.slice va sub'.len vc) := by rw [hwa]; exact StB.new w _ _ _ _
  have HV := Lib.hid hV
  have HB := Lib.hid hba
  have HWA := Lib.hid hwa
  have RL := Lib.hid (fun W (hW : Below wa.heap.size wa W) => hrep.keep (w' := W) (S' := fun b => b < W.heap.size) (fun b hb => (hW.block b (by omega)).trans (hba.block b hb)) (fun b hb => by have := hW.size; omega))
  have RV := Lib.hid (fun W (hW : Below wa.heap.size wa W) => hrv.keep (w' := W) (S' := fun b => b < W.heap.size) (fun b hb => (hW.block b (by omega)).trans (hba.block b hb)) (fun b hb => by have := hW.size; omega))
  have MC := Lib.hid (fun (A : Option Addr) (c : Nat) W (hW : Below wa.heap.size wa W) (hc : m.len ≤ c) (hr : RpL W (fun b => b < W.heap.size) m A) => (made_c m A c W hcost hd hs hc hr).mono (R' := fun e w' => PRowC w m e w' ∧ Below wa.heap.size wa w') fun e w' h => by
    obtain ⟨sb, cb, he, h1, h2, h3⟩ := h
    exact ⟨⟨sb, cb, he, h1, h2.wide (fun b hb => ⟨by have := hW.size; omega, hb.2⟩), hba.trans (below_le' (hW.trans (below_le' h3 hW.size)) (by omega))⟩, hW.trans (below_le' h3 hW.size)⟩)
  have hmn : min ((k : Int) + 1) ((l.len : Int) + 1) = (k : Int) + 1 := by omega
  have hmx : max 1 ((k : Int) + 1) = (k : Int) + 1 := by omega
  have hdl : (l.drop k).len = l.len - k := VL.len_drop ..
  have hdz : ((l.drop k).len : Int) = (l.len : Int) - (k : Int) := by omega
  rcases hA with ⟨rfl, rfl⟩ | ⟨b, o, rfl⟩
  · cases l with
    | cons k n s sub r => have e : (VL.cons k n s sub r).len = r.len + 1 := rfl; omega
    | nil =>
      obtain rfl : k = 0 := by have : VL.nil.len = 0 := rfl; omega
      exact insert_nil k' n' s' sub' va vc m w hm hcost hd hs hvc hrv
  · have hz1 : wa.drew.heap.size = wa.heap.size := rfl
    obtain ⟨o3, ho3⟩ : ∃ o3, (sc = k ∧ o3 = o) ∨ (¬ sc = k ∧ o3 = o + k * 4) := by
      by_cases c : sc = k
      · exact ⟨o, .inl ⟨c, rfl⟩⟩
      · exact ⟨o + k * 4, .inr ⟨c, rfl⟩⟩
    obtain ⟨c3, hc3⟩ : ∃ c3, c3 = sc - k := ⟨_, rfl⟩
    obtain ⟨p1, hp1⟩ : ∃ p1, p1 = wa.alloc (.cells #[.int .i64 k', .int .i64 n', .string s', .slice va sub'.len vc] 24) := ⟨_, rfl⟩
    obtain ⟨pw, hpw⟩ : ∃ pw, pw = (p1.alloc (.cells #[.slice (some ⟨b, o, none⟩) k sc, .slice (some ⟨wa.heap.size, 0, none⟩) 1 1, .slice (some ⟨b, o3, none⟩) (l.len - k : Nat) c3] 22)).drew := ⟨_, rfl⟩
    have bp1 : Below wa.heap.size wa p1 := by rw [hp1]; exact (Below.refl _ _).alloc (Nat.le_refl _) _
    have zp1 : p1.heap.size = wa.heap.size + 1 := by rw [hp1]; simp
    have bpw : Below wa.heap.size wa pw := by rw [hpw]; exact (bp1.alloc (by omega) _).drew
    have zpw : pw.heap.size = wa.heap.size + 2 := by rw [hpw]; show (p1.alloc _).heap.size = _; simp; omega
    have g1 : pw.heap[wa.heap.size]? = some (.cells #[.int .i64 k', .int .i64 n', .string s', .slice va sub'.len vc] 24 (0, 0)) := by
      rw [hpw]
      show (p1.alloc _).heap[_]? = _
      rw [Below.heap_alloc _ _ _ (by omega), hp1]
      exact heap_alloc_new wa _
    have g2 : pw.heap[wa.heap.size + 1]? = some (.cells #[.slice (some ⟨b, o, none⟩) k sc, .slice (some ⟨wa.heap.size, 0, none⟩) 1 1, .slice (some ⟨b, o3, none⟩) (l.len - k : Nat) c3] 22 (0, 0)) := by
      rw [hpw, ← zp1]
      show (p1.alloc _).heap[_]? = _
      exact heap_alloc_new p1 _
    have CC := Lib.hid (concat3_c (l.take k) (.cons k' n' s' sub' .nil) (l.drop k) (some ⟨b, o, none⟩) (some ⟨wa.heap.size, 0, none⟩) (some ⟨b, o3, none⟩) sc 1 c3 wa pw (wa.heap.size + 1) 3 bpw (by omega)
      (by rw [take_vlen k l hk]; exact cell_of_row pw _ 0 _ _ _ g2) (cell_of_row pw _ 1 _ _ _ g2) (by rw [hdl]; exact cell_of_row pw _ 2 _ _ _ g2) (by intro h; cases h) (by intro h; cases h) (by intro h; cases h)
      ((RL.out pw bpw).take k l _) ⟨wa.heap.size, 0, va, vc, rfl, by omega, cell_of_row pw _ 0 _ _ _ g1, cell_of_row pw _ 1 _ _ _ g1, cell_of_row pw _ 2 _ _ _ g1, cell_of_row pw _ 3 _ _ _ g1, hvc, RV.out pw bpw, trivial⟩
      (by
        have := RpL.drop k l b o (RL.out pw bpw)
        rw [Nat.mul_comm 4 k] at this
        rcases ho3 with ⟨c, rfl⟩ | ⟨c, rfl⟩
        · have : l.drop k = .nil := by
            cases h : l.drop k with
            | nil => rfl
            | cons => rw [h] at hdl; have e2 : (VL.cons _ _ _ _ _).len = _ := hdl; rw [VL.len] at e2; omega
          rw [this]
          trivial
        · exact this) (by have e : (l.take k).app ((VL.cons k' n' s' sub' .nil).app (l.drop k)) = m := hm.symm; rw [e]; exact hml))
    have e : (l.take k).app ((VL.cons k' n' s' sub' .nil).app (l.drop k)) = m := hm.symm
    rw [e] at CC
    clear e hm
    have hv0 := hV.c0; have hv1 := hV.c1; have hv2 := hV.c2; have hv3 := hV.c3
    have KS := Lib.hid (fun W (hW : Below wa.heap.size wa W) => (show W.cell? ⟨w.heap.size, 0, none⟩ = some (.int .i64 k') ∧ W.cell? ⟨w.heap.size, 1, none⟩ = some (.int .i64 n') ∧ W.cell? ⟨w.heap.size, 2, none⟩ = some (.string s') ∧ W.cell? ⟨w.heap.size, 3, none⟩ = some (.slice va sub'.len vc) from ⟨cell_below hW hv0, cell_below hW hv1, cell_below hW hv2, cell_below hW hv3⟩))
    have HPW := Lib.hid hpw
    have HP1 := Lib.hid hp1
    have k0 : (0 : Int) ≤ (k : Int) := by omega
    have k1 : (k : Int) ≤ (l.len : Int) := by omega
    have k2 : (k : Int) ≤ (sc : Int) := by omega
    have k3 : (l.len : Int) ≤ (sc : Int) := by omega
    rw [hwa] at hv0 hv1 hv2 hv3
    rw [hpw, hp1] at CC
    have HWZ := Lib.hid hwz
    have HZP := Lib.hid zpw
    clear hV hba hrep hrv hwa bp1 bpw g1 g2 hpw hp1 hwz hz1 zp1 zpw hdl hdz
    rcases ho3 with ⟨hck, rfl⟩ | ⟨hck, rfl⟩
    · have h0 : c3 = 0 := by omega
      clear hc3
      subst h0
      rw [hck] at CC
      go_enter Tryz.func101, Tryz.ntmps101
      go_upto_region 2 with fail
      rw [← HWA.out] at hv0 hv1 hv2 hv3 ⊢
      go_region_held3 (fun W => W.cell? ⟨w.heap.size, 0, none⟩ = some (.int .i64 k') ∧ W.cell? ⟨w.heap.size, 1, none⟩ = some (.int .i64 n') ∧ W.cell? ⟨w.heap.size, 2, none⟩ = some (.string s') ∧ W.cell? ⟨w.heap.size, 3, none⟩ = some (.slice va sub'.len vc))
        (first | with_reducible assumption | go_keep | with_reducible exact KS.out _ (by assumption))
        (first
          | (go_at_call 157; refine CC.out.mono ?_; rintro e w' ⟨sb, cb, rfl, hcb, hrb, hbb⟩)
          | (go_at_call 156; refine (MC.out _ _ _ ?_ ?_ ?_).mono ?_; assumption; assumption; assumption; rintro e w' ⟨⟨sb2, cb2, rfl, hcb2, hrb2, hb2⟩, hbb2⟩))
      all_goals
        go_wp2_with fail
        go_ret2
        exact ⟨sb2, cb2, rfl, by assumption, by assumption, by assumption⟩
    · subst hc3
      go_enter Tryz.func101, Tryz.ntmps101
      go_upto_region 2 with fail
      rw [← HWA.out] at hv0 hv1 hv2 hv3 ⊢
      go_region_held3 (fun W => W.cell? ⟨w.heap.size, 0, none⟩ = some (.int .i64 k') ∧ W.cell? ⟨w.heap.size, 1, none⟩ = some (.int .i64 n') ∧ W.cell? ⟨w.heap.size, 2, none⟩ = some (.string s') ∧ W.cell? ⟨w.heap.size, 3, none⟩ = some (.slice va sub'.len vc))
        (first | with_reducible assumption | go_keep | with_reducible exact KS.out _ (by assumption))
        (first
          | (go_at_call 157; refine CC.out.mono ?_; rintro e w' ⟨sb, cb, rfl, hcb, hrb, hbb⟩)
          | (go_at_call 156; refine (MC.out _ _ _ ?_ ?_ ?_).mono ?_; assumption; assumption; assumption; rintro e w' ⟨⟨sb2, cb2, rfl, hcb2, hrb2, hb2⟩, hbb2⟩))
      all_goals
        go_wp2_with fail
        go_ret2
        exact ⟨sb2, cb2, rfl, by assumption, by assumption, by assumption⟩
end Go.Proofs.YtbalpfpcbckghaaGreatDoor
namespace Go.Proofs.YtbalpfpcbckghaaGreatDoor
open Go.RowKit Go.Lib Go.Sort Go.Shelf
set_option linter.unusedVariables false
set_option linter.unusedSimpArgs false

set_option maxRecDepth 100000 in
set_option maxHeartbeats 1000000 in
theorem there_c (n : Nat) (A : Option Addr) (c k : Nat) (w : World) (hk : k < n) (hn : n ≤ 100000) :
    Calls Tryz.prog 158 #[.slice A n c, .int .i64 ((k : Int) + 1)] w fun e w' => e = .returned (.bool true) ∧ w = w' := by
  have g1 : decide ((1 : Int) ≤ (k : Int) + 1) = true := by simp; omega
  have g2 : decide ((k : Int) + 1 ≤ (n : Int)) = true := by simp; omega
  go_enter Tryz.func158, Tryz.ntmps158
  go_wp2_with fail
  go_ret
  exact ⟨rfl, rfl⟩
/-- Two rows in a row of rows, one behind the other. -/
theorem concat2_c (l1 l2 : VL) (a1 a2 : Option Addr) (c1 c2 : Nat) (w W : World) (bk c0 : Nat) (hB : Below w.heap.size w W) (hbk : bk < W.heap.size)
    (h1 : W.cell? ⟨bk, 0, none⟩ = some (.slice a1 l1.len c1)) (h2 : W.cell? ⟨bk, 1, none⟩ = some (.slice a2 l2.len c2))
    (n1 : a1 = none → c1 = 0) (n2 : a2 = none → c2 = 0) (r1 : RpL W (fun b => b < W.heap.size) l1 a1) (r2 : RpL W (fun b => b < W.heap.size) l2 a2) (hsum : (l1.app l2).len ≤ 100000) :
    Calls Tryz.prog 157 #[.slice (some ⟨bk, 0, none⟩) 2 c0] W fun e w' => ∃ (sb : Option Addr) (cb : Nat), e = .returned (.slice sb (l1.app l2).len cb) ∧ (l1.app l2).len ≤ cb ∧ RpL w' (fun b => b < w'.heap.size) (l1.app l2) sb ∧ Below w.heap.size w w' := by
  have e : pcat [(l1, a1, c1), (l2, a2, c2)] = l1.app l2 := by
    show l1.app (l2.app .nil) = _
    rw [app_nil']
  have C := concat_c [(l1, a1, c1), (l2, a2, c2)] bk c0 W hbk (by simp) (by rw [e]; exact hsum) (fun j p hp => by
    match j, hp with
    | 0, hp => simp only [List.getElem?_cons_zero, Option.some.injEq] at hp; rw [← hp]; exact ⟨h1, n1, r1⟩
    | 1, hp => simp only [List.getElem?_cons_succ, List.getElem?_cons_zero, Option.some.injEq] at hp; rw [← hp]; exact ⟨h2, n2, r2⟩
    | j + 2, hp => simp at hp)
  rw [e] at C
  refine C.mono ?_
  rintro e w' ⟨sb, cb, he, hc, hr, hb⟩
  exact ⟨sb, cb, he, hc, hr, hB.trans (below_le' hb hB.size)⟩
set_option maxRecDepth 100000 in
set_option maxHeartbeats 4000000 in
theorem delete_c (l : VL) (b o : Nat) (sc : Nat) (k : Nat) (m : VL) (w : World) (hm : m = (l.take k).app (l.drop (k + 1))) (hk : k < l.len) (hcost : cost m ≤ 100000) (hlm : l.len ≤ 10000) (hml : m.len ≤ 100000)
    (hd : 1 + vD m 0 ≤ 40) (hs : vS m 1 ≤ 4096) (hsc : l.len ≤ sc) (hrep : RpL w (fun b => b < w.heap.size) l (some ⟨b, o, none⟩)) :
    Calls Tryz.prog 102 #[.slice (some ⟨b, o, none⟩) l.len sc, .int .i64 ((k : Int) + 1)] w (PRowC w m) := by
  have RL := Lib.hid (fun W (hW : Below w.heap.size w W) => hrep.keep (w' := W) (S' := fun b => b < W.heap.size) (fun b hb => hW.block b hb) (fun b hb => Nat.lt_of_lt_of_le hb hW.size))
  have MC := Lib.hid (fun (A : Option Addr) (c : Nat) W (hW : Below w.heap.size w W) (hc : m.len ≤ c) (hr : RpL W (fun b => b < W.heap.size) m A) => (made_c m A c W hcost hd hs hc hr).mono (R' := fun e w' => PRowC w m e w' ∧ Below w.heap.size w w') fun e w' h => by
    obtain ⟨sb, cb, he, h1, h2, h3⟩ := h
    exact ⟨⟨sb, cb, he, h1, h2.wide (fun b hb => ⟨by have := hW.size; omega, hb.2⟩), hW.trans (below_le' h3 hW.size)⟩, hW.trans (below_le' h3 hW.size)⟩)
  have TC := Lib.hid (there_c l.len (some ⟨b, o, none⟩) sc k w hk (by omega))
  have hdl : (l.drop (k + 1)).len = l.len - (k + 1) := VL.len_drop ..
  obtain ⟨o3, ho3⟩ : ∃ o3, (sc = k + 1 ∧ o3 = o) ∨ (¬ sc = k + 1 ∧ o3 = o + (k + 1) * 4) := by
    by_cases c : sc = k + 1
    · exact ⟨o, .inl ⟨c, rfl⟩⟩
    · exact ⟨o + (k + 1) * 4, .inr ⟨c, rfl⟩⟩
  obtain ⟨c3, hc3⟩ : ∃ c3, c3 = sc - (k + 1) := ⟨_, rfl⟩
  obtain ⟨pw, hpw⟩ : ∃ pw, pw = (w.alloc (.cells #[.slice (some ⟨b, o, none⟩) k sc, .slice (some ⟨b, o3, none⟩) (l.len - (k + 1) : Nat) c3] 22)).drew := ⟨_, rfl⟩
  have bpw : Below w.heap.size w pw := by rw [hpw]; exact ((Below.refl _ _).alloc (Nat.le_refl _) _).drew
  have zpw : pw.heap.size = w.heap.size + 1 := by rw [hpw]; show (w.alloc _).heap.size = _; simp
  have g2 : pw.heap[w.heap.size]? = some (.cells #[.slice (some ⟨b, o, none⟩) k sc, .slice (some ⟨b, o3, none⟩) (l.len - (k + 1) : Nat) c3] 22 (0, 0)) := by
    rw [hpw]
    show (w.alloc _).heap[_]? = _
    exact heap_alloc_new w _
  have CC := Lib.hid (concat2_c (l.take k) (l.drop (k + 1)) (some ⟨b, o, none⟩) (some ⟨b, o3, none⟩) sc c3 w pw w.heap.size 2 bpw (by omega)
    (by rw [take_vlen k l (by omega)]; exact cell_of_row pw _ 0 _ _ _ g2) (by rw [hdl]; exact cell_of_row pw _ 1 _ _ _ g2) (by intro h; cases h) (by intro h; cases h)
    ((RL.out pw bpw).take k l _)
    (by
      have := RpL.drop (k + 1) l b o (RL.out pw bpw)
      rw [Nat.mul_comm 4 (k + 1)] at this
      rcases ho3 with ⟨c, rfl⟩ | ⟨c, rfl⟩
      · have : l.drop (k + 1) = .nil := by
          cases h : l.drop (k + 1) with
          | nil => rfl
          | cons => rw [h] at hdl; have e2 : (VL.cons _ _ _ _ _).len = _ := hdl; rw [VL.len] at e2; omega
        rw [this]
        trivial
      · exact this) (by rw [← hm]; exact hml))
  rw [← hm] at CC
  clear hm
  have k0 : (0 : Int) ≤ (k : Int) := by omega
  have k1 : (k : Int) + 1 ≤ (l.len : Int) := by omega
  have k2 : (k : Int) ≤ (sc : Int) := by omega
  have k3 : (l.len : Int) ≤ (sc : Int) := by omega
  have k4 : (k : Int) + 1 - 1 = (k : Int) := by omega
  have k5 : (k : Int) ≤ (l.len : Int) := by omega
  have k7 : (0 : Int) ≤ (k : Int) + 1 := by omega
  have k8 : ((k : Int) + 1).toNat = k + 1 := by omega
  have k11 : (k : Int) ≤ (k : Int) + 1 := by omega
  have k12 : (k : Int) ≤ ((k + 1 : Nat) : Int) := by omega
  have k13 : ¬ ((k : Int) + 1 < (k : Int)) := by omega
  have k10 : IntKind.i64.wrap (k : Int) = (k : Int) := IntWalk.i64_in _ ⟨by omega, by omega⟩
  have k9 : IntKind.i64.wrap ((k : Int) + 1 - 1) = (k : Int) := by rw [k4]; exact IntWalk.i64_in _ ⟨by omega, by omega⟩
  rw [hpw] at CC
  have k6 : (k : Int) + 1 ≤ (sc : Int) := by omega
  have HZP := Lib.hid zpw
  clear hrep bpw g2 hpw hdl zpw hd hs hcost
  rcases ho3 with ⟨hck, rfl⟩ | ⟨hck, rfl⟩
  · have h0 : c3 = 0 := by omega
    clear hc3
    subst h0
    rw [hck] at CC TC
    go_enter Tryz.func102, Tryz.ntmps102
    go_wp2_with fail
    refine TC.out.mono ?_
    rintro e w' ⟨rfl, hw⟩
    subst hw
    go_upto_region 3 with fail
    go_region_held3 (fun W => True)
      (exact True.intro)
      (first
        | (go_at_call 157; refine CC.out.mono ?_; rintro e w' ⟨sb, cb, rfl, hcb, hrb, hbb⟩)
        | (go_at_call 156; refine (MC.out _ _ _ ?_ ?_ ?_).mono ?_; assumption; assumption; assumption; rintro e w' ⟨⟨sb2, cb2, rfl, hcb2, hrb2, hb2⟩, hbb2⟩))
    all_goals
      go_wp2_with fail
      go_ret2
      exact ⟨sb2, cb2, rfl, by assumption, by assumption, by assumption⟩
  · subst hc3
    go_enter Tryz.func102, Tryz.ntmps102
    go_wp2_with fail
    refine TC.out.mono ?_
    rintro e w' ⟨rfl, hw⟩
    subst hw
    go_upto_region 3 with fail
    go_region_held3 (fun W => True)
      (exact True.intro)
      (first
        | (go_at_call 157; refine CC.out.mono ?_; rintro e w' ⟨sb, cb, rfl, hcb, hrb, hbb⟩)
        | (go_at_call 156; refine (MC.out _ _ _ ?_ ?_ ?_).mono ?_; assumption; assumption; assumption; rintro e w' ⟨⟨sb2, cb2, rfl, hcb2, hrb2, hb2⟩, hbb2⟩))
    all_goals
      go_wp2_with fail
      go_ret2
      exact ⟨sb2, cb2, rfl, by assumption, by assumption, by assumption⟩
end Go.Proofs.YtbalpfpcbckghaaGreatDoor
namespace Go.Proofs.YtbalpfpcbckghaaGreatDoor
open Go.RowKit Go.Lib Go.Sort Go.Shelf
set_option linter.unusedVariables false
set_option linter.unusedSimpArgs false

/-- Cells laid into a row. -/
def layC : Array Value → Nat → List Value → Array Value
  | cur, _, [] => cur
  | cur, o, v :: r => layC (cur.setIfInBounds o v) (o + 1) r
theorem layC_size : ∀ (vs : List Value) (o : Nat) (cur : Array Value), (layC cur o vs).size = cur.size
  | [], _, _ => rfl
  | v :: r, o, cur => by rw [layC, layC_size r]; simp
theorem layC_list : ∀ (vs : List Value) (o : Nat) (cur : Array Value), o + vs.length ≤ cur.size → (layC cur o vs).toList = cur.toList.take o ++ (vs ++ cur.toList.drop (o + vs.length))
  | [], o, cur, _ => by simp [layC]
  | v :: r, o, cur, h => by
    have h1 : o < cur.toList.length := by simp at h ⊢; omega
    have h2 : (cur.toList.take o).length = o := by rw [List.length_take]; omega
    rw [layC, layC_list r (o + 1) _ (by simp at h ⊢; omega), Array.toList_setIfInBounds, List.set_eq_take_append_cons_drop, if_pos h1, List.take_append, List.drop_append, h2]
    have e1 : o + 1 - o = 1 := by omega
    have e2 : o + 1 + r.length - o = r.length + 1 := by omega
    have e3 : o + 1 + (r.length) = o + (r.length + 1) := by omega
    rw [e1, e2, List.take_of_length_le (l := cur.toList.take o) (by omega), List.drop_of_length_le (l := cur.toList.take o) (by omega)]
    simp only [List.take_succ_cons, List.take_zero, List.drop_succ_cons, List.drop_drop, List.length_cons, List.nil_append, List.append_assoc, List.cons_append]
    rw [show o + (r.length + 1) = o + 1 + r.length from by omega]
theorem heap_layC (g t : Nat) : ∀ (vs : List Value) (o : Nat) (w : World) (cur : Array Value), w.heap[g]? = some (.cells cur t (0, 0)) → (w.setCells g o vs).heap[g]? = some (.cells (layC cur o vs) t (0, 0))
  | [], _, _, _, h => h
  | v :: r, o, w, cur, h => heap_layC g t r (o + 1) _ _ (heap_setCell_same w g o _ _ _ h)
theorem CellsOf.takeC {w : World} {S : Nat → Prop} : ∀ (i : Nat) (l : VL) (xs : List Value), CellsOf w S l xs → CellsOf w S (l.take i) (xs.take (i * 4))
  | 0, l, xs, _ => by rw [VL.take, Nat.zero_mul, List.take_zero]; rfl
  | i + 1, .nil, xs, h => by
    have h : xs = [] := h
    rw [h, List.take_nil]; rfl
  | i + 1, .cons k n s sub r, xs, ⟨sa, sc, ys, hx, hc, hs, hr⟩ => by
    refine ⟨sa, sc, ys.take (i * 4), ?_, hc, hs, CellsOf.takeC i r ys hr⟩
    rw [hx, show (i + 1) * 4 = i * 4 + 1 + 1 + 1 + 1 by omega]
    simp only [List.take_succ_cons]
theorem CellsOf.dropC {w : World} {S : Nat → Prop} : ∀ (i : Nat) (l : VL) (xs : List Value), CellsOf w S l xs → CellsOf w S (l.drop i) (xs.drop (i * 4))
  | 0, l, xs, h => by rw [VL.drop, Nat.zero_mul, List.drop_zero]; exact h
  | i + 1, .nil, xs, h => by
    have h : xs = [] := h
    rw [h, List.drop_nil]; rfl
  | i + 1, .cons k n s sub r, xs, ⟨sa, sc, ys, hx, hc, hs, hr⟩ => by
    rw [hx, show (i + 1) * 4 = i * 4 + 1 + 1 + 1 + 1 by omega]
    simp only [List.drop_succ_cons]
    exact CellsOf.dropC i r ys hr
/-- A value laid into a row of the call's own. -/
theorem own_put {w : World} {base n cap g k : Nat} {xs vs : List Value} {t : TypeId} (h : w.ownsRow base t 4 (.slice (some ⟨g, 0, none⟩) n cap) n xs) (hk : k < n) (hv : vs.length = 4) :
    (w.setCells g (k * 4) vs).ownsRow base t 4 (.slice (some ⟨g, 0, none⟩) n cap) n (xs.take (k * 4) ++ (vs ++ xs.drop ((k + 1) * 4))) := by
  obtain ⟨hl, ⟨e, _⟩ | ⟨g', cap', cur, e, hB, hg, hn, hc, hz, hx⟩⟩ := h
  · cases e
  · injection e with e1 e2 e3
    injection e1 with e1
    injection e1 with e1 _ _
    subst e1
    subst e3
    have hlen : cur.toList.length = cur.size := Array.length_toList
    have hl' : xs.length = n * 4 := hl
    refine ⟨?_, .inr ⟨g, cap, _, rfl, hB, heap_layC g t vs (k * 4) w cur hg, hn, hc, by rw [layC_size]; exact hz, ?_⟩⟩
    · rw [List.length_append, List.length_append, List.length_take, List.length_drop, hv, hl']; omega
    · rw [layC_list _ _ _ (by rw [hv]; omega), hv, ← hx]
      rw [List.take_append, List.length_take, List.take_append, hv, List.take_take, List.drop_take, List.take_take]
      rw [List.take_of_length_le (l := vs) (by omega), show min (n * 4) (k * 4) = k * 4 by omega, show min (k * 4) (n * 4) = k * 4 by omega, show n * 4 - min (k * 4) cur.toList.length - 4 = n * 4 - (k + 1) * 4 by omega, show k * 4 + 4 = (k + 1) * 4 by omega]
theorem below_setCells {B : Nat} {w wr : World} {g : Nat} (h : Below B w wr) (hg : B ≤ g) : ∀ (vs : List Value) (o : Nat), Below B w (wr.setCells g o vs) := by
  intro vs
  induction vs generalizing wr with
  | nil => intro o; exact h
  | cons v r ih => intro o; exact ih (h.setCell (p := ⟨g, o, none⟩) hg v) (o + 1)
set_option maxRecDepth 100000 in
set_option maxHeartbeats 4000000 in
theorem seqPut_c (l : VL) (b o : Nat) (sc : Nat) (k' n' : Int) (s' : ByteArray) (sub' : VL) (va : Option Addr) (vc : Nat) (k : Nat) (m : VL) (w : World) (hm : m = (l.take k).app (.cons k' n' s' sub' (l.drop (k + 1)))) (hk : k < l.len) (hcost : cost m ≤ 100000) (hlm : l.len ≤ 10000)
    (hd : 1 + vD m 0 ≤ 40) (hs : vS m 1 ≤ 4096) (hsc : l.len ≤ sc) (hvc : sub'.len ≤ vc) (hrep : RpL w (fun b => b < w.heap.size) l (some ⟨b, o, none⟩)) (hrv : RpL w (fun b => b < w.heap.size) sub' va) :
    Calls Tryz.prog 103 #[.slice (some ⟨b, o, none⟩) l.len sc, .int .i64 ((k : Int) + 1), .agg #[.int .i64 k', .int .i64 n', .string s', .slice va sub'.len vc]] w (PRowC w m) := by
  obtain ⟨i0, hi0, hz0, hz1, hz2⟩ := info_parts val_info
  have hml : m.len = l.len := by
    rw [hm, VL.len_app, take_vlen k l (by omega)]
    show k + ((l.drop (k + 1)).len + 1) = l.len
    rw [VL.len_drop]; omega
  obtain ⟨wa, hwa⟩ : ∃ wa, wa = w.alloc (.cells #[.int .i64 k', .int .i64 n', .string s', .slice va sub'.len vc] 24) := ⟨_, rfl⟩
  have hba : Below w.heap.size w wa := by rw [hwa]; exact (Below.refl _ _).alloc (Nat.le_refl _) _
  have hwz : wa.heap.size = w.heap.size + 1 := by rw [hwa]; simp
  have hV : StB wa w.heap.size (.int .i64 k') (.int .i64 n') (.string s') (.slice va sub'.len vc) := by rw [hwa]; exact StB.new w _ _ _ _
  have HV := Lib.hid hV
  have HB := Lib.hid hba
  have HWA := Lib.hid hwa
  have RVA := Lib.hid (hrv.keep (w' := wa) (S' := fun b => b < wa.heap.size) (fun b hb => hba.block b hb) (fun b hb => by omega))
  obtain ⟨xs, hx1, hx2⟩ := rep_cells l _ (hrep.keep (w' := wa) (S' := fun b => b < wa.heap.size) (fun b hb => hba.block b hb) (fun b hb => by omega))
  have HX1 := Lib.hid hx1
  have hxl := CellsOf.length l xs hx1
  have CC := Lib.hid (AnyE.slices_Clone Tryz.cloneV i0 _ 4 _ hi0 hz0 hz1 hz2 rfl (by decide) (fun w => Tryz.sizeOf24 w) b o l.len sc xs wa hxl (by unfold maxLen; omega) (by omega) (hx2 b o rfl) (CellsOf.one _ _ hx1))
  have MC := Lib.hid (fun (A : Option Addr) (c : Nat) W (hW : Below w.heap.size w W) (hc : m.len ≤ c) (hr : RpL W (fun b => b < W.heap.size) m A) => (made_c m A c W hcost hd hs hc hr).mono (R' := fun e w' => PRowC w m e w') fun e w' h => by
    obtain ⟨sb, cb, he, h1, h2, h3⟩ := h
    exact ⟨sb, cb, he, h1, h2.wide (fun b hb => ⟨by have := hW.size; omega, hb.2⟩), hW.trans (below_le' h3 hW.size)⟩)
  have TC := Lib.hid (there_c l.len (some ⟨b, o, none⟩) sc k wa hk (by omega))
  have HM := Lib.hid hm
  have k0 : (0 : Int) ≤ (k : Int) := by omega
  have k1 : (k : Int) < (l.len : Int) := by omega
  have k4 : (k : Int) + 1 - 1 = (k : Int) := by omega
  have kw : IntKind.i64.wrap ((k : Int) + 1 - 1) = (k : Int) := by rw [k4]; exact IntWalk.i64_in _ ⟨by omega, by omega⟩
  clear hrep hrv hwa hba hx1 hx2 hV hm hi0 hz0 hz1 hz2
  go_enter Tryz.func103, Tryz.ntmps103
  go_wp2_with fail
  rw [← HWA.out]
  refine TC.out.mono ?_
  rintro e w' ⟨rfl, hw⟩
  subst hw
  go_wp2_with fail
  refine CC.out.mono ?_
  rintro e w3 ⟨V, rfl, hown, -, hb3⟩
  have hz3 := hb3.size
  obtain ⟨hl3, ⟨rfl, h0⟩ | ⟨g, cap, cur, rfl, hBg, hg, hnc, hcm, hcz, htk⟩⟩ := id hown
  · omega
  have HO := Lib.hid (own_put (k := k) (vs := [.int .i64 k', .int .i64 n', .string s', .slice va sub'.len vc]) hown hk rfl)
  have hVb := HV.out.below hb3 (by omega)
  have v0 := hVb.c0; have v1 := hVb.c1; have v2 := hVb.c2; have v3 := hVb.c3
  have cl : ∀ c, c < 4 → ∃ u, w3.cell? ⟨g, k * 4 + c, none⟩ = some u := fun c hc => by
    have hlt : k * 4 + c < cur.size := by omega
    exact ⟨cur[k * 4 + c], by rw [cell_of_row w3 g _ cur _ _ hg]; exact Array.getElem?_eq_getElem hlt⟩
  obtain ⟨u0, z0⟩ := cl 0 (by omega)
  rw [Nat.add_zero] at z0
  obtain ⟨u1, z1⟩ := cl 1 (by omega)
  obtain ⟨u2, z2⟩ := cl 2 (by omega)
  obtain ⟨u3, z3⟩ := cl 3 (by omega)
  have f0 := frozen_of_row w3 g (k * 4) _ _ hg
  have f1 := frozen_of_row w3 g (k * 4 + 1) _ _ hg
  have f2 := frozen_of_row w3 g (k * 4 + 2) _ _ hg
  have f3 := frozen_of_row w3 g (k * 4 + 3) _ _ hg
  have HB3 := Lib.hid (HB.out.trans (below_le' hb3 (by omega)))
  have HBA := Lib.hid hb3
  clear hown hg hcz htk cl hVb
  obtain ⟨wS, hwS⟩ : ∃ wS, wS = w3.setCells g (k * 4) [.int .i64 k', .int .i64 n', .string s', .slice va sub'.len vc] := ⟨_, rfl⟩
  have hbS : Below wa.heap.size wa wS := by rw [hwS]; exact below_setCells HBA.out hBg _ _
  have hzS := hbS.size
  have RP : RpL wS (fun b => b < wS.heap.size) m (some ⟨g, 0, none⟩) := by
    have hO := HO.out
    rw [← hwS] at hO
    have hgz : g < wS.heap.size := by
      rcases hO.2 with ⟨e, _⟩ | ⟨g', _, _, e, _, hh, _⟩
      · cases e
      · injection e with e
        injection e with e
        injection e with e
        rw [e]
        exact (Array.getElem?_eq_some_iff.1 hh).1
    have hC := HX1.out.keep (w' := wS) (S' := fun b => b < wS.heap.size) (fun b hb => hbS.block b hb) (fun b hb => by omega)
    have hCm : CellsOf wS (fun b => b < wS.heap.size) m (xs.take (k * 4) ++ ([.int .i64 k', .int .i64 n', .string s', .slice va sub'.len vc] ++ xs.drop ((k + 1) * 4))) := by
      rw [HM.out]
      exact CellsOf.app _ _ _ _ (CellsOf.takeC k l xs hC) ⟨va, vc, _, rfl, hvc, RVA.out.keep (fun b hb => hbS.block b hb) (fun b hb => by omega), CellsOf.dropC (k + 1) l xs hC⟩
    rw [← hml] at hO
    obtain ⟨sb, cb, e, _, r⟩ := own_rep hO hCm (S := fun b => b < wS.heap.size) (fun g' hg' => by
      have : g' = g := by
        injection hg' with e
        exact e.symm
      rw [this]; exact hgz)
    injection e with e1 e2 e3
    rw [e1]; exact r
  have MS := MC.out (some ⟨g, 0, none⟩) cap wS (HB.out.trans (below_le' hbS (by omega))) (by omega) RP
  rw [hml] at MS
  have MSH := Lib.hid MS
  have HWS := Lib.hid hwS
  clear RP MS hbS hwS MC HO
  go_wp2_with fail
  show Calls Tryz.prog 156 _ (w3.setCells g (k * 4) [.int .i64 k', .int .i64 n', .string s', .slice va sub'.len vc]) _
  rw [← HWS.out]
  refine MSH.out.mono ?_
  rintro e w' ⟨sb2, cb2, rfl, hcb2, hrb2, hb2⟩
  have HH := Lib.hid (And.intro hcb2 (And.intro hrb2 hb2))
  clear hcb2 hrb2 hb2 v0 v1 v2 v3 z0 z1 z2 z3 f0 f1 f2 f3
  go_wp2_with fail
  go_ret2
  exact ⟨sb2, cb2, by rw [hml]; rfl, HH.out.1, HH.out.2.1, HH.out.2.2⟩
end Go.Proofs.YtbalpfpcbckghaaGreatDoor
namespace Go.Proofs.YtbalpfpcbckghaaGreatDoor
open Go.RowKit Go.Lib
set_option linter.unusedVariables false
set_option linter.unusedSimpArgs false

/-- The functions that fun.call answers by itself. -/
def ownNames : List (List UInt8) := [[116, 121, 112, 101, 111, 102], [108, 101, 110, 103, 116, 104], [116, 111, 115, 116, 114], [116, 111, 108, 105, 116, 101, 114, 97, 108], [116, 111, 105, 110, 116], [116, 111, 111, 98, 106], [101, 113, 117, 97, 108], [115, 105, 122, 101], [97, 98, 115], [109, 105, 110], [109, 97, 120], [119, 111, 114, 100, 115], [106, 111, 105, 110]]
set_option maxRecDepth 100000 in
set_option maxHeartbeats 4000000 in
theorem call_lists (nm : ByteArray) (L : List UInt8) (hnm : nm.data.toList = L) (hL : ∀ x ∈ ownNames, L ≠ x) (g N c : Nat) (k n : Int) (s : ByteArray) (sub : VL) (w : World) (hN : 0 < N) (hNc : N ≤ c) (hN1 : N ≤ 100000) (hg : g < w.heap.size)
    (hk : w.cell? ⟨g, 0, none⟩ = some (.int .i64 4)) (LC : ∀ W, Below w.heap.size w W → Calls Tryz.prog 66 #[.string nm, .slice (some ⟨g, 0, none⟩) N c] W (PValC W k n s sub 0)) :
    Calls Tryz.prog 34 #[.string nm, .slice (some ⟨g, 0, none⟩) N c] w (PValC w k n s sub 0) := by
  obtain ⟨wa, hwa⟩ : ∃ wa, wa = w.alloc (.cells #[.int .i64 0, .int .i64 0, .string ⟨#[]⟩, .slice none 0 0] 24) := ⟨_, rfl⟩
  have hb : Below w.heap.size w wa := by rw [hwa]; exact (Below.refl _ _).alloc (Nat.le_refl _) _
  have hza : wa.heap.size = w.heap.size + 1 := by rw [hwa]; simp
  have hR : StB wa w.heap.size (.int .i64 0) (.int .i64 0) (.string ⟨#[]⟩) (.slice none 0 0) := by rw [hwa]; exact StB.new w _ _ _ _
  have x0 := (hb.cell (p := ⟨g, 0, none⟩) hg).trans hk
  rw [hwa] at x0
  have TC := Lib.hid (LC wa hb)
  have HB := Lib.hid hb
  have HR := Lib.hid hR
  have HWA := Lib.hid hwa
  have k2 : ((0 : Int) < (N : Int)) := by omega
  have qtypeof := nmF hnm [116, 121, 112, 101, 111, 102] (hL _ (by decide))
  have qlength := nmF hnm [108, 101, 110, 103, 116, 104] (hL _ (by decide))
  have qtostr := nmF hnm [116, 111, 115, 116, 114] (hL _ (by decide))
  have qtoliteral := nmF hnm [116, 111, 108, 105, 116, 101, 114, 97, 108] (hL _ (by decide))
  have qtoint := nmF hnm [116, 111, 105, 110, 116] (hL _ (by decide))
  have qtoobj := nmF hnm [116, 111, 111, 98, 106] (hL _ (by decide))
  have qequal := nmF hnm [101, 113, 117, 97, 108] (hL _ (by decide))
  have qsize := nmF hnm [115, 105, 122, 101] (hL _ (by decide))
  have qabs := nmF hnm [97, 98, 115] (hL _ (by decide))
  have qmin := nmF hnm [109, 105, 110] (hL _ (by decide))
  have qmax := nmF hnm [109, 97, 120] (hL _ (by decide))
  have qwords := nmF hnm [119, 111, 114, 100, 115] (hL _ (by decide))
  have qjoin := nmF hnm [106, 111, 105, 110] (hL _ (by decide))
  clear hb hR hwa hnm hL LC hk
  go_enter Tryz.func34, Tryz.ntmps34
  go_wp2_with fail
  rw [← HWA.out]
  refine TC.out.mono ?_
  rintro e w2 ⟨sa2, sc2, rfl, hsc2, hr2, hb2⟩
  have hr5 := HR.out.below hb2 (by omega)
  have z0 := hr5.c0; have z1 := hr5.c1; have z2 := hr5.c2; have z3 := hr5.c3; have f0 := hr5.fr 0; have f1 := hr5.fr 1; have f2 := hr5.fr 2; have f3 := hr5.fr 3
  have HF := Lib.hid (valC_end (w := w) (k := k) (n := n) (s := s) 0 (Nat.le_refl _) (HB.out.trans (below_le' hb2 HB.out.size)) hr5 hsc2 (hr2.wide (fun c hc => ⟨by omega, by omega, hc.2⟩)))
  clear hr5 hb2 hr2
  go_wp2_with fail
  refine ret_cell4_tmp Tryz.results34 w.heap.size rfl rfl HF.out.1 ?_
  exact HF.out.2
end Go.Proofs.YtbalpfpcbckghaaGreatDoor
