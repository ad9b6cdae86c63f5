/- Contracts of the functions that the statement reaches, and the plain mathematics beneath: several texts joined. -/
import Derived.IntWalk
import Derived.Shelf.SlSortCmp.KitK
import Derived.Shelf.SlSortCmp.QuietGrown
import Derived.Sort.WalkB2
import Derived.Sort.WalkB12
import Derived.Deep.LoopGhost
import Derived.Test.YtbalpfpcbckghaaGreatDoorFlsAE
import Derived.Test.YtbalpfpcbckghaaGreatDoorFlsAD
import Derived.Test.YtbalpfpcbckghaaGreatDoorShelf
import Derived.Test.YtbalpfpcbckghaaGreatDoorFlsAB
namespace Go.Proofs.YtbalpfpcbckghaaGreatDoor
open Go.RowKit Go.Lib
set_option linter.unusedVariables false
set_option linter.unusedSimpArgs false

/-- Nothing that was there has turned, and no draw is given back. -/
structure Grw (w w' : World) : Prop where
  below : Below w.heap.size w w'
  drawn : w.drawn ≤ w'.drawn
theorem Grw.refl (w : World) : Grw w w := ⟨Below.refl _ _, Nat.le_refl _⟩
theorem Grw.trans {a b c : World} (h : Grw a b) (k : Grw b c) : Grw a c := ⟨h.below.trans (k.below.mono h.below.size), Nat.le_trans h.drawn k.drawn⟩
theorem Grw.alloc {a b : World} (h : Grw a b) (o : Obj) : Grw a (b.alloc o) := ⟨h.below.alloc h.below.size o, h.drawn⟩
theorem Grw.drew {a b : World} (h : Grw a b) : Grw a b.drew := ⟨h.below.drew, Nat.le_succ_of_le h.drawn⟩
/-- Kinds that are few. -/
def kfew : VL → Prop
  | .nil => True
  | .cons k _ _ sub r => (0 ≤ k ∧ k ≤ 100) ∧ kfew sub ∧ kfew r
theorem kfew_drop : ∀ (i : Nat) (l : VL), kfew l → kfew (l.drop i)
  | 0, l, h => by rw [VL.drop]; exact h
  | i + 1, .nil, _ => by rw [VL.drop]; trivial
  | i + 1, .cons _ _ _ _ r, h => by rw [VL.drop]; exact kfew_drop i r h.2.2
/-- Two values: which is ahead. -/
def cmp1 (k n : Int) (s : ByteArray) (a : VL) (k' n' : Int) (s' : ByteArray) (a' : VL) : Int :=
  if k ≠ k' then k - k' else if n < n' then -1 else if n' < n then 1
    else if compareBytes s.data.toList s'.data.toList ≠ 0 then compareBytes s.data.toList s'.data.toList else cmpF a a'
theorem cmpF_cons (k n : Int) (s : ByteArray) (a r : VL) (k' n' : Int) (s' : ByteArray) (a' r' : VL) : cmpF (.cons k n s a r) (.cons k' n' s' a' r') = if cmp1 k n s a k' n' s' a' ≠ 0 then cmp1 k n s a k' n' s' a' else cmpF r r' := by
  rw [cmpF]
  unfold cmp1
  by_cases c1 : k ≠ k'
  · rw [if_pos c1, if_pos c1, if_pos (by omega)]
  · rw [if_neg c1, if_neg c1]
    by_cases c2 : n < n'
    · rw [if_pos c2, if_pos c2, if_pos (by omega)]
    · rw [if_neg c2, if_neg c2]
      by_cases c3 : n' < n
      · rw [if_pos c3, if_pos c3, if_pos (by omega)]
      · rw [if_neg c3, if_neg c3]
        by_cases c4 : compareBytes s.data.toList s'.data.toList ≠ 0
        · rw [if_pos c4, if_pos c4, if_pos c4]
        · rw [if_neg c4, if_neg c4]
def CmpC (N : Nat) : Prop := ∀ (k n : Int) (s : ByteArray) (a : VL) (sa : Option Addr) (ca : Nat) (k' n' : Int) (s' : ByteArray) (a' : VL) (sa' : Option Addr) (ca' : Nat) (w : World), a.size < N →
  (0 ≤ k ∧ k ≤ 100) → (0 ≤ k' ∧ k' ≤ 100) → kfew a → kfew a' → a.len ≤ 140737488351232 → a'.len ≤ 140737488351232 → a.fit → a'.fit → a.len ≤ ca → a'.len ≤ ca' → RpL w (fun b => b < w.heap.size) a sa → RpL w (fun b => b < w.heap.size) a' sa' →
    Calls Tryz.prog 211 #[.agg #[.int .i64 k, .int .i64 n, .string s, .slice sa a.len ca], .agg #[.int .i64 k', .int .i64 n', .string s', .slice sa' a'.len ca']] w fun e w' => e = .returned (.int .i64 (cmp1 k n s a k' n' s' a')) ∧ Grw w w'

set_option maxRecDepth 100000 in
set_option maxHeartbeats 4000000 in
theorem cmp_step (N : Nat) (ih : ∀ N', N' < N → CmpC N') : CmpC N := by
  intro k n s a sa ca k' n' s' a' sa' ca' w hN hk hk' hka hka' hla hla' hfa hfa' hc hc' hr hr'
  obtain ⟨w2, hw2⟩ : ∃ w2, w2 = (w.alloc (.cells #[.int .i64 k, .int .i64 n, .string s, .slice sa a.len ca] 24)).alloc (.cells #[.int .i64 k', .int .i64 n', .string s', .slice sa' a'.len ca'] 24) := ⟨_, rfl⟩
  have hg2 : Grw w w2 := by rw [hw2]; exact ((Grw.refl _).alloc _).alloc _
  have hz2 : w2.heap.size = w.heap.size + 2 := by rw [hw2]; simp
  have gp : w2.heap[w.heap.size]? = some (.cells #[.int .i64 k, .int .i64 n, .string s, .slice sa a.len ca] 24 (0, 0)) := by
    rw [hw2]
    exact (Below.heap_alloc _ _ _ (by simp)).trans (heap_alloc_new w _)
  have gq : w2.heap[w.heap.size + 1]? = some (.cells #[.int .i64 k', .int .i64 n', .string s', .slice sa' a'.len ca'] 24 (0, 0)) := by
    rw [hw2]
    have := heap_alloc_new (w.alloc (.cells #[.int .i64 k, .int .i64 n, .string s, .slice sa a.len ca] 24)) (.cells #[.int .i64 k', .int .i64 n', .string s', .slice sa' a'.len ca'] 24)
    simpa using this
  have p0 := cell_of_row w2 _ 0 _ _ _ gp
  have p1 := cell_of_row w2 _ 1 _ _ _ gp
  have p2 := cell_of_row w2 _ 2 _ _ _ gp
  have p3 := cell_of_row w2 _ 3 _ _ _ gp
  have q0 := cell_of_row w2 _ 0 _ _ _ gq
  have q1 := cell_of_row w2 _ 1 _ _ _ gq
  have q2 := cell_of_row w2 _ 2 _ _ _ gq
  have q3 := cell_of_row w2 _ 3 _ _ _ gq
  have KP := Lib.hid (show ∀ W, Below w2.heap.size w2 W → W.cell? ⟨w.heap.size, 3, none⟩ = some (.slice sa a.len ca) ∧ W.cell? ⟨w.heap.size + 1, 3, none⟩ = some (.slice sa' a'.len ca') from fun W hW =>
    ⟨cell_of_row W _ 3 _ _ _ ((hW.block _ (by omega)).trans gp), cell_of_row W _ 3 _ _ _ ((hW.block _ (by omega)).trans gq)⟩)
  have HG2 := Lib.hid hg2
  have HW2 := Lib.hid hw2
  have HZ2 := Lib.hid hz2
  have R1 := Lib.hid (hr.keep (w' := w2) (fun b hb => hg2.below.block b hb) (fun b hb => hb))
  have R2 := Lib.hid (hr'.keep (w' := w2) (fun b hb => hg2.below.block b hb) (fun b hb => hb))
  have HK1 := Lib.hid hka
  have HK2 := Lib.hid hka'
  have HF1 := Lib.hid hfa
  have HF2 := Lib.hid hfa'
  clear hg2 hz2 gp gq hw2 hr hr' hka hka' hfa hfa'
  go_enter Tryz.func211, Tryz.ntmps211
  go_upto_region 1 with fail
  rw [← HW2.out]
  by_cases c1 : k = k'
  · subst c1
    by_cases c2 : n < n'
    · have HR := Lib.hid (show cmp1 k n s a k n' s' a' = -1 by unfold cmp1; rw [if_neg (by simp), if_pos c2])
      go_wp2_with fail
      go_ret
      exact ⟨ret_int HR.out.symm, HG2.out⟩
    · by_cases c3 : n' < n
      · have HR := Lib.hid (show cmp1 k n s a k n' s' a' = 1 by unfold cmp1; rw [if_neg (by simp), if_neg c2, if_pos c3])
        go_wp2_with fail
        go_ret
        exact ⟨ret_int HR.out.symm, HG2.out⟩
      · obtain ⟨r, hr⟩ : ∃ r, r = compareBytes s.data.toList s'.data.toList := ⟨_, rfl⟩
        have CS := Lib.hid (fun W => Tryz.strings_Compare s s' W)
        rw [← hr] at CS
        by_cases c4 : r = 0
        · have HR := Lib.hid (show cmp1 k n s a k n' s' a' = cmpF a a' by unfold cmp1; rw [if_neg (by simp), if_neg c2, if_neg c3, ← hr, if_neg (by omega)])
          rw [c4] at CS
          clear hr c4
          go_wp2_with fail
          refine (CS.out _).mono ?_
          rintro e w3 ⟨rfl, rfl⟩
          clear CS q0 q1 q2 p0 p1 p2
          go_wp2_with fail
          go_loopg [43] a.len (fun kk v wr => ∃ i : Nat, v = .int .i64 i ∧ i + kk = a.len ∧ i ≤ a'.len ∧ Hid (Grw w3 wr) ∧ Hid (cmpF (a.drop i) (a'.drop i) = cmpF a a'))
          case atStart => exact ⟨0, rfl, by omega, by omega, Grw.refl _, by show cmpF (a.drop 0) (a'.drop 0) = _; rw [VL.drop, VL.drop]⟩
          case round =>
            clear p3 q3
            obtain ⟨i, rfl, hik, hil, hgr, hcm⟩ := hrel
            obtain ⟨p3, q3⟩ := KP.out wr hgr.out.below
            have hwz := hgr.out.below.size
            by_cases hi : i < a.len
            · obtain ⟨g, rfl⟩ : ∃ g, gk = g + 1 := ⟨gk - 1, by omega⟩
              obtain ⟨b, o, k1, n1, s1, x1, xa1, xc1, hA1, hd1, hSb1, e0, e1, e2, e3, hcl1, hrs1, hsz1⟩ := rp_at (R1.out.keep (w' := wr) (fun b hb => hgr.out.below.block b (by have := HZ2.out; omega)) (fun b hb => hb)) hi
              obtain ⟨w5, hw5⟩ : ∃ w5, w5 = wr.alloc (.cells #[.int .i64 k1, .int .i64 n1, .string s1, .slice xa1 x1.len xc1] 24) := ⟨_, rfl⟩
              have hg5 : Grw w3 w5 := by rw [hw5]; exact hgr.out.alloc _
              have g5 : w5.heap[wr.heap.size]? = some (.cells #[.int .i64 k1, .int .i64 n1, .string s1, .slice xa1 x1.len xc1] 24 (0, 0)) := by rw [hw5]; exact heap_alloc_new wr _
              have HW5 := Lib.hid hw5
              have HG5 := Lib.hid hg5
              have HGB5 := Lib.hid g5
              have HD1 := Lib.hid hd1
              have HRS1 := Lib.hid hrs1
              have hd3 := (KP.out w5 hg5.below).2
              have y0 := cell_of_row w5 _ 0 _ _ _ g5
              have y1 := cell_of_row w5 _ 1 _ _ _ g5
              have y2 := cell_of_row w5 _ 2 _ _ _ g5
              have y3 := cell_of_row w5 _ 3 _ _ _ g5
              subst hA1
              clear hw5 hg5 g5 hd1 hrs1
              go_upto_region 13 with fail
              rw [← HW5.out]
              clear e0 e1 e2 e3 p3 q3
              by_cases hb : i = a'.len
              · have HR2 := Lib.hid (show cmpF a a' = 1 by rw [← hcm.out, HD1.out, hb, VL.drop_len]; rfl)
                subst hb
                go_wp2_with fail
                go_ret
                exact ⟨ret_int (by rw [HR.out, HR2.out]), HG2.out.trans HG5.out⟩
              · have hib : i < a'.len := by omega
                have hne : ((i : Int) == (a'.len : Int)) = false := by simp; omega
                obtain ⟨b', o', k2, n2, s2, x2, xa2, xc2, hA2, hd2, hSb2, f0, f1, f2, f3, hcl2, hrs2, hsz2⟩ := rp_at (R2.out.keep (w' := w5) (fun b hb => HG5.out.below.block b (by have := HZ2.out; omega)) (fun b hb => hb)) hib
                have hkd1 := kfew_drop i a HK1.out
                rw [HD1.out] at hkd1
                have hkd2 := kfew_drop i a' HK2.out
                rw [hd2] at hkd2
                have hfd1 := VL.fit_drop i a HF1.out
                rw [HD1.out] at hfd1
                have hfd2 := VL.fit_drop i a' HF2.out
                rw [hd2] at hfd2
                have hs5 := HG5.out.below.size
                have hwb5 : ∀ b, b < w.heap.size → w5.heap[b]? = wr.heap[b]? := fun b hb => by rw [HW5.out]; exact Below.heap_alloc _ _ _ (by have := HZ2.out; omega)
                have hz5 : w.heap.size ≤ w5.heap.size := by have := HZ2.out; omega
                have SV := Lib.hid (ih (x1.size + 1) (by omega) k1 n1 s1 x1 xa1 xc1 k2 n2 s2 x2 xa2 xc2 w5.drew (Nat.lt_succ_self _) hkd1.1 hkd2.1 hkd1.2.1 hkd2.2.1 hfd1.2.1 hfd2.2.1 hfd1.2.2.1 hfd2.2.2.1 hcl1 hcl2
                  (RpL.keep (w := wr) (w' := w5.drew) (S := fun b => b < w.heap.size) (S' := fun b => b < w5.drew.heap.size) (fun b hb => hwb5 b hb) (fun b hb => Nat.lt_of_lt_of_le hb hz5) _ _ HRS1.out)
                  (RpL.keep (w := w5) (w' := w5.drew) (S := fun b => b < w.heap.size) (S' := fun b => b < w5.drew.heap.size) (fun b hb => rfl) (fun b hb => Nat.lt_of_lt_of_le hb hz5) _ _ hrs2))
                obtain ⟨c, hc⟩ : ∃ c, c = cmp1 k1 n1 s1 x1 k2 n2 s2 x2 := ⟨_, rfl⟩
                rw [← hc] at SV
                have HCC := Lib.hid (show cmpF a a' = if c ≠ 0 then c else cmpF (a.drop (i + 1)) (a'.drop (i + 1)) by rw [← hcm.out, HD1.out, hd2, cmpF_cons, ← hc])
                have z0 : w5.drew.cell? ⟨wr.heap.size, 0, none⟩ = _ := y0
                have z1 : w5.drew.cell? ⟨wr.heap.size, 1, none⟩ = _ := y1
                have z2 : w5.drew.cell? ⟨wr.heap.size, 2, none⟩ = _ := y2
                have z3 : w5.drew.cell? ⟨wr.heap.size, 3, none⟩ = _ := y3
                have t3 : w5.drew.cell? ⟨w.heap.size + 1, 3, none⟩ = _ := hd3
                subst hA2
                have g0 : w5.drew.cell? ⟨b', o' + i * 4, none⟩ = _ := f0
                have g1 : w5.drew.cell? ⟨b', o' + i * 4 + 1, none⟩ = _ := f1
                have g2 : w5.drew.cell? ⟨b', o' + i * 4 + 2, none⟩ = _ := f2
                have g3 : w5.drew.cell? ⟨b', o' + i * 4 + 3, none⟩ = _ := f3
                clear hc hd2 hrs2 hkd1 hkd2 hfd1 hfd2 hwb5 hz5
                go_upto_region 15 with fail
                go_still_tail 6, (by kernel_rfl)
                change wpList _ _ _ _ _ w5.drew
                go_wp2_with fail
                refine SV.out.mono ?_
                rintro e w6 ⟨rfl, hg6⟩
                have HG6 := Lib.hid (HG5.out.drew.trans hg6)
                clear hg6 y0 y1 y2 y3 hd3 f0 f1 f2 f3 z0 z1 z2 z3 t3 g0 g1 g2 g3
                by_cases cz : c = 0
                · have HN := Lib.hid (show cmpF (a.drop (i + 1)) (a'.drop (i + 1)) = cmpF a a' by rw [HCC.out, if_neg (by omega)])
                  subst cz
                  go_wp2_with fail
                  go_roundg g
                  case measure => omega
                  case rel => exact ⟨i + 1, by go_num, by omega, by omega, HG6, HN⟩
                · have HN := Lib.hid (show cmpF a a' = c by rw [HCC.out, if_pos cz])
                  go_wp2_with fail
                  go_ret
                  exact ⟨ret_int (by rw [HR.out, HN.out]), HG2.out.trans HG6.out⟩
            · obtain rfl : i = a.len := by omega
              have hln : ((a'.drop a.len).len : Int) = (a'.len : Int) - (a.len : Int) := by rw [VL.len_drop]; omega
              have HN := Lib.hid (show cmpF a a' = (a.len : Int) - (a'.len : Int) by rw [← hcm.out, VL.drop_len, cmpF, hln]; omega)
              have hwr : IntKind.i64.wrap ((a.len : Int) - (a'.len : Int)) = (a.len : Int) - (a'.len : Int) := IntWalk.i64_in _ ⟨by omega, by omega⟩
              clear hln
              go_wp2_with fail
              go_ret
              exact ⟨ret_int (by rw [HR.out, HN.out]), HG2.out.trans hgr.out⟩
        · have HR := Lib.hid (show cmp1 k n s a k n' s' a' = r by unfold cmp1; rw [if_neg (by simp), if_neg c2, if_neg c3, ← hr, if_pos c4])
          clear hr
          go_wp2_with fail
          refine (CS.out _).mono ?_
          rintro e w3 ⟨rfl, rfl⟩
          clear CS
          go_wp2_with fail
          go_ret
          exact ⟨ret_int HR.out.symm, HG2.out⟩
  · have HR := Lib.hid (show cmp1 k n s a k' n' s' a' = k - k' by unfold cmp1; rw [if_pos c1])
    have hwr : IntKind.i64.wrap (k - k') = k - k' := IntWalk.i64_in _ ⟨by omega, by omega⟩
    go_wp2_with fail
    go_ret
    exact ⟨ret_int HR.out.symm, HG2.out⟩
theorem cmp_c (N : Nat) : CmpC N := by
  induction N using Nat.strongRecOn with
  | _ N ih => exact cmp_step N ih
/-- A value as the sort holds it. -/
structure VE where
  k : Int
  n : Int
  s : ByteArray
  sub : VL
  sa : Option Addr
  sc : Nat
def VE.cells (x : VE) : List Value := [.int .i64 x.k, .int .i64 x.n, .string x.s, .slice x.sa x.sub.len x.sc]
/-- .. that lies below block B. -/
structure VE.Ok (w : World) (B : Nat) (x : VE) : Prop where
  k : 0 ≤ x.k ∧ x.k ≤ 100
  few : kfew x.sub
  len : x.sub.len ≤ 140737488351232
  fit : x.sub.fit
  cap : x.sub.len ≤ x.sc
  rep : RpL w (fun b => b < B) x.sub x.sa
theorem VE.Ok.keep {w w' : World} {x : VE} (h : x.Ok w w.heap.size) (hg : Grw w w') : x.Ok w' w'.heap.size :=
  ⟨h.k, h.few, h.len, h.fit, h.cap, h.rep.keep (fun b hb => hg.below.block b hb) (fun b hb => Nat.lt_of_lt_of_le hb hg.below.size)⟩
def cmpE (x y : VE) : Int := cmp1 x.k x.n x.s x.sub y.k y.n y.s y.sub
theorem less_c {x y : VE} {w : World} (hx : x.Ok w w.heap.size) (hy : y.Ok w w.heap.size) :
    Calls Tryz.prog 163 #[.agg x.cells.toArray, .agg y.cells.toArray] w fun e w' => e = .returned (.bool (decide (cmpE x y < 0))) ∧ Grw w w' := by
  obtain ⟨w2, hw2⟩ : ∃ w2, w2 = (w.alloc (.cells x.cells.toArray 24)).alloc (.cells y.cells.toArray 24) := ⟨_, rfl⟩
  have hg2 : Grw w w2 := by rw [hw2]; exact ((Grw.refl _).alloc _).alloc _
  have gp : w2.heap[w.heap.size]? = some (.cells x.cells.toArray 24 (0, 0)) := by
    rw [hw2]
    exact (Below.heap_alloc _ _ _ (by simp)).trans (heap_alloc_new w _)
  have gq : w2.heap[w.heap.size + 1]? = some (.cells y.cells.toArray 24 (0, 0)) := by
    rw [hw2]
    have := heap_alloc_new (w.alloc (.cells x.cells.toArray 24)) (.cells y.cells.toArray 24)
    simpa using this
  have SV := Lib.hid (cmp_c _ x.k x.n x.s x.sub x.sa x.sc y.k y.n y.s y.sub y.sa y.sc w2 (Nat.lt_succ_self _) hx.k hy.k hx.few hy.few hx.len hy.len hx.fit hy.fit hx.cap hy.cap (hx.rep.keep (fun b hb => hg2.below.block b hb) (fun b hb => Nat.lt_of_lt_of_le hb hg2.below.size)) (hy.rep.keep (fun b hb => hg2.below.block b hb) (fun b hb => Nat.lt_of_lt_of_le hb hg2.below.size)))
  have p0 := cell_of_row w2 _ 0 _ _ _ gp
  have p1 := cell_of_row w2 _ 1 _ _ _ gp
  have p2 := cell_of_row w2 _ 2 _ _ _ gp
  have p3 := cell_of_row w2 _ 3 _ _ _ gp
  have q0 := cell_of_row w2 _ 0 _ _ _ gq
  have q1 := cell_of_row w2 _ 1 _ _ _ gq
  have q2 := cell_of_row w2 _ 2 _ _ _ gq
  have q3 := cell_of_row w2 _ 3 _ _ _ gq
  obtain ⟨r, hr⟩ : ∃ r, r = cmpE x y := ⟨_, rfl⟩
  change Hid (Calls _ _ _ _ fun e w' => e = .returned (.int .i64 (cmpE x y)) ∧ Grw w2 w') at SV
  rw [← hr] at SV ⊢
  have HG2 := Lib.hid hg2
  have HW2 := Lib.hid hw2
  unfold VE.cells at *
  clear hg2 gp gq hw2 hr hx hy
  go_enter Tryz.func163, Tryz.ntmps163
  go_upto_region 1 with fail
  rw [← HW2.out]
  go_wp2_with fail
  refine SV.out.mono ?_
  rintro e w3 ⟨rfl, hg3⟩
  have HG3 := Lib.hid (HG2.out.trans hg3)
  clear hg3
  go_wp2_with fail
  go_ret
  exact ⟨rfl, HG3.out⟩
end Go.Proofs.YtbalpfpcbckghaaGreatDoor
namespace Go.Proofs.YtbalpfpcbckghaaGreatDoor
open Go.RowKit Go.Lib Go.Sort Go.Shelf
set_option linter.unusedVariables false
set_option linter.unusedSimpArgs false

theorem grow_of_grw {w w' : World} (h : Grw w w') : ∃ q os', w' = grow (w.drewN q) os' := by
  obtain ⟨⟨h1, h2, h3, h4, h5⟩, h6⟩ := h
  refine ⟨w'.drawn - w.drawn, w'.heap.extract w.heap.size w'.heap.size, ?_⟩
  have hh : w'.heap = w.heap ++ w'.heap.extract w.heap.size w'.heap.size := by
    apply Array.ext_getElem?
    intro i
    rw [Array.getElem?_append]
    by_cases c : i < w.heap.size
    · rw [if_pos c]
      exact h5 i c
    · rw [if_neg c, Array.getElem?_extract]
      by_cases c2 : i < w'.heap.size
      · rw [if_pos (by omega)]
        congr 1
        omega
      · rw [if_neg (by omega), Array.getElem?_eq_none (by omega)]
  cases w with
  | mk heap tape drawn os output =>
    cases w' with
    | mk heap' tape' drawn' os' output' =>
      simp only at h1 h2 h3 h6 hh
      subst h1 h2 h3
      unfold grow World.drewN
      simp only [World.mk.injEq, true_and, and_true]
      exact ⟨hh, by omega⟩
/-- What the sort's function answers. -/
def cfE (x y : VE) : Int := if cmpE x y < 0 then -1 else if cmpE y x < 0 then 1 else 0
set_option maxRecDepth 100000 in
set_option maxHeartbeats 2000000 in
theorem clos_c {x y : VE} {w : World} (hx : x.Ok w w.heap.size) (hy : y.Ok w w.heap.size) :
    Calls Tryz.prog 162 #[.agg x.cells.toArray, .agg y.cells.toArray] w fun e w' => e = .returned (.int .i64 (cfE x y)) ∧ Grw w w' := by
  obtain ⟨w2, hw2⟩ : ∃ w2, w2 = (w.alloc (.cells x.cells.toArray 24)).alloc (.cells y.cells.toArray 24) := ⟨_, rfl⟩
  have hg2 : Grw w w2 := by rw [hw2]; exact ((Grw.refl _).alloc _).alloc _
  have hz2 : w2.heap.size = w.heap.size + 2 := by rw [hw2]; simp
  have gp : w2.heap[w.heap.size]? = some (.cells x.cells.toArray 24 (0, 0)) := by
    rw [hw2]
    exact (Below.heap_alloc _ _ _ (by simp)).trans (heap_alloc_new w _)
  have gq : w2.heap[w.heap.size + 1]? = some (.cells y.cells.toArray 24 (0, 0)) := by
    rw [hw2]
    have := heap_alloc_new (w.alloc (.cells x.cells.toArray 24)) (.cells y.cells.toArray 24)
    simpa using this
  have KX := Lib.hid (fun W (hW : Grw w2 W) => hx.keep (hg2.trans hW))
  have KY := Lib.hid (fun W (hW : Grw w2 W) => hy.keep (hg2.trans hW))
  have L1 := Lib.hid (less_c (KX.out w2 (Grw.refl _)) (KY.out w2 (Grw.refl _)))
  have L2 := Lib.hid (fun W (hW : Grw w2 W) => less_c (KY.out W hW) (KX.out W hW))
  have KP := Lib.hid (show ∀ W, Grw w2 W → ∀ j, W.cell? ⟨w.heap.size, j, none⟩ = x.cells.toArray[j]? ∧ W.cell? ⟨w.heap.size + 1, j, none⟩ = y.cells.toArray[j]? from fun W hW j =>
    ⟨cell_of_row W _ j _ _ _ ((hW.below.block _ (by omega)).trans gp), cell_of_row W _ j _ _ _ ((hW.below.block _ (by omega)).trans gq)⟩)
  obtain ⟨p0, q0⟩ := KP.out w2 (Grw.refl _) 0
  obtain ⟨p1, q1⟩ := KP.out w2 (Grw.refl _) 1
  obtain ⟨p2, q2⟩ := KP.out w2 (Grw.refl _) 2
  obtain ⟨p3, q3⟩ := KP.out w2 (Grw.refl _) 3
  have HG2 := Lib.hid hg2
  have HW2 := Lib.hid hw2
  unfold cfE
  unfold VE.cells at *
  clear hg2 gp gq hw2 hx hy hz2
  by_cases c1 : cmpE x y < 0
  · rw [if_pos c1]
    rw [decide_eq_true c1] at L1
    clear c1
    go_enter Tryz.func162, Tryz.ntmps162
    go_upto_region 1 with fail
    rw [← HW2.out]
    go_wp2_with fail
    refine L1.out.mono ?_
    rintro e w3 ⟨rfl, hg3⟩
    have HG3 := Lib.hid (HG2.out.trans hg3)
    clear hg3
    go_wp2_with fail
    go_ret
    exact ⟨rfl, HG3.out⟩
  · rw [if_neg c1]
    rw [decide_eq_false c1] at L1
    clear c1
    obtain ⟨r, hr⟩ : ∃ r : Bool, r = decide (cmpE y x < 0) := ⟨_, rfl⟩
    rw [← hr] at L2
    have HR := Lib.hid (show (if cmpE y x < 0 then (1 : Int) else 0) = if r = true then 1 else 0 by rw [hr]; simp)
    rw [HR.out]
    clear hr HR
    go_enter Tryz.func162, Tryz.ntmps162
    go_upto_region 1 with fail
    rw [← HW2.out]
    go_wp2_with fail
    refine L1.out.mono ?_
    rintro e w3 ⟨rfl, hg3⟩
    have L3 := Lib.hid (L2.out w3 hg3)
    have HG3 := Lib.hid (HG2.out.trans hg3)
    clear p0 p1 p2 p3 q0 q1 q2 q3
    obtain ⟨p0, q0⟩ := KP.out w3 hg3 0
    obtain ⟨p1, q1⟩ := KP.out w3 hg3 1
    obtain ⟨p2, q2⟩ := KP.out w3 hg3 2
    obtain ⟨p3, q3⟩ := KP.out w3 hg3 3
    clear hg3 L2
    go_wp2_with fail
    refine L3.out.mono ?_
    rintro e w4 ⟨rfl, hg4⟩
    have HG4 := Lib.hid (HG3.out.trans hg4)
    clear hg4 p0 p1 p2 p3 q0 q1 q2 q3
    cases r with
    | true =>
      go_wp2_with fail
      go_ret
      exact ⟨rfl, HG4.out⟩
    | false =>
      go_wp2_with fail
      go_ret
      exact ⟨rfl, HG4.out⟩
end Go.Proofs.YtbalpfpcbckghaaGreatDoor
namespace Go.Proofs.YtbalpfpcbckghaaGreatDoor
open Go.RowKit Go.Lib Go.Sort Go.Shelf
set_option linter.unusedVariables false
set_option linter.unusedSimpArgs false

/-- A value whose items lie elsewhere than block blk. -/
structure VE.Away (w : World) (blk : Nat) (x : VE) : Prop where
  k : 0 ≤ x.k ∧ x.k ≤ 100
  few : kfew x.sub
  len : x.sub.len ≤ 140737488351232
  fit : x.sub.fit
  cap : x.sub.len ≤ x.sc
  rep : RpL w (fun b => b < w.heap.size ∧ b ≠ blk) x.sub x.sa
def VA (w : World) (blk : Nat) : Type := {x : VE // x.Away w blk}
instance (w : World) (blk : Nat) : Inhabited (VA w blk) := ⟨⟨⟨0, 0, ⟨#[]⟩, .nil, none, 0⟩, ⟨by show (0 : Int) ≤ 0 ∧ (0 : Int) ≤ 100; omega, trivial, by show 0 ≤ _; omega, trivial, Nat.le_refl _, trivial⟩⟩⟩
def encA {w : World} {blk : Nat} (x : VA w blk) : List Value := x.1.cells
def cfA {w : World} {blk : Nat} (x y : VA w blk) : Int := cfE x.1 y.1
theorem heap_sortK {α : Type} [Inhabited α] (enc : α → List Value) (k : Nat) (w : World) (blk off m : Nat) (dk : Array α) (os : Array Obj) (b : Nat) (h1 : b ≠ blk) (h2 : b < w.heap.size) : (sortWorldK enc k w blk off m dk os).heap[b]? = w.heap[b]? := by
  unfold sortWorldK grow putRowK putRow mapBlock
  show ((w.heap.modify blk _) ++ os)[b]? = _
  rw [Array.getElem?_append_left (by simpa using h2), Array.getElem?_modify, if_neg (by omega)]
theorem cmpLays_A {w : World} {blk off size : Nat} : CmpLays Tryz.prog 162 #[] (encA (w := w) (blk := blk)) 4 cfA blk off size w := by
  intro m os dk hdk x y
  have hx : ∀ z : VA w blk, z.1.Ok (sortWorldK encA 4 w blk off m dk os) (sortWorldK encA 4 w blk off m dk os).heap.size := fun z => ⟨z.2.k, z.2.few, z.2.len, z.2.fit, z.2.cap, z.2.rep.keep (fun b hb => heap_sortK _ _ _ _ _ _ _ _ _ hb.2 hb.1) (fun b hb => Nat.lt_of_lt_of_le hb.1 (size_sortWorldK_c _ _ _ _ _ _ _ _))⟩
  rw [Array.append_empty]
  refine (clos_c (hx x) (hx y)).mono ?_
  rintro e w' ⟨rfl, hg⟩
  exact ⟨rfl, grow_of_grw hg⟩
theorem cmpLays_on {w0 w : World} {blk off : Nat} {d : Array (VA w0 blk)} (hblk : blk < w0.heap.size) (S : SWK encA 4 w0 blk off d w) : CmpLays Tryz.prog 162 #[] (encA (w := w0) (blk := blk)) 4 cfA blk off d.size w := by
  intro m os dk hdk x y
  obtain ⟨n, os', e⟩ := S.on hblk m dk os hdk
  rw [e]
  exact cmpLays_A n os' dk hdk x y
theorem rowA {w : World} {blk off : Nat} {d : Array (VA w blk)} (hH : HoldsK encA 4 w blk off d) (hblk : blk < w.heap.size) : RowK encA 4 w blk off d :=
  ⟨fun _ => rfl, fun x v hv => by
    simp only [encA, VE.cells, List.mem_cons, List.not_mem_nil, or_false] at hv
    rcases hv with rfl | rfl | rfl | rfl <;> rfl, hH, hblk⟩
def VE.vl (x : VE) : VL := .cons x.k x.n x.s x.sub .nil
theorem cmpE_vl (x y : VE) : cmpE x y = cmpF x.vl y.vl := by
  unfold VE.vl cmpE
  rw [cmpF_cons, cmpF]
  split
  · rfl
  · rename_i h
    show _ = -((0 : Nat) : Int)
    omega
theorem ltOf_A {w : World} {blk : Nat} (x y : VA w blk) : ltOf cfA x y = ltV x.1.vl y.1.vl := by
  unfold ltOf cfA cfE ltV
  rw [cmpE_vl, cmpE_vl]
  by_cases h : cmpF x.1.vl y.1.vl < 0
  · rw [if_pos h]
    simp [h]
  · rw [if_neg h]
    split <;> simp [h]
theorem swoA {w : World} {blk : Nat} : SWO (ltOf (cfA (w := w) (blk := blk))) where
  irrefl x := by rw [ltOf_A]; exact swoV.irrefl _
  trans x y z h1 h2 := by
    rw [ltOf_A] at h1 h2 ⊢
    exact swoV.trans _ _ _ h1 h2
  ntrans x y z h1 h2 := by
    rw [ltOf_A] at h1 h2 ⊢
    exact swoV.ntrans _ _ _ h1 h2
def fnV : Value := .func (.func 162) #[] #[]
theorem ins_c {w0 w : World} {blk off cap a b : Nat} {d0 d : Array (VA w0 blk)} (R : RowK encA 4 w0 blk off d0) (hs : d.size = d0.size) (S : SWK encA 4 w0 blk off d w) (hab : a ≤ b) (hb : b ≤ d.size) (hsz : d.size < 4611686018427387904) :
    Calls Tryz.prog 231 #[.slice (some ⟨blk, off, none⟩) d.size cap, .int .i64 a, .int .i64 b, fnV] w fun e w' => e = .returned (.tuple #[]) ∧ SWK encA 4 w0 blk off (insertionSort (ltOf cfA) d a b) w' := by
  refine (AnyQ.insertionSortCmpFunc Tryz.insV 4 Tryz.isAgg24 Tryz.sizeOf24 encA R.hk R.h1 cfA 162 #[] blk off cap a b d w (enters_of Tryz.func162 (by kernel_rfl) rfl) (cmpLays_on R.hblk S) (S.holds R.hblk R.hH hs) (S.lt R.hblk) hab hb hsz).mono ?_
  rintro e w' ⟨rfl, n, os, rfl⟩
  exact ⟨rfl, S.on R.hblk n _ os (insertionSort_holds swoA d a b hab hb).1.1⟩
end Go.Proofs.YtbalpfpcbckghaaGreatDoor
namespace Go.Proofs.YtbalpfpcbckghaaGreatDoor
open Go.RowKit Go.Lib Go.Sort Go.Shelf
set_option linter.unusedVariables false
set_option linter.unusedSimpArgs false

/-- What a program that bears the sort's functions knows of their types. -/
structure LayV (P : Program) (k : Nat) : Prop where
  mixed : P.follows .mixedOrders = true
  t0 : P.underlying 0 = some (TypeDesc.tuple #[])
  a0 : ∀ w, (isAgg 0).run P w = .ok false w
  z0 : ∀ w, (Go.sizeOf 0).run P w = .ok 1 w
  v0 : ∀ w, (zeroValue 0).run P w = .ok (Value.tuple #[]) w
  t3 : P.underlying 3 = some (TypeDesc.int IntKind.i64)
  a3 : ∀ w, (isAgg 3).run P w = .ok false w
  z3 : ∀ w, (Go.sizeOf 3).run P w = .ok 1 w
  v3 : ∀ w, (zeroValue 3).run P w = .ok (Value.int IntKind.i64 0) w
  t4 : P.underlying 4 = some (TypeDesc.bool)
  a4 : ∀ w, (isAgg 4).run P w = .ok false w
  z4 : ∀ w, (Go.sizeOf 4).run P w = .ok 1 w
  v4 : ∀ w, (zeroValue 4).run P w = .ok (Value.bool false) w
  t22 : P.underlying 22 = some (TypeDesc.slice 24)
  a22 : ∀ w, (isAgg 22).run P w = .ok false w
  z22 : ∀ w, (Go.sizeOf 22).run P w = .ok 1 w
  v22 : ∀ w, (zeroValue 22).run P w = .ok (Value.slice none 0 0) w
  t90 : P.underlying 90 = some (TypeDesc.int IntKind.u64)
  a90 : ∀ w, (isAgg 90).run P w = .ok false w
  z90 : ∀ w, (Go.sizeOf 90).run P w = .ok 1 w
  v90 : ∀ w, (zeroValue 90).run P w = .ok (Value.int IntKind.u64 0) w
  t131 : P.underlying 131 = some (TypeDesc.func #[24, 24] #[3] false)
  a131 : ∀ w, (isAgg 131).run P w = .ok false w
  z131 : ∀ w, (Go.sizeOf 131).run P w = .ok 1 w
  v131 : ∀ w, (zeroValue 131).run P w = .ok Value.nilFunc w
  aE : ∀ w, (isAgg 24).run P w = .ok true w
  zE : ∀ w, (Go.sizeOf 24).run P w = .ok k w
theorem layV : LayV Tryz.prog 4 := ⟨by kernel_rfl, Tryz.underlying0, Tryz.isAgg0, Tryz.sizeOf0, Tryz.zeroValue0, Tryz.underlying3, Tryz.isAgg3, Tryz.sizeOf3, Tryz.zeroValue3, Tryz.underlying4, Tryz.isAgg4, Tryz.sizeOf4, Tryz.zeroValue4,
  Tryz.underlying22, Tryz.isAgg22, Tryz.sizeOf22, Tryz.zeroValue22, Tryz.underlying90, Tryz.isAgg90, Tryz.sizeOf90, Tryz.zeroValue90,
  Tryz.underlying131, Tryz.isAgg131, Tryz.sizeOf131, Tryz.zeroValue131, Tryz.isAgg24, Tryz.sizeOf24⟩
section
variable {P : Program} {α : Type} [Inhabited α] {enc : α → List Value} {k : Nat} {w0 w : World} {blk off : Nat} {d0 d : Array α}
set_option maxRecDepth 1000000 in
set_option maxHeartbeats 4000000 in
theorem swapR_g {cap a b n : Nat} {g : Nat} {cb : Array Value} (L : LayV P k) (FG : P.funcs[248]? = some Tryz.f248) (R : RowK enc k w0 blk off d0) (hs : d.size = d0.size) (S : SWK enc k w0 blk off d w) (ha : a + n ≤ d.size) (hb : b + n ≤ d.size) (hsz : d.size < 4611686018427387904) :
    Calls P 248 #[.slice (some ⟨blk, off, none⟩) d.size cap, .int .i64 a, .int .i64 b, .int .i64 n, .func (.func g) #[] cb] w fun e w' => e = .returned (.tuple #[]) ∧ SWK enc k w0 blk off (swapN a b n d) w' := by
  have mixed := L.mixed; have t0 := L.t0; have a0 := L.a0; have z0 := L.z0; have v0 := L.v0; have t3 := L.t3; have a3 := L.a3; have z3 := L.z3; have v3 := L.v3; have t4 := L.t4; have a4 := L.a4; have z4 := L.z4; have v4 := L.v4; have t22 := L.t22; have a22 := L.a22; have z22 := L.z22; have v22 := L.v22; have t131 := L.t131; have a131 := L.a131; have z131 := L.z131; have v131 := L.v131; have aE := L.aE; have zE := L.zE
  have S0 : Aside (SWK enc k w0 blk off d w) := S
  clear S L
  go_enter FG, Tryz.ntmps248
  go_wp2
  go_loopg [10] n (fun kk v wr => ∃ i : Nat, v = .int .i64 i ∧ i + kk = n ∧ Aside (SWK enc k w0 blk off (swapN a b i d) wr))
  case atStart => exact ⟨0, rfl, by omega, S0⟩
  case round =>
    clear S0
    obtain ⟨i, rfl, hik, S1⟩ := hrel
    have hz := swapN_size a b i d
    by_cases hi : i < n
    · obtain ⟨g, rfl⟩ : ∃ g, gk = g + 1 := ⟨gk - 1, by omega⟩
      have ea : ((a : Int) + (i : Int)).toNat = a + i := by omega
      have pa : (0 : Int) ≤ (a : Int) + (i : Int) := by omega
      have ba : (a : Int) + (i : Int) < (d.size : Int) := by omega
      have ra : IntKind.i64.wrap ((a : Int) + (i : Int)) = (a : Int) + (i : Int) := by rw [IntKind.wrap_i64]; omega
      have ec : ((b : Int) + (i : Int)).toNat = b + i := by omega
      have pc : (0 : Int) ≤ (b : Int) + (i : Int) := by omega
      have bc : (b : Int) + (i : Int) < (d.size : Int) := by omega
      have rc : IntKind.i64.wrap ((b : Int) + (i : Int)) = (b : Int) + (i : Int) := by rw [IntKind.wrap_i64]; omega
      have S2 : Aside (SWK enc k w0 blk off (swapN a b (i + 1) d) ((wr.drew.setCells blk (off + (a + i) * k) (enc (swapN a b i d)[b + i]!)).setCells blk (off + (b + i) * k) (enc (swapN a b i d)[a + i]!))) := S1.out.swapped R (a + i) (b + i) (by omega) (by omega)
      have l44a := S1.out.ld1 R (by omega) P (a + i) (by omega)
      have l44b := S1.out.ld1 R (by omega) P (b + i) (by omega)
      have s44a := S1.out.st1 R (by omega) P (a + i) (by omega) (swapN a b i d)[b + i]!
      have s44b := S1.out.st2 R (by omega) P (a + i) (b + i) (by omega) (by omega) (swapN a b i d)[b + i]! (swapN a b i d)[a + i]!
      have n44a : (enc (swapN a b i d)[a + i]!).length = k := R.hk _
      have n44b : (enc (swapN a b i d)[b + i]!).length = k := R.hk _
      generalize enc (swapN a b i d)[a + i]! = cI44 at S2 l44a s44b n44a
      generalize enc (swapN a b i d)[b + i]! = cJ44 at S2 l44b s44a s44b n44b
      clear S1
      go_wp2_with fail
      go_big_region_o
      clear l44a l44b s44a s44b
      generalize (wr.drew.setCells blk (off + (a + i) * k) cJ44).setCells blk (off + (b + i) * k) cI44 = w2 at S2 ⊢
      go_wp2_with fail
      go_roundg g
      case measure => omega
      case rel => exact ⟨i + 1, by go_num, by omega, S2⟩
    · obtain rfl : i = n := by omega
      go_wp2_with fail
      go_end0
      exact ⟨rfl, S1.out⟩
end
end Go.Proofs.YtbalpfpcbckghaaGreatDoor
namespace Go.Proofs.YtbalpfpcbckghaaGreatDoor
open Go.RowKit Go.Lib Go.Sort Go.Shelf
set_option linter.unusedVariables false
set_option linter.unusedSimpArgs false
section
variable {P : Program} {α : Type} [Inhabited α] {enc : α → List Value} {k : Nat} {w0 w : World} {blk off : Nat} {d0 d : Array α}
set_option maxRecDepth 1000000 in
set_option maxHeartbeats 4000000 in
theorem rot_g {cap a m b : Nat} {g : Nat} {cb : Array Value} (L : LayV P k) (FG : P.funcs[243]? = some Tryz.f243) (FS : P.funcs[248]? = some Tryz.f248)
    (R : RowK enc k w0 blk off d0) (hs : d.size = d0.size) (S : SWK enc k w0 blk off d w) (ha : a < m) (hm : m < b) (hb : b ≤ d.size) (hsz : d.size < 4611686018427387904) :
    Calls P 243 #[.slice (some ⟨blk, off, none⟩) d.size cap, .int .i64 a, .int .i64 m, .int .i64 b, .func (.func g) #[] cb] w fun e w' => e = .returned (.tuple #[]) ∧ SWK enc k w0 blk off (rotN m (b - a) (m - a) (b - m) d) w' := by
  have SR : Aside (∀ (dk : Array α) (wk : World) (x y n : Nat), dk.size = d.size → SWK enc k w0 blk off dk wk → x + n ≤ d.size → y + n ≤ d.size → Calls P 248 #[.slice (some ⟨blk, off, none⟩) d.size cap, .int .i64 x, .int .i64 y, .int .i64 n, .func (.func g) #[] cb] wk fun e w' => e = .returned (.tuple #[]) ∧ SWK enc k w0 blk off (swapN x y n dk) w') :=
    fun dk wk x y n h1 h2 h3 h4 => by
      have := swapR_g (cap := cap) (a := x) (b := y) (n := n) (g := g) (cb := cb) L FS R (h1.trans hs) h2 (by omega) (by omega) (by omega)
      rw [h1] at this
      exact this
  have ES : ∀ args w, (callFunc 248 args).run P w = .ok (.enter 248 args) w := enters_of FS (by kernel_rfl) rfl
  have mixed := L.mixed; have t0 := L.t0; have a0 := L.a0; have z0 := L.z0; have v0 := L.v0; have t3 := L.t3; have a3 := L.a3; have z3 := L.z3; have v3 := L.v3; have t4 := L.t4; have a4 := L.a4; have z4 := L.z4; have v4 := L.v4; have t22 := L.t22; have a22 := L.a22; have z22 := L.z22; have v22 := L.v22; have t131 := L.t131; have a131 := L.a131; have z131 := L.z131; have v131 := L.v131; have aE := L.aE; have zE := L.zE
  have S0 : Aside (SWK enc k w0 blk off d w) := S
  have hs' := hs.symm
  clear S L hs
  go_enter FG, Tryz.ntmps243
  go_wp2
  go_loopg [10, 11] (b - a) (fun kx s8 s9 wr => ∃ (i j f : Nat) (dk : Array α), s8 = .int .i64 i ∧ s9 = .int .i64 j ∧ 0 < i ∧ 0 < j ∧ i + j ≤ f ∧ f ≤ kx ∧ i ≤ m - a ∧ j ≤ b - m ∧ dk.size = d.size ∧ Aside (SWK enc k w0 blk off dk wr) ∧ rotN m f i j dk = rotN m (b - a) (m - a) (b - m) d)
  case atStart => exact ⟨m - a, b - m, b - a, d, by first | rfl | go_num | (congr 1; omega), by first | rfl | go_num | (congr 1; omega), by omega, by omega, by omega, Nat.le_refl _, Nat.le_refl _, Nat.le_refl _, rfl, S0, rfl⟩
  case round =>
    clear S0
    obtain ⟨i, j, f, dk, rfl, rfl, hi, hj, hf, hk, him, hjm, hds, S1, heq⟩ := hrel
    obtain ⟨f, rfl⟩ : ∃ f', f = f' + 1 := ⟨f - 1, by omega⟩
    rw [rotN] at heq
    by_cases e : i = j
    · subst e
      rw [if_pos rfl] at heq
      have C := SR.out dk wr (m - i) m i hds S1.out (by omega) (by omega)
      have e1 : ((m - i : Nat) : Int) = (m : Int) - (i : Int) := by omega
      rw [e1] at C
      clear S1
      go_wp2_with fail
      go_at_fn 248
      refine C.mono ?_
      rintro e w2 ⟨rfl, S2⟩
      go_wp2_with fail
      go_end0
      exact ⟨rfl, by rw [← heq]; exact S2⟩
    · rw [if_neg e] at heq
      by_cases c : j < i
      · rw [if_pos c] at heq
        have C := SR.out dk wr (m - i) m j hds S1.out (by omega) (by omega)
        have e1 : ((m - i : Nat) : Int) = (m : Int) - (i : Int) := by omega
        rw [e1] at C
        clear S1
        go_wp2_with fail
        go_at_fn 248
        refine C.mono ?_
        rintro e w2 ⟨rfl, S2⟩
        have S3 : Aside (SWK enc k w0 blk off (swapN (m - i) m j dk) w2) := S2
        clear S2 C
        go_wp2_with fail
        go_roundg f
        case measure => omega
        case rel => exact ⟨i - j, j, f, swapN (m - i) m j dk, by first | rfl | go_num | (congr 1; omega), rfl, by omega, hj, by omega, Nat.le_refl _, by omega, hjm, by rw [swapN_size]; exact hds, S3, heq⟩
      · rw [if_neg c] at heq
        have C := SR.out dk wr (m - i) (m + j - i) i hds S1.out (by omega) (by omega)
        have e1 : ((m - i : Nat) : Int) = (m : Int) - (i : Int) := by omega
        have e2 : ((m + j - i : Nat) : Int) = (m : Int) + (j : Int) - (i : Int) := by omega
        rw [e1, e2] at C
        clear S1
        go_wp2_with fail
        go_at_fn 248
        refine C.mono ?_
        rintro e w2 ⟨rfl, S2⟩
        have S3 : Aside (SWK enc k w0 blk off (swapN (m - i) (m + j - i) i dk) w2) := S2
        clear S2 C
        go_wp2_with fail
        go_roundg f
        case measure => omega
        case rel => exact ⟨i, j - i, f, swapN (m - i) (m + j - i) i dk, rfl, by first | rfl | go_num | (congr 1; omega), hi, by omega, by omega, Nat.le_refl _, him, by omega, by rw [swapN_size]; exact hds, S3, heq⟩
end
end Go.Proofs.YtbalpfpcbckghaaGreatDoor
namespace Go.Proofs.YtbalpfpcbckghaaGreatDoor
open Go.RowKit Go.Lib Go.Sort Go.Shelf
set_option linter.unusedVariables false
set_option linter.unusedSimpArgs false
section
variable {P : Program} {α : Type} [Inhabited α] {enc : α → List Value} {k : Nat} {w0 w : World} {blk off : Nat} {d0 d : Array α}
set_option maxRecDepth 1000000 in
set_option maxHeartbeats 8000000 in
theorem merge3_g {cap a m b : Nat} {g : Nat} {cb : Array Value} {cf : α → α → Int} (L : LayV P k) (FG : P.funcs[232]? = some Tryz.f232) {f : Nat} (er : ∀ args w, (callFunc 243 args).run P w = .ok (.enter 243 args) w) (es : ∀ args w, (callFunc 232 args).run P w = .ok (.enter 232 args) w) (eg : ∀ args w, (callFunc g args).run P w = .ok (.enter g args) w) (hcmp : CmpLays P g cb enc k cf blk off d0.size w0)
    (R : RowK enc k w0 blk off d0) (hs : d.size = d0.size) (S : SWK enc k w0 blk off d w) (ha : a < m) (hm : m < b) (hb : b ≤ d.size) (hsz : d.size < 4611686018427387904) (h1 : ¬ m - a = 1) (h2 : ¬ b - m = 1) (hf : b - a ≤ f + 1) (ih : ∀ (x y z : Nat) (dk : Array α) (wk : World), z - x ≤ f → x < y → y < z → z ≤ d.size → dk.size = d.size → SWK enc k w0 blk off dk wk → Calls P 232 #[.slice (some ⟨blk, off, none⟩) d.size cap, .int .i64 x, .int .i64 y, .int .i64 z, .func (.func g) #[] cb] wk fun e w' => e = .returned (.tuple #[]) ∧ SWK enc k w0 blk off (symM (ltOf cf) f x y z dk) w') (rt : ∀ (x y z : Nat) (dk : Array α) (wk : World), x < y → y < z → z ≤ d.size → dk.size = d.size → SWK enc k w0 blk off dk wk → Calls P 243 #[.slice (some ⟨blk, off, none⟩) d.size cap, .int .i64 x, .int .i64 y, .int .i64 z, .func (.func g) #[] cb] wk fun e w' => e = .returned (.tuple #[]) ∧ SWK enc k w0 blk off (rotN y (z - x) (y - x) (z - y) dk) w') :
    Calls P 232 #[.slice (some ⟨blk, off, none⟩) d.size cap, .int .i64 a, .int .i64 m, .int .i64 b, .func (.func g) #[] cb] w fun e w' => e = .returned (.tuple #[]) ∧ SWK enc k w0 blk off (symM (ltOf cf) (f + 1) a m b d) w' := by
  have mixed := L.mixed; have t0 := L.t0; have a0 := L.a0; have z0 := L.z0; have v0 := L.v0; have t3 := L.t3; have a3 := L.a3; have z3 := L.z3; have v3 := L.v3; have t4 := L.t4; have a4 := L.a4; have z4 := L.z4; have v4 := L.v4; have t22 := L.t22; have a22 := L.a22; have z22 := L.z22; have v22 := L.v22; have t90 := L.t90; have a90 := L.a90; have z90 := L.z90; have v90 := L.v90; have t131 := L.t131; have a131 := L.a131; have z131 := L.z131; have v131 := L.v131; have aE := L.aE; have zE := L.zE
  have HC : Aside _ := hcmp
  have S0 : Aside (SWK enc k w0 blk off d w) := S
  have IH := Lib.hid ih
  have RT := Lib.hid rt
  have hs1 := hs.symm
  clear S L hcmp hs ih rt
  have hmz : ¬ (m : Int) - (a : Int) = 1 := by omega
  have hmq : ((m : Int) - (a : Int) == 1) = false := by simp; omega
  have hbz : ¬ (b : Int) - (m : Int) = 1 := by omega
  have hbq : ((b : Int) - (m : Int) == 1) = false := by simp; omega
  obtain ⟨mid, hmid⟩ : ∃ mid, mid = (a + b) / 2 := ⟨_, rfl⟩
  have hmidz : ((a : Int) + (b : Int)) / 2 = (mid : Int) := by omega
  have hm1 : a < mid := by omega
  have hm2 : mid < b := by omega
  have hm3 : 2 * mid ≤ a + b := by omega
  have hm4 : a + b ≤ 2 * mid + 1 := by omega
  obtain ⟨lo, hlo⟩ : ∃ lo, lo = if mid < m then mid + m - b else a := ⟨_, rfl⟩
  obtain ⟨hi, hhi⟩ : ∃ hi, hi = if mid < m then mid else m := ⟨_, rfl⟩
  have hk1 : a ≤ lo := by rw [hlo]; split <;> omega
  have hk2 : lo ≤ hi := by rw [hlo, hhi]; split <;> omega
  have hk3 : hi ≤ mid := by rw [hhi]; split <;> omega
  have hk4 : hi ≤ m := by rw [hhi]; split <;> omega
  have hk5 : mid + m ≤ lo + b := by rw [hlo]; split <;> omega
  have HE0 : Hid (∀ st, st = bsr (fun c => !ltOf cf d[mid + m - 1 - c]! d[c]!) (hi - lo) lo hi → symM (ltOf cf) (f + 1) a m b d = (if mid < mid + m - st ∧ mid + m - st < b then symM (ltOf cf) f mid (mid + m - st) b (if a < st ∧ st < mid then symM (ltOf cf) f a st mid (if st < m ∧ m < mid + m - st then rotN m (mid + m - st - st) (m - st) (mid + m - st - m) d else d) else (if st < m ∧ m < mid + m - st then rotN m (mid + m - st - st) (m - st) (mid + m - st - m) d else d)) else (if a < st ∧ st < mid then symM (ltOf cf) f a st mid (if st < m ∧ m < mid + m - st then rotN m (mid + m - st - st) (m - st) (mid + m - st - m) d else d) else (if st < m ∧ m < mid + m - st then rotN m (mid + m - st - st) (m - st) (mid + m - st - m) d else d)))) := by
    intro st hst
    have e1 : st = (if (a + b) / 2 < m then bsr (fun c => !ltOf cf d[mid + m - 1 - c]! d[c]!) ((a + b) / 2 - ((a + b) / 2 + m - b)) ((a + b) / 2 + m - b) ((a + b) / 2) else bsr (fun c => !ltOf cf d[mid + m - 1 - c]! d[c]!) (m - a) a m) := by
      rw [hst, hlo, hhi, ← hmid]
      split <;> rfl
    rw [symM, if_neg h1, if_neg h2]
    dsimp only
    rw [hmid] at e1 ⊢
    rw [← e1]
  have HLO := Lib.hid hlo
  have HHI := Lib.hid hhi
  clear hlo hhi hmid
  go_enter FG, Tryz.ntmps232
  go_upto_if 140 with fail
  go_cut [20, 21] (fun x y wx => x = .int .i64 lo ∧ y = .int .i64 hi ∧ Aside (SWK enc k w0 blk off d wx))
  case first => as_aux_lemma =>
    by_cases c : mid < m
    · have cz : (mid : Int) < (m : Int) := by omega
      have e1 := HLO.out
      have e2 := HHI.out
      rw [if_pos c] at e1 e2
      have e1z : (mid : Int) + (m : Int) - (b : Int) = (lo : Int) := by omega
      subst e2
      clear e1
      go_wp2_with fail
      go_meet
      exact ⟨rfl, rfl, S0⟩
    · have cz : ¬ (mid : Int) < (m : Int) := by omega
      have e1 := HLO.out
      have e2 := HHI.out
      rw [if_neg c] at e1 e2
      subst e1
      subst e2
      go_wp2_with fail
      go_meet
      exact ⟨rfl, rfl, S0⟩
  case rest => as_aux_lemma =>
    clear S0
    obtain ⟨rfl, rfl, S0⟩ := hcut
    go_wp2_with fail
    go_loopg [20, 21] (hi - lo) (fun kx s8 s9 wr => ∃ (s r : Nat), s8 = .int .i64 s ∧ s9 = .int .i64 r ∧ lo ≤ s ∧ s ≤ r ∧ r ≤ hi ∧ r - s ≤ kx ∧ Aside (SWK enc k w0 blk off d wr) ∧ Hid (bsr (fun c => !ltOf cf d[mid + m - 1 - c]! d[c]!) kx s r = bsr (fun c => !ltOf cf d[mid + m - 1 - c]! d[c]!) (hi - lo) (lo) (hi)))
    case atStart => exact ⟨lo, hi, by first | rfl | go_num | (congr 1; omega), by first | rfl | go_num | (congr 1; omega), by omega, by omega, by omega, by omega, S0, rfl⟩
    case round =>
      clear S0
      obtain ⟨s, r, rfl, rfl, hlo, hsr, hrb, hkx, S1, HE⟩ := hrel
      by_cases hlt : s < r
      · obtain ⟨f, rfl⟩ : ∃ f, gk = f + 1 := ⟨gk - 1, by omega⟩
        have hsz1 : s + r < 2 * d.size := by omega
        obtain ⟨q, hq⟩ : ∃ q, q = mid + m - 1 - (s + r) / 2 := ⟨_, rfl⟩
        have hqz : (mid : Int) + (m : Int) - 1 - ((s : Int) + (r : Int)) / 2 = (q : Int) := by omega
        have hqs : q < d.size := by omega
        have HQ := Lib.hid hq
        clear hq
        cases hL : ltOf cf d[q]! d[(s + r) / 2]! with
        | true => as_aux_lemma =>
          have ea5a : ((q : Int)).toNat = q := by omega
          have pa5a : (0 : Int) ≤ (q : Int) := by omega
          have ba5a : (q : Int) < (d.size : Int) := by omega
          have ra5a : IntKind.i64.wrap ((q : Int)) = (q : Int) := by rw [IntKind.wrap_i64]; omega
          have ea5b : (((s : Int) + (r : Int)) / 2).toNat = (s + r) / 2 := by omega
          have pa5b : (0 : Int) ≤ ((s : Int) + (r : Int)) / 2 := by omega
          have ba5b : ((s : Int) + (r : Int)) / 2 < (d.size : Int) := by omega
          have ra5b : IntKind.i64.wrap (((s : Int) + (r : Int)) / 2) = ((s : Int) + (r : Int)) / 2 := by rw [IntKind.wrap_i64]; omega
          obtain ⟨x5, hx5⟩ : ∃ x, x = d[q]! := ⟨_, rfl⟩
          obtain ⟨y5, hy5⟩ : ∃ x, x = d[(s + r) / 2]! := ⟨_, rfl⟩
          have l5a := S1.out.ld R (by omega) P (q) (by omega)
          have l5b := S1.out.ld R (by omega) P ((s + r) / 2) (by omega)
          rw [← hx5] at l5a
          rw [← hy5] at l5b
          have hc5 := S1.out.cmp HC.out (by omega) x5 y5
          have hv5 : cf x5 y5 < 0 := by rw [hx5, hy5]; exact of_decide_eq_true hL
          have hd5 : decide (cf x5 y5 < 0) = true := decide_eq_true hv5
          clear hx5 hy5
          go_wp2_with fail
          go_quiet_grown (first | (go_at_fn g; refine Calls.grown_of (hc5 _ _)))
          have S5 : Aside (SWK enc k w0 blk off d (grow (wr.drewN nq) osq)) := S1.out.grown nq osq
          clear l5a l5b hc5 S1
          generalize grow (wr.drewN nq) osq = w5 at S5 ⊢
          clear nq osq
          go_wp2_with fail
          go_roundg f
          case measure => omega
          case rel => exact ⟨s, (s + r) / 2, rfl, by rw [show ((s : Int) + (r : Int)) / 2 = (((s + r) / 2 : Nat) : Int) by omega], by omega, by omega, by omega, by omega, S5, by show _ = _; rw [← HE.out, bsr, if_pos hlt, if_neg (by simp [← HQ.out, hL])]⟩
        | false => as_aux_lemma =>
          have ea5a : ((q : Int)).toNat = q := by omega
          have pa5a : (0 : Int) ≤ (q : Int) := by omega
          have ba5a : (q : Int) < (d.size : Int) := by omega
          have ra5a : IntKind.i64.wrap ((q : Int)) = (q : Int) := by rw [IntKind.wrap_i64]; omega
          have ea5b : (((s : Int) + (r : Int)) / 2).toNat = (s + r) / 2 := by omega
          have pa5b : (0 : Int) ≤ ((s : Int) + (r : Int)) / 2 := by omega
          have ba5b : ((s : Int) + (r : Int)) / 2 < (d.size : Int) := by omega
          have ra5b : IntKind.i64.wrap (((s : Int) + (r : Int)) / 2) = ((s : Int) + (r : Int)) / 2 := by rw [IntKind.wrap_i64]; omega
          obtain ⟨x5, hx5⟩ : ∃ x, x = d[q]! := ⟨_, rfl⟩
          obtain ⟨y5, hy5⟩ : ∃ x, x = d[(s + r) / 2]! := ⟨_, rfl⟩
          have l5a := S1.out.ld R (by omega) P (q) (by omega)
          have l5b := S1.out.ld R (by omega) P ((s + r) / 2) (by omega)
          rw [← hx5] at l5a
          rw [← hy5] at l5b
          have hc5 := S1.out.cmp HC.out (by omega) x5 y5
          have hv5 : ¬ cf x5 y5 < 0 := by rw [hx5, hy5]; exact of_decide_eq_false hL
          have hd5 : decide (cf x5 y5 < 0) = false := decide_eq_false hv5
          clear hx5 hy5
          go_wp2_with fail
          go_quiet_grown (first | (go_at_fn g; refine Calls.grown_of (hc5 _ _)))
          have S5 : Aside (SWK enc k w0 blk off d (grow (wr.drewN nq) osq)) := S1.out.grown nq osq
          clear l5a l5b hc5 S1
          generalize grow (wr.drewN nq) osq = w5 at S5 ⊢
          clear nq osq
          go_wp2_with fail
          go_roundg f
          case measure => omega
          case rel => exact ⟨(s + r) / 2 + 1, r, by rw [show ((s : Int) + (r : Int)) / 2 + 1 = (((s + r) / 2 + 1 : Nat) : Int) by omega], rfl, by omega, by omega, by omega, by omega, S5, by show _ = _; rw [← HE.out, bsr, if_pos hlt, if_pos (by simp [← HQ.out, hL])]⟩
      · have hrs : r = s := by omega
        subst hrs
        have HB : Hid (r = bsr (fun c => !ltOf cf d[mid + m - 1 - c]! d[c]!) (hi - lo) lo hi) := (by show _ = _; rw [← HE.out]; cases gk with | zero => rfl | succ f => rw [bsr, if_neg (Nat.lt_irrefl _)])
        clear HE
        have hr1 : r ≤ mid := by omega
        have hr2 : r ≤ m := by omega
        have hr3 : a ≤ r := by omega
        obtain ⟨en, hen⟩ : ∃ en, en = mid + m - r := ⟨_, rfl⟩
        have henz : (mid : Int) + (m : Int) - (r : Int) = (en : Int) := by omega
        have he1 : mid ≤ en := by omega
        have he2 : m ≤ en := by omega
        have he3 : en ≤ b := by omega
        have HF := Lib.hid (HE0.out r HB.out)
        rw [← hen] at HF
        clear hen HB HE0
        obtain ⟨b1, hb1⟩ : ∃ q : Bool, q = decide (r < m ∧ m < en) := ⟨_, rfl⟩
        obtain ⟨d1, hd1⟩ : ∃ q, q = (if r < m ∧ m < en then rotN m (en - r) (m - r) (en - m) d else d) := ⟨_, rfl⟩
        have HB1 := Lib.hid hb1
        have HD1 := Lib.hid hd1
        have hz1 : d1.size = d.size := by
          rw [HD1.out]
          split
          · rw [rotN_size]
          · rfl
        clear hb1 hd1
        go_upto_region 39 with fail
        go_cut [185] (fun c wx => c = .bool b1 ∧ Aside (SWK enc k w0 blk off d wx))
        case first => as_aux_lemma =>
          by_cases c1 : r < m
          · have c1z : (r : Int) < (m : Int) := by omega
            by_cases c2 : m < en
            · have c2z : (m : Int) < (en : Int) := by omega
              go_wp2_with fail
              go_meet
              exact ⟨by rw [HB1.out, decide_eq_true ⟨c1, c2⟩], S1⟩
            · have c2z : ¬ (m : Int) < (en : Int) := by omega
              go_wp2_with fail
              go_meet
              exact ⟨by rw [HB1.out, decide_eq_false fun h => c2 h.2], S1⟩
          · have c1z : ¬ (r : Int) < (m : Int) := by omega
            go_wp2_with fail
            go_meet
            exact ⟨by rw [HB1.out, decide_eq_false fun h => c1 h.1], S1⟩
        case rest => as_aux_lemma =>
          clear S1
          obtain ⟨rfl, S1⟩ := hcut
          go_upto_if 185 with fail
          go_cut [] (fun wx => Aside (SWK enc k w0 blk off d1 wx))
          case first => as_aux_lemma =>
            cases b1 with
            | true => as_aux_lemma =>
              have hb := of_decide_eq_true HB1.out.symm
              have C := RT.out r m en d _ hb.1 hb.2 (by omega) rfl S1.out
              have HDD : Hid (d1 = rotN m (en - r) (m - r) (en - m) d) := by show _ = _; rw [HD1.out, if_pos hb]
              clear S1 HB1 HD1 hb
              go_wp2_with fail
              go_at_fn 243
              refine C.mono ?_
              rintro e wy ⟨rfl, SS⟩
              clear C
              go_wp2_with fail
              go_meet
              show SWK _ _ _ _ _ _ _
              rw [HDD.out]
              exact SS
            | false => as_aux_lemma =>
              have hb := of_decide_eq_false HB1.out.symm
              have HDD : Hid (d1 = d) := by show _ = _; rw [HD1.out, if_neg hb]
              clear HB1 HD1 hb
              go_wp2_with fail
              go_meet
              show SWK _ _ _ _ _ _ _
              rw [HDD.out]
              exact S1.out
          case rest => as_aux_lemma =>
            clear S1
            have S1 : Aside (SWK enc k w0 blk off d1 _) := hcut
            clear hcut
            obtain ⟨b2, hb2⟩ : ∃ q : Bool, q = decide (a < r ∧ r < mid) := ⟨_, rfl⟩
            obtain ⟨d2, hd2⟩ : ∃ q, q = (if a < r ∧ r < mid then symM (ltOf cf) f a r mid d1 else d1) := ⟨_, rfl⟩
            have HB2 := Lib.hid hb2
            have HD2 := Lib.hid hd2
            have hz2 : d2.size = d.size := by
              rw [HD2.out]
              split
              · rw [symM_size, hz1]
              · exact hz1
            clear hb2 hd2
            go_upto_region 41 with fail
            go_cut [199] (fun c wx => c = .bool b2 ∧ Aside (SWK enc k w0 blk off d1 wx))
            case first => as_aux_lemma =>
              by_cases c1 : a < r
              · have c1z : (a : Int) < (r : Int) := by omega
                by_cases c2 : r < mid
                · have c2z : (r : Int) < (mid : Int) := by omega
                  go_wp2_with fail
                  go_meet
                  exact ⟨by rw [HB2.out, decide_eq_true ⟨c1, c2⟩], S1⟩
                · have c2z : ¬ (r : Int) < (mid : Int) := by omega
                  go_wp2_with fail
                  go_meet
                  exact ⟨by rw [HB2.out, decide_eq_false fun h => c2 h.2], S1⟩
              · have c1z : ¬ (a : Int) < (r : Int) := by omega
                go_wp2_with fail
                go_meet
                exact ⟨by rw [HB2.out, decide_eq_false fun h => c1 h.1], S1⟩
            case rest => as_aux_lemma =>
              clear S1
              obtain ⟨rfl, S1⟩ := hcut
              go_upto_if 199 with fail
              go_cut [] (fun wx => Aside (SWK enc k w0 blk off d2 wx))
              case first => as_aux_lemma =>
                cases b2 with
                | true => as_aux_lemma =>
                  have hb := of_decide_eq_true HB2.out.symm
                  have C := IH.out a r mid d1 _ (by omega) hb.1 hb.2 (by omega) (by omega) S1.out
                  have HDD : Hid (d2 = symM (ltOf cf) f a r mid d1) := by show _ = _; rw [HD2.out, if_pos hb]
                  clear S1 HB2 HD2 hb
                  go_wp2_with fail
                  go_at_fn 232
                  refine C.mono ?_
                  rintro e wy ⟨rfl, SS⟩
                  clear C
                  go_wp2_with fail
                  go_meet
                  show SWK _ _ _ _ _ _ _
                  rw [HDD.out]
                  exact SS
                | false => as_aux_lemma =>
                  have hb := of_decide_eq_false HB2.out.symm
                  have HDD : Hid (d2 = d1) := by show _ = _; rw [HD2.out, if_neg hb]
                  clear HB2 HD2 hb
                  go_wp2_with fail
                  go_meet
                  show SWK _ _ _ _ _ _ _
                  rw [HDD.out]
                  exact S1.out
              case rest => as_aux_lemma =>
                clear S1
                have S1 : Aside (SWK enc k w0 blk off d2 _) := hcut
                clear hcut
                obtain ⟨b3, hb3⟩ : ∃ q : Bool, q = decide (mid < en ∧ en < b) := ⟨_, rfl⟩
                obtain ⟨d3, hd3⟩ : ∃ q, q = (if mid < en ∧ en < b then symM (ltOf cf) f mid en b d2 else d2) := ⟨_, rfl⟩
                have HB3 := Lib.hid hb3
                have HD3 := Lib.hid hd3
                replace HF : Hid (symM (ltOf cf) (f + 1) a m b d = d3) := by show _ = _; rw [HF.out, HD3.out, HD2.out, HD1.out]
                clear hb3 hd3
                go_upto_region 43 with fail
                go_cut [213] (fun c wx => c = .bool b3 ∧ Aside (SWK enc k w0 blk off d2 wx))
                case first => as_aux_lemma =>
                  by_cases c1 : mid < en
                  · have c1z : (mid : Int) < (en : Int) := by omega
                    by_cases c2 : en < b
                    · have c2z : (en : Int) < (b : Int) := by omega
                      go_wp2_with fail
                      go_meet
                      exact ⟨by rw [HB3.out, decide_eq_true ⟨c1, c2⟩], S1⟩
                    · have c2z : ¬ (en : Int) < (b : Int) := by omega
                      go_wp2_with fail
                      go_meet
                      exact ⟨by rw [HB3.out, decide_eq_false fun h => c2 h.2], S1⟩
                  · have c1z : ¬ (mid : Int) < (en : Int) := by omega
                    go_wp2_with fail
                    go_meet
                    exact ⟨by rw [HB3.out, decide_eq_false fun h => c1 h.1], S1⟩
                case rest => as_aux_lemma =>
                  clear S1
                  obtain ⟨rfl, S1⟩ := hcut
                  go_upto_if 213 with fail
                  cases b3 with
                  | true => as_aux_lemma =>
                    have hb := of_decide_eq_true HB3.out.symm
                    have C := IH.out mid en b d2 _ (by omega) hb.1 hb.2 (by omega) (by omega) S1.out
                    have HDD : Hid (d3 = symM (ltOf cf) f mid en b d2) := by show _ = _; rw [HD3.out, if_pos hb]
                    clear S1 HB3 HD3 hb
                    go_wp2_with fail
                    go_at_fn 232
                    refine C.mono ?_
                    rintro e wy ⟨rfl, SS⟩
                    clear C
                    go_wp2_with fail
                    go_end0
                    refine ⟨rfl, ?_⟩
                    have e := HF.out
                    rw [e]
                    rw [HDD.out]
                    exact SS
                  | false => as_aux_lemma =>
                    have hb := of_decide_eq_false HB3.out.symm
                    have HDD : Hid (d3 = d2) := by show _ = _; rw [HD3.out, if_neg hb]
                    clear HB3 HD3 hb
                    go_wp2_with fail
                    go_end0
                    refine ⟨rfl, ?_⟩
                    have e := HF.out
                    rw [e]
                    rw [HDD.out]
                    exact S1.out
end
end Go.Proofs.YtbalpfpcbckghaaGreatDoor
namespace Go.Proofs.YtbalpfpcbckghaaGreatDoor
open Go.RowKit Go.Lib
set_option linter.unusedVariables false

end Go.Proofs.YtbalpfpcbckghaaGreatDoor
namespace Go.Proofs.YtbalpfpcbckghaaGreatDoor
open Go.RowKit Go.Lib
set_option linter.unusedVariables false

end Go.Proofs.YtbalpfpcbckghaaGreatDoor
namespace Go.Proofs.YtbalpfpcbckghaaGreatDoor
open Go.RowKit Go.Lib
set_option linter.unusedVariables false

end Go.Proofs.YtbalpfpcbckghaaGreatDoor
