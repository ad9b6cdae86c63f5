/-
  PROVED: for every text, LitReads returns true: its value, or where no such text goes on, is what the chapter says; what is read is just that text.
  CONDITIONS: none besides the given statement's own.
-/
import Derived.Test.YtoemnccklakkeaaDoorLrH
import Derived.Test.YtoemnccklakkeaaDoorSeB
import Derived.Test.YtoemnccklakkeaaDoorRight
import Derived.Test.YtoemnccklakkeaaDoorSeC
import Derived.Test.YtoemnccklakkeaaDoorSpP
import Derived.Test.YtoemnccklakkeaaDoorTxX
import Derived.Test.YtoemnccklakkeaaDoorFirst
import Derived.Test.YtoemnccklakkeaaDoorLaid
import Derived.Test.YtoemnccklakkeaaDoorSeA
import Derived.Test.YtoemnccklakkeaaDoorFrm
namespace Go.Proofs.YtoemnccklakkeaaDoor
open Go.RowKit Go.Lib
set_option linter.unusedVariables false

/-- Two structs handed back: a value and a fault. -/
theorem ret_cells47 {fn : Func} {p u : Tmp} {Q : Ending → World → Prop} {act : Act} {w : World} (hr : fn.results = #[.cell p 31, .cell u 37]) (g g' : Nat) (hp : act.tmps.getD p undef = .pointer (some ⟨g, 0, none⟩)) (hu : act.tmps.getD u undef = .pointer (some ⟨g', 0, none⟩)) (hd : act.defers = [])
    {a b c d a' b' c' d' e' f' h' : Value} (hS : StB w g a b c d) (hF : StF w g' a' b' c' d' e' f' h') (hQ : Q (.returned (.tuple #[.agg #[a, b, c, d], .agg #[a', b', c', d', e', f', h']])) w) : bodyPost Tryd.prog fn Q .ret act w := by
  refine bodyPost_ret (v := .tuple #[.agg #[a, b, c, d], .agg #[a', b', c', d', e', f', h']]) ?_ hd hQ
  have c0 := hS.c0
  have c1 := hS.c1
  have c2 := hS.c2
  have c3 := hS.c3
  obtain ⟨d0, d1, d2, d3, d4, d5, d6⟩ := hF.cells
  have hp' : (act.tmps[p]?).getD undef = .pointer (some ⟨g, 0, none⟩) := by simpa using hp
  have hu' : (act.tmps[u]?).getD undef = .pointer (some ⟨g', 0, none⟩) := by simpa using hu
  simp [results, hr, hp', hu', go_sem, c0, c1, c2, c3, d0, d1, d2, d3, d4, d5, d6]
theorem StB.far7 {w : World} {g : Nat} {a b c d : Value} (h : StB w g a b c d) {g' : Nat} (hne : g ≠ g') (a' b' c' d' e' f' k' : Value) :
    StB (((((((w.setCell ⟨g', 0, none⟩ a').setCell ⟨g', 1, none⟩ b').setCell ⟨g', 2, none⟩ c').setCell ⟨g', 3, none⟩ d').setCell ⟨g', 4, none⟩ e').setCell ⟨g', 5, none⟩ f').setCell ⟨g', 6, none⟩ k') g a b c d :=
  ((((((h.far (p := ⟨g', 0, none⟩) hne _).far (p := ⟨g', 1, none⟩) hne _).far (p := ⟨g', 2, none⟩) hne _).far (p := ⟨g', 3, none⟩) hne _).far (p := ⟨g', 4, none⟩) hne _).far (p := ⟨g', 5, none⟩) hne _).far (p := ⟨g', 6, none⟩) hne _
theorem StF.far4 {w : World} {g : Nat} {a b c d e f h : Value} (H : StF w g a b c d e f h) {g' : Nat} (hne : g ≠ g') (a' b' c' d' : Value) :
    StF ((((w.setCell ⟨g', 0, none⟩ a').setCell ⟨g', 1, none⟩ b').setCell ⟨g', 2, none⟩ c').setCell ⟨g', 3, none⟩ d') g a b c d e f h := (heap_set4 w g' a' b' c' d' g hne).trans H
theorem heap_set7 (w : World) (g : Nat) (a b c d e f h : Value) (k : Nat) (hk : k ≠ g) : (((((((w.setCell ⟨g, 0, none⟩ a).setCell ⟨g, 1, none⟩ b).setCell ⟨g, 2, none⟩ c).setCell ⟨g, 3, none⟩ d).setCell ⟨g, 4, none⟩ e).setCell ⟨g, 5, none⟩ f).setCell ⟨g, 6, none⟩ h).heap[k]? = w.heap[k]? := by
  rw [Below.heap_setCell _ _ _ _ hk, Below.heap_setCell _ _ _ _ hk, Below.heap_setCell _ _ _ _ hk, Below.heap_setCell _ _ _ _ hk, Below.heap_setCell _ _ _ _ hk, Below.heap_setCell _ _ _ _ hk, Below.heap_setCell _ _ _ _ hk]

/-- What a call of the reference's Read shows. -/
def RrOut (s : ByteArray) (w : World) (e : Ending) (w' : World) : Prop :=
  Below w.heap.size w w' ∧
  ((rdBad s ∧ e = .returned (.tuple #[.agg #[.int .i64 0, .int .i64 0, .string ⟨#[]⟩, .slice none 0 0], fltV 111 true (rdV s).1])) ∨
   (¬ rdBad s ∧ ∃ (k n : Int) (t : ByteArray) (sub : VL), (rdV s).2.2 = val1 k n t sub ∧
      (((walk1 k n t sub 1 4096).1 ≠ 0 ∧ e = .returned (.tuple #[.agg #[.int .i64 0, .int .i64 0, .string ⟨#[]⟩, .slice none 0 0], fltV (walk1 k n t sub 1 4096).1 false 0])) ∨
       ((walk1 k n t sub 1 4096).1 = 0 ∧ ∃ (sa : Option Addr) (sc : Nat), sub.len ≤ sc ∧ RpL w' (fun b => w.heap.size ≤ b ∧ b < w'.heap.size) sub sa ∧
          e = .returned (.tuple #[.agg #[.int .i64 k, .int .i64 n, .string t, .slice sa sub.len sc], fltV 0 false 0])))))

theorem valuesR_c (f : Nat) : ValRC f := by
  induction f using Nat.strongRecOn with
  | _ f ih => exact valueR_step f ih

set_option maxRecDepth 100000 in
set_option maxHeartbeats 4000000 in
theorem readR_c (s : ByteArray) (w : World) (hs : s.size ≤ 1000000000) :
    Calls Tryd.prog 18 #[.string s] w (RrOut s w) := by
  obtain ⟨wf, hwf⟩ : ∃ wf, wf = w.alloc (.cells #[.int .i64 0, .int .i64 0, .string ⟨#[]⟩, .slice none 0 0] 31) := ⟨_, rfl⟩
  obtain ⟨wg, hwg⟩ : ∃ wg, wg = wf.alloc (.cells #[.int .i64 0, .bool false, .int .i64 0, .int .i64 0, .int .i64 0, .string ⟨#[]⟩, .slice none 0 0] 37) := ⟨_, rfl⟩
  obtain ⟨wa, hwa⟩ : ∃ wa, wa = wg.alloc (.cells #[.string s, .int .i64 0] 72) := ⟨_, rfl⟩
  have hzf : wf.heap.size = w.heap.size + 1 := by rw [hwf]; simp
  have hzg : wg.heap.size = w.heap.size + 2 := by rw [hwg]; simp; omega
  have hza : wa.heap.size = w.heap.size + 3 := by rw [hwa]; simp; omega
  have hB : StB wa w.heap.size (.int .i64 0) (.int .i64 0) (.string ⟨#[]⟩) (.slice none 0 0) := by rw [hwa, hwg, hwf]; exact ((StB.new w _ _ _ _).alloc _).alloc _
  have hF : StF wa (w.heap.size + 1) (.int .i64 0) (.bool false) (.int .i64 0) (.int .i64 0) (.int .i64 0) (.string ⟨#[]⟩) (.slice none 0 0) := by
    rw [hwa]; refine (Below.heap_alloc _ _ _ (by omega)).trans ?_
    rw [hwg, ← hzf]; exact StF.new wf _ _ _ _ _ _ _
  have hR : RrAt wa (w.heap.size + 2) s 0 := by rw [hwa, ← hzg]; unfold RrAt World.alloc; simp
  have hb : Below w.heap.size w wa := by rw [hwa, hwg, hwf]; exact (((Below.refl _ _).alloc (Nat.le_refl _) _).alloc (by simp) _).alloc (by simp; omega) _
  obtain ⟨q, hq⟩ : ∃ q, q = rdR s := ⟨_, rfl⟩
  have V := Lib.hid (valuesR_c (2 * s.size + 2) (w.heap.size + 2) s 0 wa hR hs (by omega) (by omega))
  rw [show valR s (2 * s.size + 2) 0 = q from hq.symm] at V
  have HAG := Lib.hid (rd_agr s)
  have HFT := Lib.hid (show (rdV s).2.1 = true → True from fun _ => trivial)
  have HQ := Lib.hid hq
  have HB := Lib.hid hb
  have HZ := Lib.hid hza
  have H2 := Lib.hid hB
  have H3 := Lib.hid hF
  have HWA := Lib.hid (show wa = ((w.alloc (.cells #[.int .i64 0, .int .i64 0, .string ⟨#[]⟩, .slice none 0 0] 31)).alloc (.cells #[.int .i64 0, .bool false, .int .i64 0, .int .i64 0, .int .i64 0, .string ⟨#[]⟩, .slice none 0 0] 37)).alloc (.cells #[.string s, .int .i64 0] 72) by rw [hwa, hwg, hwf])
  have HFIT := Lib.hid (valSp_fit s hs (2 * s.size + 2) 0 (Nat.zero_le _))
  obtain ⟨at_, ok, v⟩ := q
  clear hb hza hzf hzg hB hF hR hwa hwg hwf hq
  go_enter Tryd.func18, Tryd.ntmps18
  go_wp2_with fail
  rw [← HWA.out]
  refine V.out.mono ?_
  rintro e w2 ⟨vk, vn, vt, va, vl, vc, rfl, hr2, hval⟩
  clear V HWA
  obtain ⟨w5, hw5⟩ : ∃ w5, w5 = w2.alloc (.cells #[.int .i64 vk, .int .i64 vn, .string vt, .slice va vl vc] 31) := ⟨_, rfl⟩
  have hg := hr2.grown
  have gz : w.heap.size + 3 ≤ w2.heap.size := by have := hg.size; have := HZ.out; omega
  have hz5 : w5.heap.size = w2.heap.size + 1 := by rw [hw5]; simp
  have h5 : Rrs wa w5 (w.heap.size + 2) s at_ := by rw [hw5]; exact hr2.alloc _
  have b5 : StB w5 w.heap.size (.int .i64 0) (.int .i64 0) (.string ⟨#[]⟩) (.slice none 0 0) := by rw [hw5]; exact (H2.out.only hg (fun e => by injection e with e; omega)).alloc _
  have f5 : StF w5 (w.heap.size + 1) (.int .i64 0) (.bool false) (.int .i64 0) (.int .i64 0) (.int .i64 0) (.string ⟨#[]⟩) (.slice none 0 0) := by
    rw [hw5]; exact (Below.heap_alloc _ _ _ (by omega)).trans ((hg.block (w.heap.size + 1) (by have := HZ.out; omega) (fun e => by injection e with e; omega)).trans H3.out)
  have x5 : StB w5 w2.heap.size (.int .i64 vk) (.int .i64 vn) (.string vt) (.slice va vl vc) := by rw [hw5]; exact StB.new w2 _ _ _ _
  have bb5 : Below w.heap.size w w5 := by
    have hg5 := h5.grown
    exact HB.out.trans ⟨hg5.os, hg5.tape, hg5.output, hg5.size, fun b hb => hg5.block b (by have := HZ.out; omega) (fun e => by injection e with e; omega)⟩
  have HVAL := Lib.hid hval
  have HB5 := Lib.hid bb5
  have H25 := Lib.hid b5
  have H35 := Lib.hid f5
  have HX5 := Lib.hid x5
  have HR5 := Lib.hid h5
  have HZ5 := Lib.hid hz5
  have HK5 := Lib.hid (show ∀ b, b < w2.heap.size → w5.heap[b]? = w2.heap[b]? from fun b hb => by rw [hw5]; exact Below.heap_alloc _ _ _ hb)
  have r1 := h5.at_.c1
  rw [hw5] at r1
  have HW5 := Lib.hid hw5
  clear hval bb5 b5 f5 x5 h5 hw5 hr2 hg
  by_cases hbad : ok = true ∧ s.size ≤ at_
  · obtain ⟨rfl, hge⟩ := hbad
    have HGOOD := Lib.hid (show ¬ rdBad s by intro h; exact HAG.out.2.1.1 h (by rw [← HQ.out]; exact ⟨rfl, hge⟩))
    obtain ⟨sub, hv, rfl, hsc, hrep⟩ := HVAL.out rfl
    have hvv : v = val1 vk vn vt sub := hv
    have HVV := Lib.hid (show (rdV s).2.2 = val1 vk vn vt sub by rw [← HAG.out.2.2 HGOOD.out, ← HQ.out]; exact hvv)
    have hfit := HFIT.out
    rw [show (valSp s (2 * s.size + 2) 0).2.2 = val1 vk vn vt sub from HVV.out] at hfit
    have VC := Lib.hid (validR_c vk vn vt sub va vc w5 hfit.1 hfit.2.1 hfit.2.2.1 hsc (hrep.keep (fun b hb => HK5.out b hb.2) (fun b hb => by have := hb.2; have := HZ5.out; omega)))
    have HREP := Lib.hid hrep
    have HSC := Lib.hid hsc
    have t1 : decide ((at_ : Int) < (s.size : Int)) = false := by rw [decide_eq_false_iff_not]; omega
    have t2 : decide (at_ < s.size) = false := by rw [decide_eq_false_iff_not]; omega
    have x0 := HX5.out.c0; have x1 := HX5.out.c1; have x2 := HX5.out.c2; have x3 := HX5.out.c3
    rw [HW5.out] at x0 x1 x2 x3
    obtain ⟨bad, hbd⟩ : ∃ bad, bad = (walk1 vk vn vt sub 1 4096).1 := ⟨_, rfl⟩
    have HBD := Lib.hid hbd
    rw [← hbd] at VC
    clear hv hvv hfit hrep hge hbd
    go_wp2_with fail
    rw [← HW5.out]
    refine VC.out.mono ?_
    rintro e w6 ⟨rfl, hb6⟩
    have H6B := Lib.hid (H25.out.below' hb6)
    have H6F := Lib.hid (H35.out.below hb6)
    have H6X := Lib.hid (HX5.out.below' hb6)
    have HB6 := Lib.hid (HB5.out.trans (belowLe hb6 HB5.out.size))
    have HK6 := Lib.hid (show ∀ b, b < w2.heap.size → w6.heap[b]? = w2.heap[b]? from fun b hb => (hb6.block b (by have := HZ5.out; omega)).trans (HK5.out b hb))
    have HZ6 := Lib.hid (show w2.heap.size < w6.heap.size by have := hb6.size; have := HZ5.out; omega)
    clear hb6 r1 x0 x1 x2 x3 VC
    have k0 := H6B.out.c0; have k1 := H6B.out.c1; have k2 := H6B.out.c2; have k3 := H6B.out.c3
    have f0 := H6B.out.fr 0; have f1 := H6B.out.fr 1; have f2 := H6B.out.fr 2; have f3 := H6B.out.fr 3
    obtain ⟨m0, m1, m2, m3, m4, m5, m6⟩ := H6F.out.cells
    have n0 := H6F.out.fr 0; have n1 := H6F.out.fr 1; have n2 := H6F.out.fr 2; have n3 := H6F.out.fr 3; have n4 := H6F.out.fr 4; have n5 := H6F.out.fr 5; have n6 := H6F.out.fr 6
    by_cases hb0 : bad = 0
    · subst hb0
      have x0 := H6X.out.c0; have x1 := H6X.out.c1; have x2 := H6X.out.c2; have x3 := H6X.out.c3
      have NC := Lib.hid (fun W => none_c W)
      unfold fltV at NC
      go_wp2_with fail
      go_region_with (first
        | (go_at_call 44; refine (NC.out w6.drew).mono ?_; rintro e w7 ⟨rfl, hb7⟩
           have b7 := StB.below' (w := w6.drew) H6B.out hb7
           have f7 := StF.below (w := w6.drew) H6F.out hb7
           have x7 := StB.below' (w := w6.drew) H6X.out hb7
           have y0 := x7.c0; have y1 := x7.c1; have y2 := x7.c2; have y3 := x7.c3
           have u0 := b7.c0; have u1 := b7.c1; have u2 := b7.c2; have u3 := b7.c3
           have v0 := b7.fr 0; have v1 := b7.fr 1; have v2 := b7.fr 2; have v3 := b7.fr 3
           obtain ⟨o0, o1, o2, o3, o4, o5, o6⟩ := f7.cells
           have p0 := f7.fr 0; have p1 := f7.fr 1; have p2 := f7.fr 2; have p3 := f7.fr 3; have p4 := f7.fr 4; have p5 := f7.fr 5; have p6 := f7.fr 6
           have B7 := Lib.hid b7
           have F7 := Lib.hid f7
           have HB7 := Lib.hid hb7
           clear hb7 b7 f7 x7))
      all_goals (go_wp2_with fail)
      all_goals
        refine ret_cells47 Tryd.results18 w.heap.size (w.heap.size + 1) rfl rfl rfl (StB.far7 (B7.out.set4 _ _ _ _) (by omega) _ _ _ _ _ _ _) (StF.set7 (F7.out.far4 (by omega) _ _ _ _) _ _ _ _ _ _ _) ?_
        have h7 := HB7.out
        have hz : w6.drew.heap.size = w6.heap.size := rfl
        have hz6 := HB6.out.size
        refine ⟨below_set7 (below_set4 ((HB6.out.drew).trans (belowLe h7 (by omega))) (Nat.le_refl _) _ _ _ _) (by omega) _ _ _ _ _ _ _, .inr ⟨HGOOD.out, vk, vn, vt, sub, HVV.out, .inr ⟨HBD.out.symm, va, vc, HSC.out, ?_, rfl⟩⟩⟩
        refine HREP.out.keep (fun b hb => ?_) (fun b hb => ⟨by have := hb.1; have := HZ.out; omega, ?_⟩)
        · rw [heap_set7 _ _ _ _ _ _ _ _ _ _ (by have := hb.1; have := HZ.out; omega), heap_set4 _ _ _ _ _ _ _ (by have := hb.1; have := HZ.out; omega), h7.block b (by have := hb.2; have := HZ6.out; omega)]
          exact HK6.out b hb.2
        · have h1 := h7.size
          have h2 := hb.2
          have h3 := HZ6.out
          simp [World.setCell]
          omega
    · have hbn : ((bad : Int) != 0) = true := by rw [bne_iff_ne]; omega
      have BC := Lib.hid (fun W => bare_c (bad : Int) W)
      unfold fltV at BC
      clear k0 k1 k2 k3 f0 f1 f2 f3 m0 m1 m2 m3 m4 m5 m6 n0 n1 n2 n3 n4 n5 n6
      go_wp2_with fail
      refine (BC.out _).mono ?_
      rintro e w7 ⟨rfl, hb7⟩
      have H7B := Lib.hid (H6B.out.below' hb7)
      have H7F := Lib.hid (H6F.out.below hb7)
      have HB7 := Lib.hid (HB6.out.trans (belowLe hb7 HB6.out.size))
      clear hb7
      have k0 := H7B.out.c0; have k1 := H7B.out.c1; have k2 := H7B.out.c2; have k3 := H7B.out.c3
      have f0 := H7B.out.fr 0; have f1 := H7B.out.fr 1; have f2 := H7B.out.fr 2; have f3 := H7B.out.fr 3
      obtain ⟨m0, m1, m2, m3, m4, m5, m6⟩ := H7F.out.cells
      have n0 := H7F.out.fr 0; have n1 := H7F.out.fr 1; have n2 := H7F.out.fr 2; have n3 := H7F.out.fr 3; have n4 := H7F.out.fr 4; have n5 := H7F.out.fr 5; have n6 := H7F.out.fr 6
      go_wp2_with fail
      refine ret_cells47 Tryd.results18 w.heap.size (w.heap.size + 1) rfl rfl rfl (StB.far7 (H7B.out.set4 _ _ _ _) (by omega) _ _ _ _ _ _ _) (StF.set7 (H7F.out.far4 (by omega) _ _ _ _) _ _ _ _ _ _ _) ?_
      exact ⟨below_set7 (below_set4 HB7.out (Nat.le_refl _) _ _ _ _) (by omega) _ _ _ _ _ _ _, .inr ⟨HGOOD.out, vk, vn, vt, sub, HVV.out, .inl ⟨by rw [← HBD.out]; exact hb0, by rw [← HBD.out]; rfl⟩⟩⟩
  · have HBAD := Lib.hid (HAG.out.2.1.2 (by rw [← HQ.out]; exact hbad))
    have HAT := Lib.hid (show (rdV s).1 = at_ by rw [← HAG.out.1, ← HQ.out])
    cases ok with
    | false =>
      clear hbad
      go_wp2_with fail
      rw [← HW5.out]
      refine (placed_c 111 at_ rfl _).mono ?_
      rintro e w6 ⟨rfl, hb6⟩
      have H6B := Lib.hid (H25.out.below' hb6)
      have H6F := Lib.hid (H35.out.below hb6)
      have HB6 := Lib.hid (HB5.out.trans (belowLe hb6 HB5.out.size))
      clear hb6 r1
      have k0 := H6B.out.c0; have k1 := H6B.out.c1; have k2 := H6B.out.c2; have k3 := H6B.out.c3
      have f0 := H6B.out.fr 0; have f1 := H6B.out.fr 1; have f2 := H6B.out.fr 2; have f3 := H6B.out.fr 3
      obtain ⟨m0, m1, m2, m3, m4, m5, m6⟩ := H6F.out.cells
      have n0 := H6F.out.fr 0; have n1 := H6F.out.fr 1; have n2 := H6F.out.fr 2; have n3 := H6F.out.fr 3; have n4 := H6F.out.fr 4; have n5 := H6F.out.fr 5; have n6 := H6F.out.fr 6
      unfold fltV
      go_wp2_with fail
      refine ret_cells47 Tryd.results18 w.heap.size (w.heap.size + 1) rfl rfl rfl (StB.far7 (H6B.out.set4 _ _ _ _) (by omega) _ _ _ _ _ _ _) (StF.set7 (H6F.out.far4 (by omega) _ _ _ _) _ _ _ _ _ _ _) ?_
      exact ⟨below_set7 (below_set4 HB6.out (Nat.le_refl _) _ _ _ _) (by omega) _ _ _ _ _ _ _, .inl ⟨HBAD.out, by rw [HAT.out]; rfl⟩⟩
    | true =>
      have hlt : at_ < s.size := by
        rcases Nat.lt_or_ge at_ s.size with h | h
        · exact h
        · exact absurd ⟨rfl, h⟩ hbad
      have t1 : decide ((at_ : Int) < (s.size : Int)) = true := by rw [decide_eq_true_eq]; omega
      clear hbad
      go_wp2_with fail
      rw [← HW5.out]
      refine (placed_c 111 at_ rfl _).mono ?_
      rintro e w6 ⟨rfl, hb6⟩
      have H6B := Lib.hid (H25.out.below' hb6)
      have H6F := Lib.hid (H35.out.below hb6)
      have HB6 := Lib.hid (HB5.out.trans (belowLe hb6 HB5.out.size))
      clear hb6 r1
      have k0 := H6B.out.c0; have k1 := H6B.out.c1; have k2 := H6B.out.c2; have k3 := H6B.out.c3
      have f0 := H6B.out.fr 0; have f1 := H6B.out.fr 1; have f2 := H6B.out.fr 2; have f3 := H6B.out.fr 3
      obtain ⟨m0, m1, m2, m3, m4, m5, m6⟩ := H6F.out.cells
      have n0 := H6F.out.fr 0; have n1 := H6F.out.fr 1; have n2 := H6F.out.fr 2; have n3 := H6F.out.fr 3; have n4 := H6F.out.fr 4; have n5 := H6F.out.fr 5; have n6 := H6F.out.fr 6
      unfold fltV
      go_wp2_with fail
      refine ret_cells47 Tryd.results18 w.heap.size (w.heap.size + 1) rfl rfl rfl (StB.far7 (H6B.out.set4 _ _ _ _) (by omega) _ _ _ _ _ _ _) (StF.set7 (H6F.out.far4 (by omega) _ _ _ _) _ _ _ _ _ _ _) ?_
      exact ⟨below_set7 (below_set4 HB6.out (Nat.le_refl _) _ _ _ _) (by omega) _ _ _ _ _ _ _, .inl ⟨HBAD.out, by rw [HAT.out]; rfl⟩⟩
end Go.Proofs.YtoemnccklakkeaaDoor
namespace Go.Proofs.YtoemnccklakkeaaDoor
open Go.RowKit Go.Lib
set_option linter.unusedVariables false

theorem own_code (k n : Int) (s : ByteArray) (len : Nat) : ownE k n s len = 0 ∨ (103 ≤ ownE k n s len ∧ ownE k n s len ≤ 112) := by
  unfold ownE
  repeat' split
  all_goals omega
theorem walkL_code : ∀ (l : VL) (d left : Int), (walkL l d left).1 = 0 ∨ (103 ≤ (walkL l d left).1 ∧ (walkL l d left).1 ≤ 112)
  | .nil, d, left => .inl rfl
  | .cons k n s sub rest, d, left => by
    have h1 : (walk1 k n s sub d left).1 = 0 ∨ (103 ≤ (walk1 k n s sub d left).1 ∧ (walk1 k n s sub d left).1 ≤ 112) := by
      unfold walk1
      split
      · exact .inr ⟨by simp only; omega, by simp only; omega⟩
      · split
        · exact .inr ⟨by simp only; omega, by simp only; omega⟩
        · split
          · exact walkL_code sub _ _
          · exact own_code k n s sub.len
    rw [walkL_cons]
    split
    · exact walkL_code rest _ _
    · exact h1
theorem walk1_code (k n : Int) (s : ByteArray) (sub : VL) (h : (walk1 k n s sub 1 4096).1 ≠ 0) : ∃ c, c < 17 ∧ (walk1 k n s sub 1 4096).1 = 101 + c := by
  have := walkL_code (val1 k n s sub) 1 4096
  unfold val1 at this
  rw [walkL_cons, if_neg h] at this
  rcases this with e | e
  · exact absurd e h
  · exact ⟨(walk1 k n s sub 1 4096).1 - 101, by omega, by omega⟩

set_option maxRecDepth 100000 in
set_option maxHeartbeats 8000000 in
theorem litReads_c (s : ByteArray) (ea : Nat → Addr) (w : World) (hse : SeesAt w ea) (htx : TxAt w) :
    Calls Tryd.prog 4 #[.string s] w fun e w' => e = .returned (.bool true) ∧ Below w.heap.size w w' := by
  have F := Lib.hid (first_c ea w hse.errs)
  by_cases hs : s.size ≤ 500
  · have HE := fun (W : World) (hW : Below w.heap.size w W) => (hse.below hW).errs
    have HX := fun (W : World) (hW : Below w.heap.size w W) => htx.below hW (Nat.le_refl _)
    have RD := Lib.hid (fun (W : World) hW => read_c s ea W (HE W hW) (by omega))
    have RRA := Lib.hid (fun (hbad : rdBad s) W => (readR_c s W (by omega)).mono (R' := fun e W' => e = .returned (.tuple #[.agg #[.int .i64 0, .int .i64 0, .string ⟨#[]⟩, .slice none 0 0], fltV 111 true (rdV s).1]) ∧ Below W.heap.size W W') fun e W' h => by
      obtain ⟨hb, ⟨_, he⟩ | ⟨hg, _⟩⟩ := h
      · exact ⟨he, hb⟩
      · exact absurd hbad hg)
    have RRB := Lib.hid (fun (k n : Int) (t : ByteArray) (sub : VL) (hgood : ¬ rdBad s) (hv : (rdV s).2.2 = val1 k n t sub) (hc : (walk1 k n t sub 1 4096).1 ≠ 0) W => (readR_c s W (by omega)).mono (R' := fun e W' => e = .returned (.tuple #[.agg #[.int .i64 0, .int .i64 0, .string ⟨#[]⟩, .slice none 0 0], fltV (walk1 k n t sub 1 4096).1 false 0]) ∧ Below W.heap.size W W') fun e W' h => by
      obtain ⟨hb, ⟨hbad, _⟩ | ⟨_, k', n', t', sub', hv', h⟩⟩ := h
      · exact absurd hbad hgood
      · rw [hv] at hv'
        injection hv' with e1 e2 e3 e4 _
        subst e1; subst e2; subst e3; subst e4
        rcases h with ⟨_, he⟩ | ⟨h0, _⟩
        · exact ⟨he, hb⟩
        · exact absurd h0 hc)
    have RRC := Lib.hid (fun (k n : Int) (t : ByteArray) (sub : VL) (hgood : ¬ rdBad s) (hv : (rdV s).2.2 = val1 k n t sub) (hc : (walk1 k n t sub 1 4096).1 = 0) W => (readR_c s W (by omega)).mono (R' := fun e W' => ∃ (sa : Option Addr) (sc : Nat), e = .returned (.tuple #[.agg #[.int .i64 k, .int .i64 n, .string t, .slice sa sub.len sc], fltV 0 false 0]) ∧ sub.len ≤ sc ∧ RpL W' (fun b => b < W'.heap.size) sub sa ∧ Below W.heap.size W W') fun e W' h => by
      obtain ⟨hb, ⟨hbad, _⟩ | ⟨_, k', n', t', sub', hv', h⟩⟩ := h
      · exact absurd hbad hgood
      · rw [hv] at hv'
        injection hv' with e1 e2 e3 e4 _
        subst e1; subst e2; subst e3; subst e4
        rcases h with ⟨h0, _⟩ | ⟨_, sa, sc, hsc, hrep, he⟩
        · exact absurd hc h0
        · exact ⟨sa, sc, he, hsc, hrep.wide (fun b hb => hb.2), hb⟩)
    have SA := Lib.hid (fun (A : Nat) (W : World) (hW : Below w.heap.size w W) (hA : AtAt W A (rdV s).1 (.iface 142 (.pointer (some (ea 111))))) =>
      same_c (.iface 66 (.pointer (some ⟨A, 0, none⟩))) 111 true (rdV s).1 W (fun W' hW' => fault_at ea 10 A (rdV s).1 W' ((hse.below hW).below hW') (by decide) (hA.below hW')))
    have SB := Lib.hid (fun (c : Nat) (hc : c < 17) (W : World) (hW : Below w.heap.size w W) =>
      same_c (.iface 142 (.pointer (some (ea (101 + c))))) (101 + (c : Int)) false 0 W (fun W' hW' => fault_bare ea c W' ((hse.below hW).below hW') hc))
    have SC := Lib.hid (fun (W : World) => same_c .nilIface 0 false 0 W (fun W' hW' => fault_nil W'))
    have hfit0 : (val1 0 0 ⟨#[]⟩ .nil).fit := ⟨by decide, by decide, trivial, trivial⟩
    have VZ := Lib.hid (fun (W : World) => (sameV_c 0 0 ⟨#[]⟩ .nil none 0 0 0 ⟨#[]⟩ .nil none 0 W hfit0 hfit0 (Nat.le_refl _) (Nat.le_refl _) trivial trivial))
    rw [same1_iff.2 ⟨rfl, rfl, rfl, rfl⟩, show VL.nil.len = 0 from rfl] at VZ
    have HSE := Lib.hid hse
    have HEE := Lib.hid HE
    have HXX := Lib.hid HX
    clear HE HX hse htx hfit0
    have t0 : decide (500 < (s.size : Int)) = false := by rw [decide_eq_false_iff_not]; omega
    have t0b : decide (500 < s.size) = false := by rw [decide_eq_false_iff_not]; omega
    go_enter Tryd.func4, Tryd.ntmps4
    go_wp2_with fail
    refine F.out.mono ?_
    rintro e w2 ⟨rfl, hb2⟩
    have HB2 := Lib.hid hb2
    clear hb2
    go_wp2_with fail
    refine (RD.out _ HB2.out).mono ?_
    rintro e w3 ⟨hb3, ⟨hbad, A, hA0, hA, rfl⟩ | ⟨hgood, k, n, t, sub, hv, ⟨hne, rfl⟩ | ⟨h0, sa, sc, hsc, hrep, rfl⟩⟩⟩
    · have HB3 := Lib.hid (HB2.out.trans (below_le' hb3 HB2.out.size))
      have HA3 := Lib.hid (show AtAt w3 A (rdV s).1 (.iface 142 (.pointer (some (ea 111)))) from hA)
      have RR := Lib.hid (RRA.out hbad)
      obtain ⟨p, hp⟩ : ∃ p, p = (rdV s).1 := ⟨_, rfl⟩
      rw [← hp] at RR HA3 SA
      clear hb3 hA hbad hp
      unfold fltV at RR SA
      obtain ⟨W3, hW3⟩ : ∃ W3, W3 = w3.alloc (.cells #[.int .i64 0, .int .i64 0, .string ⟨#[]⟩, .slice none 0 0] 31) := ⟨_, rfl⟩
      have hb3' : Below w3.heap.size w3 W3 := by rw [hW3]; exact (Below.refl _ _).alloc (Nat.le_refl _) _
      have v3 : StB W3 w3.heap.size (.int .i64 0) (.int .i64 0) (.string ⟨#[]⟩) (.slice none 0 0) := by rw [hW3]; exact StB.new w3 _ _ _ _
      have HV3 := Lib.hid v3
      have HB3' := Lib.hid (HB3.out.trans (below_le' hb3' HB3.out.size))
      have HS3 := Lib.hid hb3'
      have HW3 := Lib.hid hW3
      clear hW3 hb3' v3
      go_wp2_with fail
      rw [← HW3.out]
      refine (RR.out _).mono ?_
      rintro e w4 ⟨rfl, hb4⟩
      go_wp2_with fail
      obtain ⟨wc, hwc⟩ : ∃ wc, wc = w4.alloc (.cells #[.int .i64 0, .int .i64 0, .string ⟨#[]⟩, .slice none 0 0] 31) := ⟨_, rfl⟩
      obtain ⟨W0, hW0⟩ : ∃ W0, W0 = wc.alloc (.cells #[.int .i64 111, .bool true, .int .i64 p, .int .i64 0, .int .i64 0, .string ⟨#[]⟩, .slice none 0 0] 37) := ⟨_, rfl⟩
      have hzc : wc.heap.size = w4.heap.size + 1 := by rw [hwc]; simp
      have b0 : Below w4.heap.size w4 W0 := by rw [hW0, hwc]; exact ((Below.refl _ _).alloc (Nat.le_refl _) _).alloc (by simp) _
      have V6 := Lib.hid (show StB W0 w4.heap.size (.int .i64 0) (.int .i64 0) (.string ⟨#[]⟩) (.slice none 0 0) by rw [hW0, hwc]; exact (StB.new w4 _ _ _ _).alloc _)
      have F7 := Lib.hid (show StF W0 (w4.heap.size + 1) (.int .i64 111) (.bool true) (.int .i64 p) (.int .i64 0) (.int .i64 0) (.string ⟨#[]⟩) (.slice none 0 0) by rw [hW0, ← hzc]; exact StF.new wc _ _ _ _ _ _ _)
      have V4 := Lib.hid ((HV3.out.below' hb4).below' b0)
      have HB0 := Lib.hid ((HB3'.out.trans (below_le' hb4 HB3'.out.size)).trans (below_le' b0 (by have := hb4.size; have := HB3'.out.size; omega)))
      have HS4 := Lib.hid (show Below W3.heap.size W3 W0 from hb4.trans (below_le' b0 hb4.size))
      have HS5 := Lib.hid b0
      have HW0 := Lib.hid (show W0 = (w4.alloc (.cells #[.int .i64 0, .int .i64 0, .string ⟨#[]⟩, .slice none 0 0] 31)).alloc (.cells #[.int .i64 111, .bool true, .int .i64 p, .int .i64 0, .int .i64 0, .string ⟨#[]⟩, .slice none 0 0] 37) by rw [hW0, hwc])
      obtain ⟨c0, c1, c2, c3, c4, c5, c6⟩ := F7.out.cells
      rw [HW0.out] at c0 c1 c2 c3 c4 c5 c6
      clear hwc hW0 hzc b0 hb4
      go_wp2_with fail
      rw [← HW0.out]
      refine (SA.out A W0 HB0.out ((HA3.out.below HS3.out).below HS4.out)).mono ?_
      rintro e w5 ⟨rfl, hb5⟩
      have HB5 := Lib.hid (HB0.out.trans (below_le' hb5 HB0.out.size))
      have V45 := V4.out.below' hb5
      have V65 := V6.out.below' hb5
      have HS6 := Lib.hid hb5
      clear hb5 c0 c1 c2 c3 c4 c5 c6
      have a0 := V45.c0; have a1 := V45.c1; have a2 := V45.c2; have a3 := V45.c3
      have b0 := V65.c0; have b1 := V65.c1; have b2 := V65.c2; have b3 := V65.c3
      have HV45 := Lib.hid V45
      clear V45 V65
      go_wp2_with fail
      refine (VZ.out _).mono ?_
      rintro e w6 ⟨rfl, hb6⟩
      have HB6 := Lib.hid (HB5.out.trans (below_le' hb6 HB5.out.size))
      clear hb6 a0 a1 a2 a3 b0 b1 b2 b3
      go_wp2_with fail
      go_returns
      exact ⟨rfl, HB6.out⟩
    · obtain ⟨c, hc17, hcc⟩ := walk1_code k n t sub hne
      have HB3 := Lib.hid (HB2.out.trans (below_le' hb3 HB2.out.size))
      have RR := Lib.hid (RRB.out k n t sub hgood hv hne)
      have hev : errV ea (walk1 k n t sub 1 4096).1 = .iface 142 (.pointer (some (ea (101 + c)))) := by unfold errV; rw [if_neg hne, hcc]
      rw [hev]
      rw [hcc, show (((101 + c : Nat)) : Int) = 101 + (c : Int) from by omega] at RR
      have SB' := Lib.hid (SB.out c hc17)
      clear hb3 hgood hv hne hcc hev
      unfold fltV at RR SB'
      obtain ⟨W3, hW3⟩ : ∃ W3, W3 = w3.alloc (.cells #[.int .i64 0, .int .i64 0, .string ⟨#[]⟩, .slice none 0 0] 31) := ⟨_, rfl⟩
      have hb3' : Below w3.heap.size w3 W3 := by rw [hW3]; exact (Below.refl _ _).alloc (Nat.le_refl _) _
      have v3 : StB W3 w3.heap.size (.int .i64 0) (.int .i64 0) (.string ⟨#[]⟩) (.slice none 0 0) := by rw [hW3]; exact StB.new w3 _ _ _ _
      have HV3 := Lib.hid v3
      have HB3' := Lib.hid (HB3.out.trans (below_le' hb3' HB3.out.size))
      have HS3 := Lib.hid hb3'
      have HW3 := Lib.hid hW3
      clear hW3 hb3' v3
      go_wp2_with fail
      rw [← HW3.out]
      refine (RR.out _).mono ?_
      rintro e w4 ⟨rfl, hb4⟩
      go_wp2_with fail
      obtain ⟨wc, hwc⟩ : ∃ wc, wc = w4.alloc (.cells #[.int .i64 0, .int .i64 0, .string ⟨#[]⟩, .slice none 0 0] 31) := ⟨_, rfl⟩
      obtain ⟨W0, hW0⟩ : ∃ W0, W0 = wc.alloc (.cells #[.int .i64 (101 + (c : Int)), .bool false, .int .i64 0, .int .i64 0, .int .i64 0, .string ⟨#[]⟩, .slice none 0 0] 37) := ⟨_, rfl⟩
      have hzc : wc.heap.size = w4.heap.size + 1 := by rw [hwc]; simp
      have b0 : Below w4.heap.size w4 W0 := by rw [hW0, hwc]; exact ((Below.refl _ _).alloc (Nat.le_refl _) _).alloc (by simp) _
      have V6 := Lib.hid (show StB W0 w4.heap.size (.int .i64 0) (.int .i64 0) (.string ⟨#[]⟩) (.slice none 0 0) by rw [hW0, hwc]; exact (StB.new w4 _ _ _ _).alloc _)
      have F7 := Lib.hid (show StF W0 (w4.heap.size + 1) (.int .i64 (101 + (c : Int))) (.bool false) (.int .i64 0) (.int .i64 0) (.int .i64 0) (.string ⟨#[]⟩) (.slice none 0 0) by rw [hW0, ← hzc]; exact StF.new wc _ _ _ _ _ _ _)
      have V4 := Lib.hid ((HV3.out.below' hb4).below' b0)
      have HB0 := Lib.hid ((HB3'.out.trans (below_le' hb4 HB3'.out.size)).trans (below_le' b0 (by have := hb4.size; have := HB3'.out.size; omega)))
      have HS4 := Lib.hid (show Below W3.heap.size W3 W0 from hb4.trans (below_le' b0 hb4.size))
      have HS5 := Lib.hid b0
      have HW0 := Lib.hid (show W0 = (w4.alloc (.cells #[.int .i64 0, .int .i64 0, .string ⟨#[]⟩, .slice none 0 0] 31)).alloc (.cells #[.int .i64 (101 + (c : Int)), .bool false, .int .i64 0, .int .i64 0, .int .i64 0, .string ⟨#[]⟩, .slice none 0 0] 37) by rw [hW0, hwc])
      obtain ⟨c0, c1, c2, c3, c4, c5, c6⟩ := F7.out.cells
      rw [HW0.out] at c0 c1 c2 c3 c4 c5 c6
      clear hwc hW0 hzc b0 hb4
      go_wp2_with fail
      rw [← HW0.out]
      refine (SB'.out W0 HB0.out).mono ?_
      rintro e w5 ⟨rfl, hb5⟩
      have HB5 := Lib.hid (HB0.out.trans (below_le' hb5 HB0.out.size))
      have V45 := V4.out.below' hb5
      have V65 := V6.out.below' hb5
      have HS6 := Lib.hid hb5
      clear hb5 c0 c1 c2 c3 c4 c5 c6
      have a0 := V45.c0; have a1 := V45.c1; have a2 := V45.c2; have a3 := V45.c3
      have b0 := V65.c0; have b1 := V65.c1; have b2 := V65.c2; have b3 := V65.c3
      have HV45 := Lib.hid V45
      clear V45 V65
      go_wp2_with fail
      refine (VZ.out _).mono ?_
      rintro e w6 ⟨rfl, hb6⟩
      have HB6 := Lib.hid (HB5.out.trans (below_le' hb6 HB5.out.size))
      clear hb6 a0 a1 a2 a3 b0 b1 b2 b3
      go_wp2_with fail
      go_returns
      exact ⟨rfl, HB6.out⟩
    · have HB3 := Lib.hid (HB2.out.trans (below_le' hb3 HB2.out.size))
      have RR := Lib.hid (RRC.out k n t sub hgood hv h0)
      have hg : (rdV s).2.1 = true ∧ s.size ≤ (rdV s).1 := Classical.not_not.1 hgood
      have hfit := valSp_fit s (by omega) (2 * s.size + 2) 0 (Nat.zero_le _)
      have h64 := valSp_i64 s (2 * s.size + 2) 0 hg.1
      rw [show (valSp s (2 * s.size + 2) 0).2.2 = val1 k n t sub from hv] at hfit h64
      have hts := rdV_inv hgood hv
      have htv : txtV k n t sub = s := by
        unfold txtV; rw [if_pos h0, ← hts]
      have SV := Lib.hid (fun (W : World) (sa' : Option Addr) (sc' : Nat) (h1 : sub.len ≤ sc') (h2 : RpL W (fun b => b < W.heap.size) sub sa) (h3 : RpL W (fun b => b < W.heap.size) sub sa') => sameV_c k n t sub sa sc k n t sub sa' sc' W hfit hfit hsc h1 h2 h3)
      rw [same1_iff.2 ⟨rfl, rfl, rfl, rfl⟩] at SV
      have TX := Lib.hid (fun (W : World) (hW : Below w.heap.size w W) (h2 : RpL W (fun b => b < W.heap.size) sub sa) => Text_c k n t sub sa sc ea W (HEE.out W hW) (HXX.out W hW) hfit h64 hsc h2)
      rw [htv] at TX
      have HREP := Lib.hid hrep
      have hse := str_eq s
      clear hb3 hgood hv h0 hg hfit h64 hts htv hrep
      unfold fltV at RR SC
      obtain ⟨W3, hW3⟩ : ∃ W3, W3 = w3.alloc (.cells #[.int .i64 k, .int .i64 n, .string t, .slice sa sub.len sc] 31) := ⟨_, rfl⟩
      have hb3' : Below w3.heap.size w3 W3 := by rw [hW3]; exact (Below.refl _ _).alloc (Nat.le_refl _) _
      have v3 : StB W3 w3.heap.size (.int .i64 k) (.int .i64 n) (.string t) (.slice sa sub.len sc) := by rw [hW3]; exact StB.new w3 _ _ _ _
      have HV3 := Lib.hid v3
      have HB3' := Lib.hid (HB3.out.trans (below_le' hb3' HB3.out.size))
      have HS3 := Lib.hid hb3'
      have HW3 := Lib.hid hW3
      clear hW3 hb3' v3
      go_wp2_with fail
      rw [← HW3.out]
      refine (RR.out _).mono ?_
      rintro e w4 ⟨sa', sc', rfl, hsc', hrep', hb4⟩
      have HREP' := Lib.hid hrep'
      clear hrep'
      go_wp2_with fail
      obtain ⟨wc, hwc⟩ : ∃ wc, wc = w4.alloc (.cells #[.int .i64 k, .int .i64 n, .string t, .slice sa' sub.len sc'] 31) := ⟨_, rfl⟩
      obtain ⟨W0, hW0⟩ : ∃ W0, W0 = wc.alloc (.cells #[.int .i64 0, .bool false, .int .i64 0, .int .i64 0, .int .i64 0, .string ⟨#[]⟩, .slice none 0 0] 37) := ⟨_, rfl⟩
      have hzc : wc.heap.size = w4.heap.size + 1 := by rw [hwc]; simp
      have b0 : Below w4.heap.size w4 W0 := by rw [hW0, hwc]; exact ((Below.refl _ _).alloc (Nat.le_refl _) _).alloc (by simp) _
      have V6 := Lib.hid (show StB W0 w4.heap.size (.int .i64 k) (.int .i64 n) (.string t) (.slice sa' sub.len sc') by rw [hW0, hwc]; exact (StB.new w4 _ _ _ _).alloc _)
      have F7 := Lib.hid (show StF W0 (w4.heap.size + 1) (.int .i64 0) (.bool false) (.int .i64 0) (.int .i64 0) (.int .i64 0) (.string ⟨#[]⟩) (.slice none 0 0) by rw [hW0, ← hzc]; exact StF.new wc _ _ _ _ _ _ _)
      have V4 := Lib.hid ((HV3.out.below' hb4).below' b0)
      have HB0 := Lib.hid ((HB3'.out.trans (below_le' hb4 HB3'.out.size)).trans (below_le' b0 (by have := hb4.size; have := HB3'.out.size; omega)))
      have HS4 := Lib.hid (show Below W3.heap.size W3 W0 from hb4.trans (below_le' b0 hb4.size))
      have HS5 := Lib.hid b0
      have HW0 := Lib.hid (show W0 = (w4.alloc (.cells #[.int .i64 k, .int .i64 n, .string t, .slice sa' sub.len sc'] 31)).alloc (.cells #[.int .i64 0, .bool false, .int .i64 0, .int .i64 0, .int .i64 0, .string ⟨#[]⟩, .slice none 0 0] 37) by rw [hW0, hwc])
      obtain ⟨c0, c1, c2, c3, c4, c5, c6⟩ := F7.out.cells
      rw [HW0.out] at c0 c1 c2 c3 c4 c5 c6
      clear hwc hW0 hzc b0 hb4
      go_wp2_with fail
      rw [← HW0.out]
      refine (SC.out W0).mono ?_
      rintro e w5 ⟨rfl, hb5⟩
      have HB5 := Lib.hid (HB0.out.trans (below_le' hb5 HB0.out.size))
      have V45 := V4.out.below' hb5
      have V65 := V6.out.below' hb5
      have HS6 := Lib.hid hb5
      clear hb5 c0 c1 c2 c3 c4 c5 c6
      have a0 := V45.c0; have a1 := V45.c1; have a2 := V45.c2; have a3 := V45.c3
      have b0 := V65.c0; have b1 := V65.c1; have b2 := V65.c2; have b3 := V65.c3
      have HV45 := Lib.hid V45
      clear V45 V65
      go_wp2_with fail
      have R5 : RpL w5 (fun b => b < w5.heap.size) sub sa := HREP.out.keep (fun b hb => (HS6.out.block b (by have h1 := HS3.out.size; have h2 := HS4.out.size; have := hb.2; omega)).trans ((HS4.out.block b (by have h1 := HS3.out.size; have := hb.2; omega)).trans (HS3.out.block b hb.2))) (fun b hb => by have h1 := HS3.out.size; have h2 := HS4.out.size; have h3 := HS6.out.size; have := hb.2; omega)
      have R5' : RpL w5 (fun b => b < w5.heap.size) sub sa' := HREP'.out.keep (fun b hb => (HS6.out.block b (by have h2 := HS5.out.size; omega)).trans (HS5.out.block b hb)) (fun b hb => by have h2 := HS5.out.size; have h3 := HS6.out.size; omega)
      have SV5 := Lib.hid (SV.out w5 sa' sc' hsc' R5 R5')
      have HR5 := Lib.hid R5
      clear R5 R5'
      refine SV5.out.mono ?_
      rintro e w6 ⟨rfl, hb6⟩
      have HB6 := Lib.hid (HB5.out.trans (below_le' hb6 HB5.out.size))
      have V46 := HV45.out.below' hb6
      have TX6 := Lib.hid (TX.out w6 HB6.out (HR5.out.keep (fun b hb => hb6.block b hb) (fun b hb => by have := hb6.size; omega)))
      clear hb6 a0 a1 a2 a3 b0 b1 b2 b3
      have a0 := V46.c0; have a1 := V46.c1; have a2 := V46.c2; have a3 := V46.c3
      clear V46
      go_wp2_with fail
      refine TX6.out.mono ?_
      rintro e w7 ⟨rfl, hb7⟩
      have HB7 := Lib.hid (HB6.out.trans (below_le' hb7 HB6.out.size))
      clear hb7 a0 a1 a2 a3
      go_wp2_with fail
      go_returns
      exact ⟨rfl, HB7.out⟩
  · have t0 : decide (500 < (s.size : Int)) = true := by rw [decide_eq_true_eq]; omega
    have t0b : decide (500 < s.size) = true := by rw [decide_eq_true_eq]; omega
    clear hse htx
    go_enter Tryd.func4, Tryd.ntmps4
    go_wp2_with fail
    refine F.out.mono ?_
    rintro e w2 ⟨rfl, hb2⟩
    have HB2 := Lib.hid hb2
    clear hb2
    go_wp2_with fail
    go_returns
    exact ⟨rfl, HB2.out⟩
end Go.Proofs.YtoemnccklakkeaaDoor
namespace Go.Proofs.YtoemnccklakkeaaDoor
open Go.RowKit Go.Lib Go.ChangeShapes Go.WideShapes
set_option linter.unusedVariables false

/-- The variables that hold these errors. -/
def AllSent (W : World) : List (String × Nat) → List Addr → Prop
  | [], [] => True
  | x :: l, a :: bs => W.cell? ⟨x.2, 0, none⟩ = some (.iface 142 (.pointer (some a))) ∧ (∃ c t, W.heap[a.block]? = some (.cells c t (0, 0))) ∧ AllSent W l bs
  | [], _ :: _ => False
  | _ :: _, [] => False
theorem AllSent.len {W : World} : ∀ {l : List (String × Nat)} {bs : List Addr}, AllSent W l bs → bs.length = l.length
  | [], [], _ => rfl
  | x :: l, a :: bs, h => by rw [List.length_cons, List.length_cons, AllSent.len h.2.2]
  | [], _ :: _, h => h.elim
  | _ :: _, [], h => h.elim
theorem AllSent.get {W : World} : ∀ {l : List (String × Nat)} {bs : List Addr} (k : Nat), AllSent W l bs → k < l.length →
    W.cell? ⟨(l.getD k ("", 0)).2, 0, none⟩ = some (.iface 142 (.pointer (some (bs.getD k ⟨0, 0, none⟩)))) ∧ ∃ c t, W.heap[(bs.getD k ⟨0, 0, none⟩).block]? = some (.cells c t (0, 0))
  | [], [], k, _, hk => absurd hk (Nat.not_lt_zero _)
  | x :: l, a :: bs, 0, h, _ => ⟨h.1, h.2.1⟩
  | x :: l, a :: bs, k + 1, h, hk => by
    rw [List.getD_cons_succ, List.getD_cons_succ]
    exact AllSent.get k h.2.2 (by rw [List.length_cons] at hk; omega)
  | [], _ :: _, _, h, _ => h.elim
  | _ :: _, [], _, h, _ => h.elim

set_option maxRecDepth 100000 in
theorem sents_of {W : World} : ∀ (l : List (String × DataW Unit × Nat)) (rest : List (String × DataW Unit)) (ps : List MemPlace), DataW.LaidVars Tryd.prog W ((l.map fun x => (x.1, x.2.1)) ++ rest) ps →
    (∀ x ∈ l, (∃ t, x.2.1 = .iface "*errors.errorString" (.ptr (.agg [.lit (.string t)]))) ∧ Tryd.prog.globalNamed x.1 = some x.2.2 ∧ (Tryd.prog.globals[x.2.2]?).map (·.type) = some 33) →
    (∀ b off, MemPlace.cell b off ∈ ps → (∃ c t, W.heap[b]? = some (.cells c t (0, 0))) ∧ ∀ u v, W.cell? ⟨b, off, none⟩ = some (.iface u v) → Value.okWide Tryd.prog W .any 0 u v) →
    ∃ bs : List Addr, AllSent W (l.map fun x => (x.1, x.2.2)) bs ∧ List.Sublist (bs.map fun a => MemPlace.cell a.block a.off) ps
  | [], rest, ps, _, _, _ => ⟨[], trivial, List.nil_sublist _⟩
  | x :: l, rest, ps, h, hl, hrows => by
    obtain ⟨⟨text, hx⟩, hg, ht⟩ := hl x (by simp)
    obtain ⟨n, d, g⟩ := x
    simp only at hx hg ht
    subst hx
    obtain ⟨g0, t0, cs0, f0, p0, q0, hg0, ht0, hv0, hd0, hrest, e0⟩ := h
    obtain rfl := Option.some.inj (hg.symm.trans hg0)
    obtain rfl := Option.some.inj (ht.symm.trans ht0)
    subst e0
    obtain ⟨l0⟩ := cs0
    have ok0 : ∀ u v, l0 = [.iface u v] → Value.okWide Tryd.prog W .any 0 u v := fun u v e => by
      subst e
      exact (hrows g 0 (by simp [MemPlace.row])).2 u v (by simpa using World.var?_cell hg0 hv0 0)
    obtain ⟨a, s, rfl, hc0, hs0, hz0, rfl⟩ := errorString_of_trod Tryd.underlying33 row_err Tryd.underlying142 Tryd.underlying144 rfl rfl Tryd.underlying9 (by kernel_rfl) (by kernel_rfl) hd0 ok0
    obtain ⟨bs, has, hsub⟩ := sents_of l rest q0 hrest (fun x hx => hl x (by simp [hx])) (fun b off hb => hrows b off (by simp [hb]))
    refine ⟨a :: bs, ⟨by simpa using World.var?_cell hg0 hv0 0, (hrows a.block a.off (by simp [MemPlace.row])).1, has⟩, ?_⟩
    have e1 : MemPlace.row a 1 = [MemPlace.cell a.block a.off] := by simp [MemPlace.row]
    rw [e1, List.map_cons, List.append_assoc]
    exact (List.Sublist.cons_cons _ hsub).trans (List.sublist_append_right _ _)

/-- All of api's errors lie in places of their own. -/
theorem sees_of {W : World} (l : List (String × DataW Unit × Nat)) (rest : List (String × DataW Unit)) (h : laidMet Tryd.prog ((l.map fun x => (x.1, x.2.1)) ++ rest) W) (hG : l.map (fun x => x.2.2) = seeG)
    (hl : ∀ x ∈ l, (∃ t, x.2.1 = .iface "*errors.errorString" (.ptr (.agg [.lit (.string t)]))) ∧ Tryd.prog.globalNamed x.1 = some x.2.2 ∧ (Tryd.prog.globals[x.2.2]?).map (·.type) = some 33) (hr : 24 < W.heap.size) : ∃ ea, SeesAt W ea := by
  obtain ⟨ps, hv, hnd, hrows⟩ := h
  obtain ⟨bs, has, hsub⟩ := sents_of l rest ps hv hl hrows
  have hlen : l.length = 17 := by have := congrArg List.length hG; rw [List.length_map] at this; exact this
  have hal := has.len
  rw [List.length_map, hlen] at hal
  have hk : ∀ k, k < 17 → ((l.map fun x => (x.1, x.2.2)).getD k ("", 0)).2 = seeG.getD k 0 := by
    intro k hk
    rw [← hG]
    simp only [List.getD_eq_getElem?_getD, List.getElem?_map]
    rw [List.getElem?_eq_getElem (by omega)]; rfl
  have he : ∀ k, 101 + k - 101 = k := fun k => by omega
  refine ⟨fun k => bs.getD (k - 101) ⟨0, 0, none⟩, fun k h17 => ?_, fun k h17 => ?_, fun i j hi hj e => ?_, hr⟩
  · rw [← hk k h17]
    simp only [he]
    exact (has.get k (by rw [List.length_map, hlen]; exact h17)).1
  · simp only [he]
    exact (has.get k (by rw [List.length_map, hlen]; exact h17)).2
  · simp only [he] at e
    have hnd2 := hnd.sublist hsub
    rw [List.Nodup, List.pairwise_iff_getElem] at hnd2
    rw [List.getD_eq_getElem?_getD, List.getD_eq_getElem?_getD, List.getElem?_eq_getElem (by omega), List.getElem?_eq_getElem (by omega)] at e
    simp only [Option.getD_some] at e
    rcases Nat.lt_trichotomy i j with hij | hij | hij
    · exact absurd (by rw [List.getElem_map, List.getElem_map, e]) (hnd2 i j (by rw [List.length_map]; omega) (by rw [List.length_map]; omega) hij)
    · exact hij
    · exact absurd (by rw [List.getElem_map, List.getElem_map, e]) (hnd2 j i (by rw [List.length_map]; omega) (by rw [List.length_map]; omega) hij)
end Go.Proofs.YtoemnccklakkeaaDoor
namespace Go.Proofs.YtoemnccklakkeaaDoor
open Go.ChangeShapes Go.WideShapes Go.ChangeAt Go.RowKit Go.Lib
open Go.ChangeMaps (open_string shut_string)
set_option linter.unusedVariables false

theorem reads_laid {W : World} (h : laidMetH Tryd.prog Rows.litReadsRow.laid W) (hs : W.ShapedOpen Tryd.prog) : (∃ ea, SeesAt W ea) ∧ TxAt W := by
  rw [MakeChecks.laidMetH_plain _ _ _ (by kernel_rfl)] at h
  have hr := room_of hs
  have ht : TabIs Tryd.prog W "internal/strconv.uint64pow10" .u64 pow10Tab := tabIs_of_head (g := 5) (by kernel_rfl) (by kernel_rfl) Tryd.underlying132 Tryd.underlying61 (by kernel_rfl) (by kernel_rfl) h.tail.tail
  have hse := sees_of [("inglenook/api.ErrEnd", Rows.laid_inglenook_api_ErrEnd, 8), ("inglenook/api.ErrSum", Rows.laid_inglenook_api_ErrSum, 9), ("inglenook/api.ErrShape", Rows.laid_inglenook_api_ErrShape, 7), ("inglenook/api.ErrMany", Rows.laid_inglenook_api_ErrMany, 2), ("inglenook/api.ErrRange", Rows.laid_inglenook_api_ErrRange, 6), ("inglenook/api.ErrName", Rows.laid_inglenook_api_ErrName, 10), ("inglenook/api.ErrNone", Rows.laid_inglenook_api_ErrNone, 11), ("inglenook/api.ErrThere", Rows.laid_inglenook_api_ErrThere, 12), ("inglenook/api.ErrFull", Rows.laid_inglenook_api_ErrFull, 13), ("inglenook/api.ErrCrash", Rows.laid_inglenook_api_ErrCrash, 14), ("inglenook/api.ErrSyntax", Rows.laid_inglenook_api_ErrSyntax, 0), ("inglenook/api.ErrDeep", Rows.laid_inglenook_api_ErrDeep, 1), ("inglenook/api.ErrTicks", Rows.laid_inglenook_api_ErrTicks, 15), ("inglenook/api.ErrWaits", Rows.laid_inglenook_api_ErrWaits, 16), ("inglenook/api.ErrClosed", Rows.laid_inglenook_api_ErrClosed, 17), ("inglenook/api.ErrWord", Rows.laid_inglenook_api_ErrWord, 18), ("inglenook/api.ErrNumber", Rows.laid_inglenook_api_ErrNumber, 19)] [("unicode/utf8.first", Rows.laid_unicode_utf8_first)] h.tail.tail.tail.tail rfl (by
    intro x hx
    simp only [List.mem_cons, List.not_mem_nil, or_false] at hx
    rcases hx with rfl | rfl | rfl | rfl | rfl | rfl | rfl | rfl | rfl | rfl | rfl | rfl | rfl | rfl | rfl | rfl | rfl <;> exact ⟨⟨_, rfl⟩, by kernel_rfl, by kernel_rfl⟩) hr
  exact ⟨hse, ⟨ht, hr, Tryd.laysM155.s1_3 W hs⟩⟩

theorem reads_door (os : Os) (args : Array Value) : laidMetH Tryd.prog Rows.litReadsRow.laid ((World.laidAll Tryd.prog os Rows.litReadsRow.laid).forCall (fun _ _ => 0) ⟨#[], args, []⟩).memory := by
  rw [MakeChecks.laidMetH_plain _ _ _ (by kernel_rfl)]; exact laidMet_laidAll _ (by kernel_rfl) (by kernel_rfl)

set_option maxRecDepth 100000 in
theorem reads_lifted (os : Os) (started : os.Started) (H : Type) (enc : TypeId × Value → H) :
    ReturnsInHanded {} Tryd.checked os 4 .any (fun w args => (Rows.litReadsSpec.pre enc Tryd.prog Tryd.f4 [] false w args ∧ laidMetH Tryd.prog Rows.litReadsRow.laid w) ∧ sizedMet enc Tryd.prog Tryd.f4 (OpenSpec.ofChange Rows.litReadsSpec) false w args)
      (Rows.litReadsSpec.post enc Tryd.prog Tryd.f4 false true false false) := by
  refine handed_and_shaped (C := Tryd.checked) (X := fun w _ => laidMetH Tryd.prog Rows.litReadsRow.laid w) (fun _ _ _ hh h => h.of_heap hh) own_knob started (by kernel_rfl) Tryd.func4
    (ChangeSpec.witness_shaped (enc := enc) (C := Tryd.checked) (os := os) (X := fun w _ => laidMetH Tryd.prog Rows.litReadsRow.laid w) false (World.laidAll Tryd.prog os Rows.litReadsRow.laid) #[.string ByteArray.empty] 8 (World.laidAll_os _ _ _) (World.shaped_of_ZipB (by kernel_rfl) (by kernel_rfl)) (by kernel_rfl) (by kernel_rfl) (by kernel_rfl) (reads_door os _)) ?_
  intro W base args ds gs before hval0 hW hwt hL hS
  have hval : ∀ (j : Nat) t v, Tryd.f4.params[j]? = some t → args[j]? = some v → Value.okWide Tryd.prog W .any base t v := hval0
  have hW' := hW
  obtain ⟨p, q, hA0, hV, rfl, hfz, hnd⟩ := hW
  have hA : DataW.TrodAll enc Tryd.prog W 0 (fun _ => true) true Tryd.f4.params.toList args.toList ds p := hA0
  rw [Tryd.params4] at hA hval
  obtain ⟨v0, vs0, d0, ds0, p0, q0, hargs, rfl, rfl, h0, r0⟩ := trodAll_cons hA
  obtain ⟨rfl, rfl, rfl⟩ := trodAll_nil r0
  obtain rfl : args = #[v0] := by cases args; simp_all
  obtain ⟨rfl, rfl⟩ := trodVars_none hV
  obtain ⟨a0, rfl, rfl, rfl, w0⟩ := open_string Tryd.underlying9 (hval 0 9 v0 rfl rfl) h0
  clear hA0 hval0
  simp only [List.append_nil] at hW'
  obtain ⟨⟨ea, hse⟩, htx⟩ := reads_laid hL hS
  refine (litReads_c a0 ea W hse htx).mono fun e W' ⟨he, hb⟩ => ?_
  subst he
  exact ⟨_, rfl, _, _, _, [], [], [], hW', (trodAll_cons_mk (shut_bool Tryd.underlying4 _) trodAll_mk0), (trodAll_cons_mk (shut_string Tryd.underlying9 w0) trodAll_mk0), rfl, hb.frame _, fun h => by cases h⟩

theorem litReads_holds : Rows.LitReadsSaid :=
  OpenClaim.holds_of_wide 4 Tryd.f4 rfl rfl rfl rfl rfl rfl rfl ⟨rfl, rfl, rfl, rfl, rfl⟩ rfl rfl rfl rfl rfl (by kernel_rfl) Tryd.func4 (by kernel_rfl)
    (of_decide_eq_true (by kernel_rfl)) (by unfold Func.isWrapper; first | (rw [if_pos (by decide +kernel)]; kernel_rfl) | (rw [if_neg (by decide +kernel)]; exact ⟨rfl, rfl⟩))
    (fun os started H enc _ => reads_lifted os started H enc)

/-- THE TIED CARD. -/
theorem litReads_card : Rows.LitReadsCardSaid :=
  Claim7.holds_tied_plain_at .later [] [.data, .data, .data, .data, .sentinel, .sentinel, .sentinel, .sentinel, .sentinel, .sentinel, .sentinel, .sentinel, .sentinel, .sentinel, .sentinel, .sentinel, .sentinel, .sentinel, .sentinel, .sentinel, .sentinel, .pinned] true (true, "22319db88f70a56ce4b2bad35f7018789af83f993724aae3bdd95c772fdcf8c5") true
    litReads_holds (fun _ h => by cases h) (by kernel_rfl) (fun _ h => by cases h) litReads_row_tie rfl ⟨rfl, rfl⟩ (by kernel_rfl) rfl
    (fun f fn hf hfn => by
      obtain rfl : f = 4 := Option.some.inj ((show Tryd.prog.funcNamed "inglenook/inglenooklaw2.LitReads" = some 4 by kernel_rfl).symm.trans hf) |>.symm
      obtain rfl : fn = Tryd.f4 := (Option.some.inj (Tryd.func4.symm.trans hfn)).symm
      exact ⟨by kernel_rfl, fun j t ht => by
        rw [Tryd.params4] at ht
        have h3 : t = 9 := by
          rcases j with _ | j
          · simpa using ht.symm
          · simp at ht
        rcases h3 with rfl
        · exact (show Tryd.prog.wantsStandIn 9 = false by kernel_rfl)
        ⟩)
    (by kernel_rfl)
#print axioms litReads_card
end Go.Proofs.YtoemnccklakkeaaDoor
