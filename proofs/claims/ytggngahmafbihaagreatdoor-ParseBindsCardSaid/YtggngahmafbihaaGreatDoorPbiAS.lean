/- Contracts of the functions that the statement reaches, and the plain mathematics beneath: several texts joined. -/
import Derived.Test.YtggngahmafbihaaGreatDoorPbiAL
namespace Go.Proofs.YtggngahmafbihaaGreatDoor
open Go.RowKit Go.Lib
set_option linter.unusedVariables false

theorem own_from {g n c b : Nat} (h : b ≤ g) : ∀ k, (Value.slice (some ⟨g, 0, none⟩) n c).ownBlock = some k → b ≤ k := by
  intro k hk
  have : g = k := by simpa [Value.ownBlock] using hk
  omega
theorem Mvd.appB {a w w' : World} {X : PCtx} {p : PS} {D : Nat → Prop} {V : Value} {l : NL} {b : Nat} (h : Mvd a w X p) (ho : OwnN w D V l) (hb : ∀ g, V.ownBlock = some g → b ≤ g) (hP : X.P < b) (ha : a.heap.size ≤ b) (hg : w.grownBy w' V.ownBlock) : Mvd a w' X p := by
  refine ⟨h.st.keep (fun k hk => hg.block k (by have := h.st.lt; omega) (fun e => by have := hb k e.symm; omega)) (fun A line _ hA => hg.block A (heap_lt hA) (fun e => ?_)) hg.size, ⟨hg.os.trans h.grown.os, hg.tape.trans h.grown.tape, hg.output.trans h.grown.output, Nat.le_trans h.grown.size hg.size, fun k hk hne => (hg.block k (Nat.lt_of_lt_of_le hk h.grown.size) (fun e => by have := hb k e.symm; omega)).trans (h.grown.block k hk hne)⟩⟩
  obtain ⟨xs, ho, _⟩ := ho
  rcases ho.2 with ⟨rfl, _⟩ | ⟨g, cap, cur, rfl, _, hh, _⟩
  · cases e
  · have e : A = g := by simpa [Value.ownBlock] using e
    subst e
    rw [hA] at hh
    injection hh with hh
    injection hh with _ hh _
    exact absurd hh (by decide)
/-- As AppR, the row's nodes in blocks of any sort, its own block from one on. -/
def AppG (X : PCtx) (a W0 : World) (q : PS) (D : Nat → Prop) (b addr : Nat) (c0 c1 c2 c3 c4 c5 c6 : Value) (l x : NL) (m : Nat) (d : Int) (wx : World) : Prop :=
  ∃ V', Mvd a wx X q ∧ q.deep = d ∧ NdB wx addr c0 c1 c2 c3 c4 c5 c6 V' ∧ OwnN wx D V' (l.app x) ∧ (∀ g, V'.ownBlock = some g → b ≤ g) ∧ x.len ≤ m ∧ okN x ∧ W0.heap.size ≤ wx.heap.size ∧
    ∀ (g : Nat) (d0 d1 d2 d3 d4 d5 d6 d7 : Value), g < b → g ≠ addr → X.P < g → NdB W0 g d0 d1 d2 d3 d4 d5 d6 d7 → NdB wx g d0 d1 d2 d3 d4 d5 d6 d7
theorem app_relG {a W0 W W2 w9 : World} {X : PCtx} {q : PS} {D : Nat → Prop} {b addr m : Nat} {V V' c0 c1 c2 c3 c4 c5 c6 : Value} {l x : NL} {d : Int} (hW : W0.grownBy W (some X.P)) (hm : Mvd a W X q) (hN : NdB W addr c0 c1 c2 c3 c4 c5 c6 V) (hV : OwnN W D V l) (hD : ¬ D addr) (hb : ∀ g, V.ownBlock = some g → b ≤ g) (hP : X.P < b) (ha : a.heap.size ≤ b) (hPa : X.P < addr) (haa : a.heap.size ≤ addr) (hbW : b ≤ W.heap.size)
    (h2 : Below W.heap.size W W2) (hown : OwnN w9 D V' (l.app x)) (hg : W2.grownBy w9 V.ownBlock) (hob : V'.ownBlock = V.ownBlock ∨ V'.ownBlock = some W2.heap.size) (hx : x.len ≤ m) (hk : okN x) (hd : q.deep = d) : AppG X a W0 q D b addr c0 c1 c2 c3 c4 c5 c6 l x m d (w9.setCell ⟨addr, 7, none⟩ V') := by
  have h1 : Mvd a w9 X q := (hm.below h2).appB (hV.below h2) hb hP ha hg
  have hN2 : NdB w9 addr c0 c1 c2 c3 c4 c5 c6 V := (hN.below' h2).app hg (fun e => hD (hV.ge addr e).1)
  have hz := hW.size
  have hz2 := h2.size
  have hz9 := hg.size
  refine ⟨V', h1.node hN2 hPa haa (only_set1 _ _ _ _), hd, hN2.set7 V', hown.keep (fun k hk _ => Below.heap_setCell _ _ _ _ (by show k ≠ addr; rintro rfl; exact hD hk)) (by rw [size_set]; exact Nat.le_refl _), fun g hgg => ?_, hx, hk, by rw [size_set]; omega, fun g d0 d1 d2 d3 d4 d5 d6 d7 hgb hga hgP hN0 => ?_⟩
  · rcases hob with h | h
    · exact hb g (h.symm.trans hgg)
    · rw [h] at hgg; injection hgg with hgg; omega
  · exact (((hN0.grown hW hgP).below' h2).app hg (fun e => by have := hb g e; omega)).far (by show g ≠ addr; exact hga) _
/-- The blocks of a sort, but for two, or three. -/
def DB2 (D : Nat → Prop) (i j : Nat) : Nat → Prop := fun k => D k ∧ k ≠ i ∧ k ≠ j
def DB3 (D : Nat → Prop) (i j h : Nat) : Nat → Prop := fun k => D k ∧ k ≠ i ∧ k ≠ j ∧ k ≠ h
theorem app_at3 {W : World} {D : Nat → Prop} {i j h B : Nat} {V Vx : Value} {l sub : NL} (hV : OwnN W (DB3 D i j h) V l) (hx : OwnN W (fun k => B ≤ k) Vx sub) (op ln : Int) (s : ByteArray) (k n : Int) (t : ByteArray) (va : Option Addr) (vc : Nat) (hDB : ∀ k, B ≤ k → D k) (hi : i < B) (hj : j < B) (hh : h < B) (hW : B ≤ W.heap.size) (hVB : ∀ g, V.ownBlock = some g → g < B) :
    OwnN (W.alloc (.cells (nd8 op ln s k n t va vc Vx) 31)) (DB3 D i j h) V l ∧
    RpN (W.alloc (.cells (nd8 op ln s k n t va vc Vx) 31)) (SN (W.alloc (.cells (nd8 op ln s k n t va vc Vx) 31)) (DB3 D i j h) V) (nd op ln s k n t sub) (some ⟨W.heap.size, 0, none⟩) :=
  ⟨hV.below ((Below.refl _ _).alloc (Nat.le_refl _) _), one_rpn hx op ln s k n t va vc hW (fun k (hk : B ≤ k) => ⟨hDB k hk, by omega, by omega, by omega⟩) (fun g hg (hk : B ≤ g) => by have := hVB g hg; omega)⟩

set_option maxRecDepth 100000 in
set_option maxHeartbeats 16000000 in
theorem behind_step (X : PCtx) (F : Nat) (hF : F ≤ 1000000000) (ih : EC X F) : BehC X (F + 1) := by
  intro op0 ln0 s0 kd0 n0 t0 va0 vc0 V0 sub0 D w p r hst h0 h1 hO0 hDP hDw hk0 hl0 hr
  have hPl := hst.lt
  have hlen := hst.len
  obtain ⟨i0, hi0, hz0, hz1, hz2⟩ := info_parts pnode_info
  have IH := Lib.hid ih
  have HR0 := Lib.hid hr
  clear ih hr
  obtain ⟨A0, C0, rfl⟩ := hO0.form
  unfold nd8
  obtain ⟨wa, hwa⟩ : ∃ wa, wa = (w.alloc (.cells #[.int .i64 op0, .int .i64 ln0, .string s0, .int .i64 kd0, .int .i64 n0, .string t0, .slice va0 0 vc0, .slice A0 sub0.len C0] 31)).alloc (.cells #[.int .i64 0, .int .i64 0, .string ⟨#[]⟩, .int .i64 0, .int .i64 0, .string ⟨#[]⟩, .slice none 0 0, .slice none 0 0] 31) := ⟨_, rfl⟩
  have hba : Below w.heap.size w wa := by rw [hwa]; exact ((Below.refl _ _).alloc (Nat.le_refl _) _).alloc (by simp) _
  have HMa := Lib.hid (show Mvd w wa X p by rw [hwa]; exact ((Mvd.of hst).alloc _).alloc _)
  have hsa : wa.heap.size = w.heap.size + 2 := by rw [hwa]; simp
  have HNa := Lib.hid (show NdB wa w.heap.size (.int .i64 op0) (.int .i64 ln0) (.string s0) (.int .i64 kd0) (.int .i64 n0) (.string t0) (.slice va0 0 vc0) (.slice A0 sub0.len C0) by rw [hwa]; exact (NdB.new _ _ _ _ _ _ _ _ _).alloc _)
  have HZa := Lib.hid (show zN wa (w.heap.size + 1) by rw [hwa]; exact zN.new1 w _)
  have HOa := Lib.hid ((hO0.wide (D' := DB2 D w.heap.size (w.heap.size + 1)) (fun k hk hk2 => ⟨hk, by omega, by omega⟩)).below hba)
  have HK0 := Lib.hid hk0
  have HDP := Lib.hid hDP
  have HDW := Lib.hid hDw
  have HWA := Lib.hid hwa
  clear hwa hba hO0 hk0 hDP hDw
  go_enter Tryz.func173, Tryz.ntmps173
  go_wp2_with fail
  rw [← HWA.out]
  go_loopg [] (F + 1) (fun kk wr => ∃ (op ln : Int) (s : ByteArray) (kd n : Int) (t : ByteArray) (va : Option Addr) (vc : Nat) (V : Value) (sub : NL) (q : PS), sub.len ≤ 2 * (F + 1) + 10 ∧ kk ≤ F + 1 ∧ q.deep = p.deep ∧ wa.heap.size ≤ wr.heap.size ∧ Hid (Mvd w wr X q) ∧ Hid (zN wr (w.heap.size + 1)) ∧ Hid (NdB wr w.heap.size (.int .i64 op) (.int .i64 ln) (.string s) (.int .i64 kd) (.int .i64 n) (.string t) (.slice va 0 vc) V) ∧ Hid (OwnN wr (DB2 D w.heap.size (w.heap.size + 1)) V sub) ∧ Hid (okN (nd op ln s kd n t sub)) ∧ Hid (prsR X.l kk (.behind (nd op ln s kd n t sub)) q = some r))
  case atStart => exact ⟨op0, ln0, s0, kd0, n0, t0, va0, vc0, _, sub0, p, hl0, Nat.le_refl _, rfl, Nat.le_refl _, HMa, HZa, HNa, HOa, HK0, HR0⟩
  case round =>
    obtain ⟨op, ln, s, kd, n, t, va, vc, V, sub, q, hsl, hkF, hqd, hs0, HM, HR, HN, HO, HK, HQ⟩ := hrel
    obtain ⟨AV, CV, hVf⟩ := HO.out.form
    subst hVf
    cases gk with
    | zero => have h := HQ.out; rw [prsR] at h; cases h
    | succ kk =>
    have hr := HQ.out
    rw [prsR] at hr
    obtain ⟨ev, hP, hE⟩ := HM.out.st.at_
    have c3 := hP.c3
    clear HQ
    cases he : q.err with
    | some x =>
      rw [he] at hE
      obtain ⟨ty, ve, rfl⟩ := errv_some hE
      replace hr : some (nd op ln s kd n t sub, q) = some r := by rw [← hr]; simp only [he]; rfl
      have HRR := Lib.hid (Option.some.inj hr).symm
      clear hP hE he hr
      have HOn := Lib.hid HO.out
      have c1_0 := HN.out.c0
      have c1_1 := HN.out.c1
      have c1_2 := HN.out.c2
      have c1_3 := HN.out.c3
      have c1_4 := HN.out.c4
      have c1_5 := HN.out.c5
      have c1_6 := HN.out.c6
      have c1_7 := HN.out.c7
      have c2_0 := HR.out.c0
      have f2_0 := HR.out.fr 0
      have c2_1 := HR.out.c1
      have f2_1 := HR.out.fr 1
      have c2_2 := HR.out.c2
      have f2_2 := HR.out.fr 2
      have c2_3 := HR.out.c3
      have f2_3 := HR.out.fr 3
      have c2_4 := HR.out.c4
      have f2_4 := HR.out.fr 4
      have c2_5 := HR.out.c5
      have f2_5 := HR.out.fr 5
      have c2_6 := HR.out.c6
      have f2_6 := HR.out.fr 6
      have c2_7 := HR.out.c7
      have f2_7 := HR.out.fr 7
      go_wp2_with fail
      refine ret_cell8 Tryz.results173 (w.heap.size + 1) rfl rfl (HR.out.set8 _ _ _ _ _ _ _ _) ?_
      exact PNd.mk op ln s kd n t va vc _ sub _ HRR.out (HM.out.node HR.out (by omega) (by omega) (only_set8 _ _ _ _ _ _ _ _ _ _)) ((HO.out.keep (fun k hk hk2 => (only_set8 _ _ _ _ _ _ _ _ _ _).block k hk2 (fun e => by injection e with e; have h2 := hk.2.2; omega)) (only_set8 _ _ _ _ _ _ _ _ _ _).size).wide (fun k hk _ => hk.1)) HK.out (by omega) (by first | omega | (simp <;> omega))
    | none =>
      rw [he] at hE
      obtain rfl : ev = .nilIface := hE
      replace hr : (if isS X.l q [91] then (if (downS (nextS q)).err.isNone then (prsR X.l kk .expr (downS (nextS q))).bind fun (x, p) => (if isS X.l p [46, 46] then (prsR X.l kk .expr (nextS p)).bind fun (y, p) => prsR X.l kk (.behind (ndL 21 ln (((nd op ln s kd n t sub).app x).app y))) (mustS X.l (upS p) [93]) else prsR X.l kk (.behind (ndL 20 ln ((nd op ln s kd n t sub).app x))) (mustS X.l (upS p) [93])) else prsR X.l kk (.behind (ndL 20 ln (nd op ln s kd n t sub))) (mustS X.l (upS (downS (nextS q))) [93]))
        else if isS X.l q [46] then (prsR X.l kk .part (nextS q)).bind fun (x, p) => prsR X.l kk (.behind (ndL 22 ln ((nd op ln s kd n t sub).app x))) p
        else if isS X.l q [58] then (prsR X.l kk .part (nextS q)).bind fun (x, p) => (prsR X.l kk (.items [41]) (mustS X.l p [40])).bind fun (y, p) => prsR X.l kk (.behind (ndL 23 ln (((nd op ln s kd n t sub).app x).app y))) p
        else some (nd op ln s kd n t sub, q)) = some r := by rw [← hr]; simp only [he]; rfl
      clear hP he
      cases hb : isS X.l q [91] with
      | true =>
        rw [hb] at hr
        have HB := Lib.hid hb
        clear hb
        replace hr : (if (downS (nextS q)).err.isNone then (prsR X.l kk .expr (downS (nextS q))).bind fun (x, p) => (if isS X.l p [46, 46] then (prsR X.l kk .expr (nextS p)).bind fun (y, p) => prsR X.l kk (.behind (ndL 21 ln (((nd op ln s kd n t sub).app x).app y))) (mustS X.l (upS p) [93]) else prsR X.l kk (.behind (ndL 20 ln ((nd op ln s kd n t sub).app x))) (mustS X.l (upS p) [93])) else prsR X.l kk (.behind (ndL 20 ln (nd op ln s kd n t sub))) (mustS X.l (upS (downS (nextS q))) [93])) = some r := hr
        cases hd : (downS (nextS q)).err.isNone with
        | false =>
          rw [hd] at hr
          have HD := Lib.hid hd
          clear hd
          have HQ2 := Lib.hid (show prsR X.l kk (.behind (ndL 20 ln (nd op ln s kd n t sub))) (mustS X.l (upS (downS (nextS q))) [93]) = some r from hr)
          clear hr
          have HOn := Lib.hid HO.out
          have c1_0 := HN.out.c0
          have c1_1 := HN.out.c1
          have c1_2 := HN.out.c2
          have c1_3 := HN.out.c3
          have c1_4 := HN.out.c4
          have c1_5 := HN.out.c5
          have c1_6 := HN.out.c6
          have c1_7 := HN.out.c7
          obtain ⟨w31, hw31⟩ : ∃ W, W = (wr.alloc (.cells #[.int .i64 op, .int .i64 ln, .string s, .int .i64 kd, .int .i64 n, .string t, .slice va 0 vc, .slice AV sub.len CV] 31)).alloc (.cells #[.int .i64 0, .int .i64 ln, .string ⟨#[]⟩, .int .i64 0, .int .i64 0, .string ⟨#[]⟩, .slice none 0 0, .slice (some ⟨wr.heap.size, 0, none⟩) 1 1] 31) := ⟨_, rfl⟩
          have LA := lay_one HM.out (HOn.out.wide (D' := DB3 D w.heap.size (w.heap.size + 1) (wr.heap.size + 1)) (fun k hk hk2 => ⟨hk.1, hk.2.1, hk.2.2, by omega⟩)) op ln s kd n t va vc 0 ln ⟨HDW.out _ (by omega), by omega, by omega, by omega⟩ hw31
          have HM31 := Lib.hid LA.1
          have HBo31 := Lib.hid LA.2.1
          have HOo31 := Lib.hid LA.2.2.1
          have hs31 := LA.2.2.2.1
          have HBn31 := Lib.hid (HN.out.below' LA.2.2.2.2)
          have HBr31 := Lib.hid (HR.out.below' LA.2.2.2.2)
          have OWB31 := Lib.hid (own_from (b := wa.heap.size) (g := wr.heap.size) (n := 1) (c := 1) (by omega))
          have HOn31 := Lib.hid (OwnN.below (w' := w31) HOn.out LA.2.2.2.2)
          have HW31 := Lib.hid hw31
          clear hw31 LA
          go_wp2_with fail
          rw [← HW31.out]
          refine (may_t HM31.out.st (s := ⟨#[91]⟩) (L := [91]) rfl HB.out).mono ?_
          rintro e32 w32 ⟨rfl, hm32⟩
          have HM32 := Lib.hid (HM31.out.trans hm32)
          have hs32 := hm32.grown.size
          have HBn32 := Lib.hid (NdB.grown HBn31.out hm32.grown (show X.P < w.heap.size by omega))
          have HBr32 := Lib.hid (NdB.grown HBr31.out hm32.grown (show X.P < (w.heap.size + 1) by omega))
          have HBo32 := Lib.hid (NdB.grown HBo31.out hm32.grown (show X.P < (wr.heap.size + 1) by omega))
          have HOo32 := Lib.hid (OwnN.grown HOo31.out hm32.grown (fun h => absurd (HDP.out _ h.1) (Nat.lt_irrefl _)))
          clear hm32
          have c2_0 := HBo32.out.c0
          have f2_0 := HBo32.out.fr 0
          obtain ⟨w33, hw33⟩ : ∃ W, W = (w32.setCell ⟨(wr.heap.size + 1), 0, none⟩ (.int .i64 20)) := ⟨_, rfl⟩
          have hg33 : w32.grownBy w33 (some (wr.heap.size + 1)) := by rw [hw33]; exact only_set1 _ _ _ _
          have hs33 := hg33.size
          have HM33 := Lib.hid (HM32.out.node HBo32.out (by omega) (by omega) hg33)
          have HBn33 := Lib.hid (HBn32.out.apart hg33 (by omega))
          have HBr33 := Lib.hid (HBr32.out.apart hg33 (by omega))
          have HBo33 := Lib.hid (show NdB w33 (wr.heap.size + 1) (.int .i64 20) (.int .i64 ln) (.string ⟨#[]⟩) (.int .i64 0) (.int .i64 0) (.string ⟨#[]⟩) (.slice none 0 0) (.slice (some ⟨wr.heap.size, 0, none⟩) 1 1) by rw [hw33]; exact HBo32.out.set0 _)
          have HOo33 := Lib.hid (OwnN.keep HOo32.out (fun k hk hk2 => hg33.block k hk2 (fun e => by injection e with e; have h2 := hk.2; omega)) hg33.size)
          have HW33 := Lib.hid hw33
          clear hw33 hg33
          go_wp2_with fail
          rw [← HW33.out]
          clear c2_0 f2_0
          refine (down_f HM33.out.st (by first | omega | (simp <;> omega)) (by first | omega | (simp <;> omega)) HD.out).mono ?_
          rintro e34 w34 ⟨rfl, hm34⟩
          have HM34 := Lib.hid (HM33.out.trans hm34)
          have hs34 := hm34.grown.size
          have HBn34 := Lib.hid (NdB.grown HBn33.out hm34.grown (show X.P < w.heap.size by omega))
          have HBr34 := Lib.hid (NdB.grown HBr33.out hm34.grown (show X.P < (w.heap.size + 1) by omega))
          have HBo34 := Lib.hid (NdB.grown HBo33.out hm34.grown (show X.P < (wr.heap.size + 1) by omega))
          have HOo34 := Lib.hid (OwnN.grown HOo33.out hm34.grown (fun h => absurd (HDP.out _ h.1) (Nat.lt_irrefl _)))
          clear hm34
          go_wp2_with fail
          refine (up_c X _ _ HM34.out.st (by first | omega | (simp <;> omega)) (by first | omega | (simp <;> omega))).mono ?_
          rintro e35 w35 ⟨rfl, hm35⟩
          have HM35 := Lib.hid (HM34.out.trans hm35)
          have hs35 := hm35.grown.size
          have HBn35 := Lib.hid (NdB.grown HBn34.out hm35.grown (show X.P < w.heap.size by omega))
          have HBr35 := Lib.hid (NdB.grown HBr34.out hm35.grown (show X.P < (w.heap.size + 1) by omega))
          have HBo35 := Lib.hid (NdB.grown HBo34.out hm35.grown (show X.P < (wr.heap.size + 1) by omega))
          have HOo35 := Lib.hid (OwnN.grown HOo34.out hm35.grown (fun h => absurd (HDP.out _ h.1) (Nat.lt_irrefl _)))
          clear hm35
          go_wp2_with fail
          refine (must_t HM35.out.st (s := ⟨#[93]⟩) (L := [93]) rfl).mono ?_
          rintro e36 w36 ⟨rfl, hm36⟩
          have HM36 := Lib.hid (HM35.out.trans hm36)
          have hs36 := hm36.grown.size
          have HBn36 := Lib.hid (NdB.grown HBn35.out hm36.grown (show X.P < w.heap.size by omega))
          have HBr36 := Lib.hid (NdB.grown HBr35.out hm36.grown (show X.P < (w.heap.size + 1) by omega))
          have HBo36 := Lib.hid (NdB.grown HBo35.out hm36.grown (show X.P < (wr.heap.size + 1) by omega))
          have HOo36 := Lib.hid (OwnN.grown HOo35.out hm36.grown (fun h => absurd (HDP.out _ h.1) (Nat.lt_irrefl _)))
          clear hm36
          have c3_0 := HBo36.out.c0
          have c3_1 := HBo36.out.c1
          have c3_2 := HBo36.out.c2
          have c3_3 := HBo36.out.c3
          have c3_4 := HBo36.out.c4
          have c3_5 := HBo36.out.c5
          have c3_6 := HBo36.out.c6
          have c3_7 := HBo36.out.c7
          have c4_0 := HBn36.out.c0
          have f4_0 := HBn36.out.fr 0
          have c4_1 := HBn36.out.c1
          have f4_1 := HBn36.out.fr 1
          have c4_2 := HBn36.out.c2
          have f4_2 := HBn36.out.fr 2
          have c4_3 := HBn36.out.c3
          have f4_3 := HBn36.out.fr 3
          have c4_4 := HBn36.out.c4
          have f4_4 := HBn36.out.fr 4
          have c4_5 := HBn36.out.c5
          have f4_5 := HBn36.out.fr 5
          have c4_6 := HBn36.out.c6
          have f4_6 := HBn36.out.fr 6
          have c4_7 := HBn36.out.c7
          have f4_7 := HBn36.out.fr 7
          go_wp2_with fail
          obtain ⟨w37, hw37⟩ : ∃ W, W = ((((((((w36.setCell ⟨w.heap.size, 0, none⟩ (.int .i64 20)).setCell ⟨w.heap.size, 1, none⟩ (.int .i64 ln)).setCell ⟨w.heap.size, 2, none⟩ (.string ⟨#[]⟩)).setCell ⟨w.heap.size, 3, none⟩ (.int .i64 0)).setCell ⟨w.heap.size, 4, none⟩ (.int .i64 0)).setCell ⟨w.heap.size, 5, none⟩ (.string ⟨#[]⟩)).setCell ⟨w.heap.size, 6, none⟩ (.slice none 0 0)).setCell ⟨w.heap.size, 7, none⟩ (.slice (some ⟨wr.heap.size, 0, none⟩) 1 1)) := ⟨_, rfl⟩
          have hg37 : w36.grownBy w37 (some w.heap.size) := by rw [hw37]; exact only_set8 _ _ _ _ _ _ _ _ _ _
          have hs37 := hg37.size
          have HM37 := Lib.hid (HM36.out.node HBn36.out (by omega) (by omega) hg37)
          have HBn37 := Lib.hid (show NdB w37 w.heap.size (.int .i64 20) (.int .i64 ln) (.string ⟨#[]⟩) (.int .i64 0) (.int .i64 0) (.string ⟨#[]⟩) (.slice none 0 0) (.slice (some ⟨wr.heap.size, 0, none⟩) 1 1) by rw [hw37]; exact HBn36.out.set8 _ _ _ _ _ _ _ _)
          have HBr37 := Lib.hid (show zN w37 (w.heap.size + 1) from HBr36.out.apart hg37 (by omega))
          have HOE := Lib.hid ((OwnN.keep HOo36.out (fun k hk hk2 => hg37.block k hk2 (fun e => by injection e with e; have h2 := hk.2; omega)) hg37.size).wide (D' := DB2 D w.heap.size (w.heap.size + 1)) (fun k hk _ => ⟨hk.1, hk.2.1, hk.2.2.1⟩))
          have HW37 := Lib.hid hw37
          clear hw37 hg37
          rw [← HW37.out]
          go_roundg kk
          case measure => omega
          case rel => exact ⟨20, ln, ⟨#[]⟩, 0, 0, ⟨#[]⟩, none, 0, _, (nd op ln s kd n t sub), (mustS X.l (upS (downS (nextS q))) [93]), by (first | (simp only [len_nd]; omega) | (simp only [NL.len_app, len_nd]; omega) | (rw [len_nd]; omega)), by omega, (by first | omega | (simp <;> omega)), by omega, HM37, HBr37, HBn37, HOE, Lib.hid (okN_nd HK.out (fun _ => by (first | (simp only [len_nd]; omega) | (simp only [NL.len_app, len_nd]; omega) | (rw [len_nd]; decide)))), HQ2⟩
        | true =>
          have hle := downS_le hd
          simp only [nextS_deep] at hle
          rw [hd] at hr
          have HD := Lib.hid hd
          clear hd
          replace hr : ((prsR X.l kk .expr (downS (nextS q))).bind fun (x, p) => (if isS X.l p [46, 46] then (prsR X.l kk .expr (nextS p)).bind fun (y, p) => prsR X.l kk (.behind (ndL 21 ln (((nd op ln s kd n t sub).app x).app y))) (mustS X.l (upS p) [93]) else prsR X.l kk (.behind (ndL 20 ln ((nd op ln s kd n t sub).app x))) (mustS X.l (upS p) [93]))) = some r := hr
          cases hq5 : prsR X.l kk .expr (downS (nextS q)) with
          | none => rw [hq5] at hr; cases hr
          | some q5 =>
          obtain ⟨n5, p5⟩ := q5
          rw [hq5] at hr
          replace hr : (if isS X.l p5 [46, 46] then (prsR X.l kk .expr (nextS p5)).bind fun (y, p) => prsR X.l kk (.behind (ndL 21 ln (((nd op ln s kd n t sub).app n5).app y))) (mustS X.l (upS p) [93]) else prsR X.l kk (.behind (ndL 20 ln ((nd op ln s kd n t sub).app n5))) (mustS X.l (upS p5) [93])) = some r := hr
          have HQ5 := Lib.hid hq5
          clear hq5
          cases hc : isS X.l p5 [46, 46] with
          | true =>
            rw [hc] at hr
            have HC := Lib.hid hc
            clear hc
            replace hr : ((prsR X.l kk .expr (nextS p5)).bind fun (y, p) => prsR X.l kk (.behind (ndL 21 ln (((nd op ln s kd n t sub).app n5).app y))) (mustS X.l (upS p) [93])) = some r := hr
            cases hq6 : prsR X.l kk .expr (nextS p5) with
            | none => rw [hq6] at hr; cases hr
            | some q6 =>
            obtain ⟨n6, p6⟩ := q6
            rw [hq6] at hr
            replace hr : prsR X.l kk (.behind (ndL 21 ln (((nd op ln s kd n t sub).app n5).app n6))) (mustS X.l (upS p6) [93]) = some r := hr
            have HQ6 := Lib.hid hq6
            clear hq6
            have HQ2 := Lib.hid hr
            clear hr
            have HOn := Lib.hid HO.out
            have c1_0 := HN.out.c0
            have c1_1 := HN.out.c1
            have c1_2 := HN.out.c2
            have c1_3 := HN.out.c3
            have c1_4 := HN.out.c4
            have c1_5 := HN.out.c5
            have c1_6 := HN.out.c6
            have c1_7 := HN.out.c7
            obtain ⟨w31, hw31⟩ : ∃ W, W = (wr.alloc (.cells #[.int .i64 op, .int .i64 ln, .string s, .int .i64 kd, .int .i64 n, .string t, .slice va 0 vc, .slice AV sub.len CV] 31)).alloc (.cells #[.int .i64 0, .int .i64 ln, .string ⟨#[]⟩, .int .i64 0, .int .i64 0, .string ⟨#[]⟩, .slice none 0 0, .slice (some ⟨wr.heap.size, 0, none⟩) 1 1] 31) := ⟨_, rfl⟩
            have LA := lay_one HM.out (HOn.out.wide (D' := DB3 D w.heap.size (w.heap.size + 1) (wr.heap.size + 1)) (fun k hk hk2 => ⟨hk.1, hk.2.1, hk.2.2, by omega⟩)) op ln s kd n t va vc 0 ln ⟨HDW.out _ (by omega), by omega, by omega, by omega⟩ hw31
            have HM31 := Lib.hid LA.1
            have HBo31 := Lib.hid LA.2.1
            have HOo31 := Lib.hid LA.2.2.1
            have hs31 := LA.2.2.2.1
            have HBn31 := Lib.hid (HN.out.below' LA.2.2.2.2)
            have HBr31 := Lib.hid (HR.out.below' LA.2.2.2.2)
            have OWB31 := Lib.hid (own_from (b := wa.heap.size) (g := wr.heap.size) (n := 1) (c := 1) (by omega))
            have HOn31 := Lib.hid (OwnN.below (w' := w31) HOn.out LA.2.2.2.2)
            have HW31 := Lib.hid hw31
            clear hw31 LA
            go_wp2_with fail
            rw [← HW31.out]
            refine (may_t HM31.out.st (s := ⟨#[91]⟩) (L := [91]) rfl HB.out).mono ?_
            rintro e32 w32 ⟨rfl, hm32⟩
            have HM32 := Lib.hid (HM31.out.trans hm32)
            have hs32 := hm32.grown.size
            have HBn32 := Lib.hid (NdB.grown HBn31.out hm32.grown (show X.P < w.heap.size by omega))
            have HBr32 := Lib.hid (NdB.grown HBr31.out hm32.grown (show X.P < (w.heap.size + 1) by omega))
            have HBo32 := Lib.hid (NdB.grown HBo31.out hm32.grown (show X.P < (wr.heap.size + 1) by omega))
            have HOo32 := Lib.hid (OwnN.grown HOo31.out hm32.grown (fun h => absurd (HDP.out _ h.1) (Nat.lt_irrefl _)))
            clear hm32
            have c2_0 := HBo32.out.c0
            have f2_0 := HBo32.out.fr 0
            obtain ⟨w33, hw33⟩ : ∃ W, W = (w32.setCell ⟨(wr.heap.size + 1), 0, none⟩ (.int .i64 20)) := ⟨_, rfl⟩
            have hg33 : w32.grownBy w33 (some (wr.heap.size + 1)) := by rw [hw33]; exact only_set1 _ _ _ _
            have hs33 := hg33.size
            have HM33 := Lib.hid (HM32.out.node HBo32.out (by omega) (by omega) hg33)
            have HBn33 := Lib.hid (HBn32.out.apart hg33 (by omega))
            have HBr33 := Lib.hid (HBr32.out.apart hg33 (by omega))
            have HBo33 := Lib.hid (show NdB w33 (wr.heap.size + 1) (.int .i64 20) (.int .i64 ln) (.string ⟨#[]⟩) (.int .i64 0) (.int .i64 0) (.string ⟨#[]⟩) (.slice none 0 0) (.slice (some ⟨wr.heap.size, 0, none⟩) 1 1) by rw [hw33]; exact HBo32.out.set0 _)
            have HOo33 := Lib.hid (OwnN.keep HOo32.out (fun k hk hk2 => hg33.block k hk2 (fun e => by injection e with e; have h2 := hk.2; omega)) hg33.size)
            have HW33 := Lib.hid hw33
            clear hw33 hg33
            go_wp2_with fail
            rw [← HW33.out]
            clear c2_0 f2_0
            refine (down_t HM33.out.st (by first | omega | (simp <;> omega)) (by first | omega | (simp <;> omega)) HD.out).mono ?_
            rintro e34 w34 ⟨rfl, hm34⟩
            have HM34 := Lib.hid (HM33.out.trans hm34)
            have hs34 := hm34.grown.size
            have HBn34 := Lib.hid (NdB.grown HBn33.out hm34.grown (show X.P < w.heap.size by omega))
            have HBr34 := Lib.hid (NdB.grown HBr33.out hm34.grown (show X.P < (w.heap.size + 1) by omega))
            have HBo34 := Lib.hid (NdB.grown HBo33.out hm34.grown (show X.P < (wr.heap.size + 1) by omega))
            have HOo34 := Lib.hid (OwnN.grown HOo33.out hm34.grown (fun h => absurd (HDP.out _ h.1) (Nat.lt_irrefl _)))
            clear hm34
            go_upto_region 7 with fail
            go_cut [] (fun wx35 => AppG X w w34 p5 (DB3 D w.heap.size (w.heap.size + 1) (wr.heap.size + 1)) wa.heap.size (wr.heap.size + 1) (.int .i64 20) (.int .i64 ln) (.string ⟨#[]⟩) (.int .i64 0) (.int .i64 0) (.string ⟨#[]⟩) (.slice none 0 0) (nd op ln s kd n t sub) n5 1 (p.deep + 1) wx35)
            case first =>
              have c7 := HBo34.out.c7
              have vlt := Lib.hid (fun g (hg : (.slice (some ⟨wr.heap.size, 0, none⟩) 1 1 : Value).ownBlock = some g) => (HOo34.out.ge g hg).2)
              have EXC := Lib.hid (fun W (hW : PSt W X (downS (nextS q))) => IH.out.expr kk (by omega) W _ _ hW (by first | omega | (simp <;> omega)) (by first | omega | (simp <;> omega)) HQ5.out)
              have HSD := Lib.hid (show PSt w34.drew X (downS (nextS q)) from HM34.out.st.below (Below.drew (Below.refl _ _)))
              have HMD := Lib.hid (show Mvd w w34.drew X (downS (nextS q)) from HM34.out.drew)
              go_region_law
                (first
                  | (refine step_app_nodes (by rfl) (.tmp 24) (.tmp 27) 29 (by rfl) Tryz.underlying29 hi0 hz0 hz1 hz2 (by rfl) (by rfl) APP.out.1 (by rfl) (by rfl) APP.out.2 (fun e => by cases e) (by first | (simp only [len_nd]; omega) | (simp only [NL.len_app, len_nd]; omega) | (simp only [len_nd, NL.len]; omega)) (by refine ⟨HDW.out _ ?_, ?_, ?_, ?_⟩ <;> (rw [World.size_alloc]; omega)) ?_
                     intro A9 c9 w9 hown9 hg9 hob9
                     have k7 : w9.cell? ⟨(wr.heap.size + 1), 7, none⟩ = some (.slice (some ⟨wr.heap.size, 0, none⟩) 1 1) := ((HN8.out.alloc _).app hg9 (fun e => (HO8.out.ge _ e).1.2.2.2 rfl)).c7
                     have j7 : w9.frozen? ⟨(wr.heap.size + 1), 7, none⟩ = false := ((HN8.out.alloc _).app hg9 (fun e => (HO8.out.ge _ e).1.2.2.2 rfl)).fr 7)
                  | (go_simp; go_at_call 26; refine (EXC.out _ HSD.out).mono ?_
                     rintro e9 w8 ⟨op8, ln8, t8, k8, m8, u8, va8, vc8, V8, sub8, hn, rfl, hm, ho, hk, hl, hd⟩
                     obtain ⟨A8, c8, rfl⟩ := ho.form
                     have hn' : n5 = nd op8 ln8 t8 k8 m8 u8 sub8 := hn
                     have HK8 := Lib.hid (show okN n5 ∧ (n5).len ≤ 1 from ⟨hk, by rw [hn', len_nd]; exact Nat.le_refl _⟩)
                     have HNN := Lib.hid hn'
                     have HDD := Lib.hid (show p5.deep = p.deep + 1 by have h : p5.deep = (downS (nextS q)).deep := hd; (try simp at h); omega)
                     have HG := Lib.hid (show w34.grownBy w8 (some X.P) from ⟨hm.grown.os, hm.grown.tape, hm.grown.output, hm.grown.size, hm.grown.block⟩)
                     have HM8 := Lib.hid (HMD.out.trans hm)
                     have hs8 : w34.heap.size ≤ w8.heap.size := hm.grown.size
                     have HN8 := Lib.hid (NdB.grown (w := w34) HBo34.out HG.out (show X.P < (wr.heap.size + 1) by omega))
                     have HO8 := Lib.hid (OwnN.grown (w := w34) HOo34.out HG.out (fun h => absurd (HDP.out _ h.1) (Nat.lt_irrefl _)))
                     have APP := Lib.hid (app_at3 HO8.out ho op8 ln8 t8 k8 m8 u8 va8 vc8 (fun k (hk : w34.heap.size ≤ k) => HDW.out k (by omega)) (by show _ < w34.heap.size; omega) (by show _ < w34.heap.size; omega) (by show _ < w34.heap.size; omega) (by show w34.heap.size ≤ _; omega) vlt.out)
                     have c7_8 := HN8.out.c7
                     have c7_9 := fun o => cellA c7_8 o
                     clear hn hn' hm ho hk hl hd
                     unfold nd8))
              all_goals
                go_wp2_with fail
                go_meet
                exact app_relG HG.out HM8.out HN8.out HO8.out (fun h => h.2.2.2 rfl) OWB31.out (by omega) (by omega) (by omega) (by omega) (by omega) ((Below.refl _ _).alloc (Nat.le_refl _) _) (by rw [HNN.out]; exact hown9) hg9 hob9 HK8.out.2 HK8.out.1 HDD.out
            case rest =>
              obtain ⟨V35, hm35, hd35, hn35, ho35, hw35, hx35, hk35, hs35, hf35⟩ := hcut
              obtain ⟨A35, c35, rfl⟩ := ho35.form
              have HM35 := Lib.hid hm35
              have HBo35 := Lib.hid hn35
              have HOo35 := Lib.hid ho35
              have HX35 := Lib.hid hk35
              have OB35 := Lib.hid hw35
              have HBn35 := Lib.hid (hf35 _ _ _ _ _ _ _ _ _ (by omega) (by omega) (by omega) HBn34.out)
              have HBr35 := Lib.hid (hf35 _ _ _ _ _ _ _ _ _ (by omega) (by omega) (by omega) HBr34.out)
              clear hm35 hn35 ho35 hk35 hf35 hw35
              go_wp2_with fail
              refine (may_t HM35.out.st (s := ⟨#[46, 46]⟩) (L := [46, 46]) rfl HC.out).mono ?_
              rintro e36 w36 ⟨rfl, hm36⟩
              have HM36 := Lib.hid (HM35.out.trans hm36)
              have hs36 := hm36.grown.size
              have HBn36 := Lib.hid (NdB.grown HBn35.out hm36.grown (show X.P < w.heap.size by omega))
              have HBr36 := Lib.hid (NdB.grown HBr35.out hm36.grown (show X.P < (w.heap.size + 1) by omega))
              have HBo36 := Lib.hid (NdB.grown HBo35.out hm36.grown (show X.P < (wr.heap.size + 1) by omega))
              have HOo36 := Lib.hid (OwnN.grown HOo35.out hm36.grown (fun h => absurd (HDP.out _ h.1) (Nat.lt_irrefl _)))
              clear hm36
              have c3_0 := HBo36.out.c0
              have f3_0 := HBo36.out.fr 0
              go_upto_region 10 with fail
              obtain ⟨w37, hw37⟩ : ∃ W, W = (w36.setCell ⟨(wr.heap.size + 1), 0, none⟩ (.int .i64 21)) := ⟨_, rfl⟩
              have hg37 : w36.grownBy w37 (some (wr.heap.size + 1)) := by rw [hw37]; exact only_set1 _ _ _ _
              have hs37 := hg37.size
              have HM37 := Lib.hid (HM36.out.node HBo36.out (by omega) (by omega) hg37)
              have HBn37 := Lib.hid (HBn36.out.apart hg37 (by omega))
              have HBr37 := Lib.hid (HBr36.out.apart hg37 (by omega))
              have HBo37 := Lib.hid (show NdB w37 (wr.heap.size + 1) (.int .i64 21) (.int .i64 ln) (.string ⟨#[]⟩) (.int .i64 0) (.int .i64 0) (.string ⟨#[]⟩) (.slice none 0 0) (.slice A35 ((nd op ln s kd n t sub).app n5).len c35) by rw [hw37]; exact HBo36.out.set0 _)
              have HOo37 := Lib.hid (OwnN.keep HOo36.out (fun k hk hk2 => hg37.block k hk2 (fun e => by injection e with e; have h2 := hk.2; omega)) hg37.size)
              have HW37 := Lib.hid hw37
              clear hw37 hg37
              rw [← HW37.out]
              go_upto_region 10 with fail
              go_cut [] (fun wx38 => AppG X w w37 p6 (DB3 D w.heap.size (w.heap.size + 1) (wr.heap.size + 1)) wa.heap.size (wr.heap.size + 1) (.int .i64 21) (.int .i64 ln) (.string ⟨#[]⟩) (.int .i64 0) (.int .i64 0) (.string ⟨#[]⟩) (.slice none 0 0) ((nd op ln s kd n t sub).app n5) n6 1 (p.deep + 1) wx38)
              case first =>
                have c7 := HBo37.out.c7
                have vlt := Lib.hid (fun g (hg : (.slice A35 ((nd op ln s kd n t sub).app n5).len c35 : Value).ownBlock = some g) => (HOo37.out.ge g hg).2)
                have EXC := Lib.hid (fun W (hW : PSt W X (nextS p5)) => IH.out.expr kk (by omega) W _ _ hW (by first | omega | (simp <;> omega)) (by first | omega | (simp <;> omega)) HQ6.out)
                have HSD := Lib.hid (show PSt w37.drew X (nextS p5) from HM37.out.st.below (Below.drew (Below.refl _ _)))
                have HMD := Lib.hid (show Mvd w w37.drew X (nextS p5) from HM37.out.drew)
                go_region_law
                  (first
                    | (refine step_app_nodes (by rfl) (.tmp 34) (.tmp 37) 29 (by rfl) Tryz.underlying29 hi0 hz0 hz1 hz2 (by rfl) (by rfl) APP.out.1 (by rfl) (by rfl) APP.out.2 (fun e => by cases e) (by first | (simp only [len_nd]; omega) | (simp only [NL.len_app, len_nd]; omega) | (simp only [len_nd, NL.len]; omega)) (by refine ⟨HDW.out _ ?_, ?_, ?_, ?_⟩ <;> (rw [World.size_alloc]; omega)) ?_
                       intro A9 c9 w9 hown9 hg9 hob9
                       have k7 : w9.cell? ⟨(wr.heap.size + 1), 7, none⟩ = some (.slice A35 ((nd op ln s kd n t sub).app n5).len c35) := ((HN8.out.alloc _).app hg9 (fun e => (HO8.out.ge _ e).1.2.2.2 rfl)).c7
                       have j7 : w9.frozen? ⟨(wr.heap.size + 1), 7, none⟩ = false := ((HN8.out.alloc _).app hg9 (fun e => (HO8.out.ge _ e).1.2.2.2 rfl)).fr 7)
                    | (go_simp; go_at_call 26; refine (EXC.out _ HSD.out).mono ?_
                       rintro e9 w8 ⟨op8, ln8, t8, k8, m8, u8, va8, vc8, V8, sub8, hn, rfl, hm, ho, hk, hl, hd⟩
                       obtain ⟨A8, c8, rfl⟩ := ho.form
                       have hn' : n6 = nd op8 ln8 t8 k8 m8 u8 sub8 := hn
                       have HK8 := Lib.hid (show okN n6 ∧ (n6).len ≤ 1 from ⟨hk, by rw [hn', len_nd]; exact Nat.le_refl _⟩)
                       have HNN := Lib.hid hn'
                       have HDD := Lib.hid (show p6.deep = p.deep + 1 by have h : p6.deep = (nextS p5).deep := hd; (try simp at h); omega)
                       have HG := Lib.hid (show w37.grownBy w8 (some X.P) from ⟨hm.grown.os, hm.grown.tape, hm.grown.output, hm.grown.size, hm.grown.block⟩)
                       have HM8 := Lib.hid (HMD.out.trans hm)
                       have hs8 : w37.heap.size ≤ w8.heap.size := hm.grown.size
                       have HN8 := Lib.hid (NdB.grown (w := w37) HBo37.out HG.out (show X.P < (wr.heap.size + 1) by omega))
                       have HO8 := Lib.hid (OwnN.grown (w := w37) HOo37.out HG.out (fun h => absurd (HDP.out _ h.1) (Nat.lt_irrefl _)))
                       have APP := Lib.hid (app_at3 HO8.out ho op8 ln8 t8 k8 m8 u8 va8 vc8 (fun k (hk : w37.heap.size ≤ k) => HDW.out k (by omega)) (by show _ < w37.heap.size; omega) (by show _ < w37.heap.size; omega) (by show _ < w37.heap.size; omega) (by show w37.heap.size ≤ _; omega) vlt.out)
                       have c7_8 := HN8.out.c7
                       have c7_9 := fun o => cellA c7_8 o
                       clear hn hn' hm ho hk hl hd
                       unfold nd8))
                all_goals
                  go_wp2_with fail
                  go_meet
                  exact app_relG HG.out HM8.out HN8.out HO8.out (fun h => h.2.2.2 rfl) OB35.out (by omega) (by omega) (by omega) (by omega) (by omega) ((Below.refl _ _).alloc (Nat.le_refl _) _) (by rw [HNN.out]; exact hown9) hg9 hob9 HK8.out.2 HK8.out.1 HDD.out
              case rest =>
                obtain ⟨V38, hm38, hd38, hn38, ho38, hw38, hx38, hk38, hs38, hf38⟩ := hcut
                obtain ⟨A38, c38, rfl⟩ := ho38.form
                have HM38 := Lib.hid hm38
                have HBo38 := Lib.hid hn38
                have HOo38 := Lib.hid ho38
                have HX38 := Lib.hid hk38
                have OB38 := Lib.hid hw38
                have HBn38 := Lib.hid (hf38 _ _ _ _ _ _ _ _ _ (by omega) (by omega) (by omega) HBn37.out)
                have HBr38 := Lib.hid (hf38 _ _ _ _ _ _ _ _ _ (by omega) (by omega) (by omega) HBr37.out)
                clear hm38 hn38 ho38 hk38 hf38 hw38
                go_wp2_with fail
                refine (up_c X _ _ HM38.out.st (by first | omega | (simp <;> omega)) (by first | omega | (simp <;> omega))).mono ?_
                rintro e39 w39 ⟨rfl, hm39⟩
                have HM39 := Lib.hid (HM38.out.trans hm39)
                have hs39 := hm39.grown.size
                have HBn39 := Lib.hid (NdB.grown HBn38.out hm39.grown (show X.P < w.heap.size by omega))
                have HBr39 := Lib.hid (NdB.grown HBr38.out hm39.grown (show X.P < (w.heap.size + 1) by omega))
                have HBo39 := Lib.hid (NdB.grown HBo38.out hm39.grown (show X.P < (wr.heap.size + 1) by omega))
                have HOo39 := Lib.hid (OwnN.grown HOo38.out hm39.grown (fun h => absurd (HDP.out _ h.1) (Nat.lt_irrefl _)))
                clear hm39
                go_wp2_with fail
                refine (must_t HM39.out.st (s := ⟨#[93]⟩) (L := [93]) rfl).mono ?_
                rintro e40 w40 ⟨rfl, hm40⟩
                have HM40 := Lib.hid (HM39.out.trans hm40)
                have hs40 := hm40.grown.size
                have HBn40 := Lib.hid (NdB.grown HBn39.out hm40.grown (show X.P < w.heap.size by omega))
                have HBr40 := Lib.hid (NdB.grown HBr39.out hm40.grown (show X.P < (w.heap.size + 1) by omega))
                have HBo40 := Lib.hid (NdB.grown HBo39.out hm40.grown (show X.P < (wr.heap.size + 1) by omega))
                have HOo40 := Lib.hid (OwnN.grown HOo39.out hm40.grown (fun h => absurd (HDP.out _ h.1) (Nat.lt_irrefl _)))
                clear hm40
                have c4_0 := HBo40.out.c0
                have c4_1 := HBo40.out.c1
                have c4_2 := HBo40.out.c2
                have c4_3 := HBo40.out.c3
                have c4_4 := HBo40.out.c4
                have c4_5 := HBo40.out.c5
                have c4_6 := HBo40.out.c6
                have c4_7 := HBo40.out.c7
                have c5_0 := HBn40.out.c0
                have f5_0 := HBn40.out.fr 0
                have c5_1 := HBn40.out.c1
                have f5_1 := HBn40.out.fr 1
                have c5_2 := HBn40.out.c2
                have f5_2 := HBn40.out.fr 2
                have c5_3 := HBn40.out.c3
                have f5_3 := HBn40.out.fr 3
                have c5_4 := HBn40.out.c4
                have f5_4 := HBn40.out.fr 4
                have c5_5 := HBn40.out.c5
                have f5_5 := HBn40.out.fr 5
                have c5_6 := HBn40.out.c6
                have f5_6 := HBn40.out.fr 6
                have c5_7 := HBn40.out.c7
                have f5_7 := HBn40.out.fr 7
                go_wp2_with fail
                obtain ⟨w41, hw41⟩ : ∃ W, W = ((((((((w40.setCell ⟨w.heap.size, 0, none⟩ (.int .i64 21)).setCell ⟨w.heap.size, 1, none⟩ (.int .i64 ln)).setCell ⟨w.heap.size, 2, none⟩ (.string ⟨#[]⟩)).setCell ⟨w.heap.size, 3, none⟩ (.int .i64 0)).setCell ⟨w.heap.size, 4, none⟩ (.int .i64 0)).setCell ⟨w.heap.size, 5, none⟩ (.string ⟨#[]⟩)).setCell ⟨w.heap.size, 6, none⟩ (.slice none 0 0)).setCell ⟨w.heap.size, 7, none⟩ (.slice A38 (((nd op ln s kd n t sub).app n5).app n6).len c38)) := ⟨_, rfl⟩
                have hg41 : w40.grownBy w41 (some w.heap.size) := by rw [hw41]; exact only_set8 _ _ _ _ _ _ _ _ _ _
                have hs41 := hg41.size
                have HM41 := Lib.hid (HM40.out.node HBn40.out (by omega) (by omega) hg41)
                have HBn41 := Lib.hid (show NdB w41 w.heap.size (.int .i64 21) (.int .i64 ln) (.string ⟨#[]⟩) (.int .i64 0) (.int .i64 0) (.string ⟨#[]⟩) (.slice none 0 0) (.slice A38 (((nd op ln s kd n t sub).app n5).app n6).len c38) by rw [hw41]; exact HBn40.out.set8 _ _ _ _ _ _ _ _)
                have HBr41 := Lib.hid (show zN w41 (w.heap.size + 1) from HBr40.out.apart hg41 (by omega))
                have HOE := Lib.hid ((OwnN.keep HOo40.out (fun k hk hk2 => hg41.block k hk2 (fun e => by injection e with e; have h2 := hk.2; omega)) hg41.size).wide (D' := DB2 D w.heap.size (w.heap.size + 1)) (fun k hk _ => ⟨hk.1, hk.2.1, hk.2.2.1⟩))
                have HW41 := Lib.hid hw41
                clear hw41 hg41
                rw [← HW41.out]
                go_roundg kk
                case measure => omega
                case rel => exact ⟨21, ln, ⟨#[]⟩, 0, 0, ⟨#[]⟩, none, 0, _, (((nd op ln s kd n t sub).app n5).app n6), (mustS X.l (upS p6) [93]), by (first | (simp only [len_nd]; omega) | (simp only [NL.len_app, len_nd]; omega) | (rw [len_nd]; omega)), by omega, (by first | omega | (simp <;> omega)), by omega, HM41, HBr41, HBn41, HOE, Lib.hid (okN_nd (okN_app _ _ (okN_app _ _ HK.out HX35.out) HX38.out) (fun _ => by (first | (simp only [len_nd]; omega) | (simp only [NL.len_app, len_nd]; omega) | (rw [len_nd]; decide)))), HQ2⟩
          | false =>
            rw [hc] at hr
            have HC := Lib.hid hc
            clear hc
            have HQ2 := Lib.hid (show prsR X.l kk (.behind (ndL 20 ln ((nd op ln s kd n t sub).app n5))) (mustS X.l (upS p5) [93]) = some r from hr)
            clear hr
            have HOn := Lib.hid HO.out
            have c1_0 := HN.out.c0
            have c1_1 := HN.out.c1
            have c1_2 := HN.out.c2
            have c1_3 := HN.out.c3
            have c1_4 := HN.out.c4
            have c1_5 := HN.out.c5
            have c1_6 := HN.out.c6
            have c1_7 := HN.out.c7
            obtain ⟨w31, hw31⟩ : ∃ W, W = (wr.alloc (.cells #[.int .i64 op, .int .i64 ln, .string s, .int .i64 kd, .int .i64 n, .string t, .slice va 0 vc, .slice AV sub.len CV] 31)).alloc (.cells #[.int .i64 0, .int .i64 ln, .string ⟨#[]⟩, .int .i64 0, .int .i64 0, .string ⟨#[]⟩, .slice none 0 0, .slice (some ⟨wr.heap.size, 0, none⟩) 1 1] 31) := ⟨_, rfl⟩
            have LA := lay_one HM.out (HOn.out.wide (D' := DB3 D w.heap.size (w.heap.size + 1) (wr.heap.size + 1)) (fun k hk hk2 => ⟨hk.1, hk.2.1, hk.2.2, by omega⟩)) op ln s kd n t va vc 0 ln ⟨HDW.out _ (by omega), by omega, by omega, by omega⟩ hw31
            have HM31 := Lib.hid LA.1
            have HBo31 := Lib.hid LA.2.1
            have HOo31 := Lib.hid LA.2.2.1
            have hs31 := LA.2.2.2.1
            have HBn31 := Lib.hid (HN.out.below' LA.2.2.2.2)
            have HBr31 := Lib.hid (HR.out.below' LA.2.2.2.2)
            have OWB31 := Lib.hid (own_from (b := wa.heap.size) (g := wr.heap.size) (n := 1) (c := 1) (by omega))
            have HOn31 := Lib.hid (OwnN.below (w' := w31) HOn.out LA.2.2.2.2)
            have HW31 := Lib.hid hw31
            clear hw31 LA
            go_wp2_with fail
            rw [← HW31.out]
            refine (may_t HM31.out.st (s := ⟨#[91]⟩) (L := [91]) rfl HB.out).mono ?_
            rintro e32 w32 ⟨rfl, hm32⟩
            have HM32 := Lib.hid (HM31.out.trans hm32)
            have hs32 := hm32.grown.size
            have HBn32 := Lib.hid (NdB.grown HBn31.out hm32.grown (show X.P < w.heap.size by omega))
            have HBr32 := Lib.hid (NdB.grown HBr31.out hm32.grown (show X.P < (w.heap.size + 1) by omega))
            have HBo32 := Lib.hid (NdB.grown HBo31.out hm32.grown (show X.P < (wr.heap.size + 1) by omega))
            have HOo32 := Lib.hid (OwnN.grown HOo31.out hm32.grown (fun h => absurd (HDP.out _ h.1) (Nat.lt_irrefl _)))
            clear hm32
            have c2_0 := HBo32.out.c0
            have f2_0 := HBo32.out.fr 0
            obtain ⟨w33, hw33⟩ : ∃ W, W = (w32.setCell ⟨(wr.heap.size + 1), 0, none⟩ (.int .i64 20)) := ⟨_, rfl⟩
            have hg33 : w32.grownBy w33 (some (wr.heap.size + 1)) := by rw [hw33]; exact only_set1 _ _ _ _
            have hs33 := hg33.size
            have HM33 := Lib.hid (HM32.out.node HBo32.out (by omega) (by omega) hg33)
            have HBn33 := Lib.hid (HBn32.out.apart hg33 (by omega))
            have HBr33 := Lib.hid (HBr32.out.apart hg33 (by omega))
            have HBo33 := Lib.hid (show NdB w33 (wr.heap.size + 1) (.int .i64 20) (.int .i64 ln) (.string ⟨#[]⟩) (.int .i64 0) (.int .i64 0) (.string ⟨#[]⟩) (.slice none 0 0) (.slice (some ⟨wr.heap.size, 0, none⟩) 1 1) by rw [hw33]; exact HBo32.out.set0 _)
            have HOo33 := Lib.hid (OwnN.keep HOo32.out (fun k hk hk2 => hg33.block k hk2 (fun e => by injection e with e; have h2 := hk.2; omega)) hg33.size)
            have HW33 := Lib.hid hw33
            clear hw33 hg33
            go_wp2_with fail
            rw [← HW33.out]
            clear c2_0 f2_0
            refine (down_t HM33.out.st (by first | omega | (simp <;> omega)) (by first | omega | (simp <;> omega)) HD.out).mono ?_
            rintro e34 w34 ⟨rfl, hm34⟩
            have HM34 := Lib.hid (HM33.out.trans hm34)
            have hs34 := hm34.grown.size
            have HBn34 := Lib.hid (NdB.grown HBn33.out hm34.grown (show X.P < w.heap.size by omega))
            have HBr34 := Lib.hid (NdB.grown HBr33.out hm34.grown (show X.P < (w.heap.size + 1) by omega))
            have HBo34 := Lib.hid (NdB.grown HBo33.out hm34.grown (show X.P < (wr.heap.size + 1) by omega))
            have HOo34 := Lib.hid (OwnN.grown HOo33.out hm34.grown (fun h => absurd (HDP.out _ h.1) (Nat.lt_irrefl _)))
            clear hm34
            go_upto_region 7 with fail
            go_cut [] (fun wx35 => AppG X w w34 p5 (DB3 D w.heap.size (w.heap.size + 1) (wr.heap.size + 1)) wa.heap.size (wr.heap.size + 1) (.int .i64 20) (.int .i64 ln) (.string ⟨#[]⟩) (.int .i64 0) (.int .i64 0) (.string ⟨#[]⟩) (.slice none 0 0) (nd op ln s kd n t sub) n5 1 (p.deep + 1) wx35)
            case first =>
              have c7 := HBo34.out.c7
              have vlt := Lib.hid (fun g (hg : (.slice (some ⟨wr.heap.size, 0, none⟩) 1 1 : Value).ownBlock = some g) => (HOo34.out.ge g hg).2)
              have EXC := Lib.hid (fun W (hW : PSt W X (downS (nextS q))) => IH.out.expr kk (by omega) W _ _ hW (by first | omega | (simp <;> omega)) (by first | omega | (simp <;> omega)) HQ5.out)
              have HSD := Lib.hid (show PSt w34.drew X (downS (nextS q)) from HM34.out.st.below (Below.drew (Below.refl _ _)))
              have HMD := Lib.hid (show Mvd w w34.drew X (downS (nextS q)) from HM34.out.drew)
              go_region_law
                (first
                  | (refine step_app_nodes (by rfl) (.tmp 24) (.tmp 27) 29 (by rfl) Tryz.underlying29 hi0 hz0 hz1 hz2 (by rfl) (by rfl) APP.out.1 (by rfl) (by rfl) APP.out.2 (fun e => by cases e) (by first | (simp only [len_nd]; omega) | (simp only [NL.len_app, len_nd]; omega) | (simp only [len_nd, NL.len]; omega)) (by refine ⟨HDW.out _ ?_, ?_, ?_, ?_⟩ <;> (rw [World.size_alloc]; omega)) ?_
                     intro A9 c9 w9 hown9 hg9 hob9
                     have k7 : w9.cell? ⟨(wr.heap.size + 1), 7, none⟩ = some (.slice (some ⟨wr.heap.size, 0, none⟩) 1 1) := ((HN8.out.alloc _).app hg9 (fun e => (HO8.out.ge _ e).1.2.2.2 rfl)).c7
                     have j7 : w9.frozen? ⟨(wr.heap.size + 1), 7, none⟩ = false := ((HN8.out.alloc _).app hg9 (fun e => (HO8.out.ge _ e).1.2.2.2 rfl)).fr 7)
                  | (go_simp; go_at_call 26; refine (EXC.out _ HSD.out).mono ?_
                     rintro e9 w8 ⟨op8, ln8, t8, k8, m8, u8, va8, vc8, V8, sub8, hn, rfl, hm, ho, hk, hl, hd⟩
                     obtain ⟨A8, c8, rfl⟩ := ho.form
                     have hn' : n5 = nd op8 ln8 t8 k8 m8 u8 sub8 := hn
                     have HK8 := Lib.hid (show okN n5 ∧ (n5).len ≤ 1 from ⟨hk, by rw [hn', len_nd]; exact Nat.le_refl _⟩)
                     have HNN := Lib.hid hn'
                     have HDD := Lib.hid (show p5.deep = p.deep + 1 by have h : p5.deep = (downS (nextS q)).deep := hd; (try simp at h); omega)
                     have HG := Lib.hid (show w34.grownBy w8 (some X.P) from ⟨hm.grown.os, hm.grown.tape, hm.grown.output, hm.grown.size, hm.grown.block⟩)
                     have HM8 := Lib.hid (HMD.out.trans hm)
                     have hs8 : w34.heap.size ≤ w8.heap.size := hm.grown.size
                     have HN8 := Lib.hid (NdB.grown (w := w34) HBo34.out HG.out (show X.P < (wr.heap.size + 1) by omega))
                     have HO8 := Lib.hid (OwnN.grown (w := w34) HOo34.out HG.out (fun h => absurd (HDP.out _ h.1) (Nat.lt_irrefl _)))
                     have APP := Lib.hid (app_at3 HO8.out ho op8 ln8 t8 k8 m8 u8 va8 vc8 (fun k (hk : w34.heap.size ≤ k) => HDW.out k (by omega)) (by show _ < w34.heap.size; omega) (by show _ < w34.heap.size; omega) (by show _ < w34.heap.size; omega) (by show w34.heap.size ≤ _; omega) vlt.out)
                     have c7_8 := HN8.out.c7
                     have c7_9 := fun o => cellA c7_8 o
                     clear hn hn' hm ho hk hl hd
                     unfold nd8))
              all_goals
                go_wp2_with fail
                go_meet
                exact app_relG HG.out HM8.out HN8.out HO8.out (fun h => h.2.2.2 rfl) OWB31.out (by omega) (by omega) (by omega) (by omega) (by omega) ((Below.refl _ _).alloc (Nat.le_refl _) _) (by rw [HNN.out]; exact hown9) hg9 hob9 HK8.out.2 HK8.out.1 HDD.out
            case rest =>
              obtain ⟨V35, hm35, hd35, hn35, ho35, hw35, hx35, hk35, hs35, hf35⟩ := hcut
              obtain ⟨A35, c35, rfl⟩ := ho35.form
              have HM35 := Lib.hid hm35
              have HBo35 := Lib.hid hn35
              have HOo35 := Lib.hid ho35
              have HX35 := Lib.hid hk35
              have OB35 := Lib.hid hw35
              have HBn35 := Lib.hid (hf35 _ _ _ _ _ _ _ _ _ (by omega) (by omega) (by omega) HBn34.out)
              have HBr35 := Lib.hid (hf35 _ _ _ _ _ _ _ _ _ (by omega) (by omega) (by omega) HBr34.out)
              clear hm35 hn35 ho35 hk35 hf35 hw35
              go_wp2_with fail
              refine (may_f HM35.out.st (s := ⟨#[46, 46]⟩) (L := [46, 46]) rfl HC.out).mono ?_
              rintro e36 w36 ⟨rfl, hm36⟩
              have HM36 := Lib.hid (HM35.out.trans hm36)
              have hs36 := hm36.grown.size
              have HBn36 := Lib.hid (NdB.grown HBn35.out hm36.grown (show X.P < w.heap.size by omega))
              have HBr36 := Lib.hid (NdB.grown HBr35.out hm36.grown (show X.P < (w.heap.size + 1) by omega))
              have HBo36 := Lib.hid (NdB.grown HBo35.out hm36.grown (show X.P < (wr.heap.size + 1) by omega))
              have HOo36 := Lib.hid (OwnN.grown HOo35.out hm36.grown (fun h => absurd (HDP.out _ h.1) (Nat.lt_irrefl _)))
              clear hm36
              go_wp2_with fail
              refine (up_c X _ _ HM36.out.st (by first | omega | (simp <;> omega)) (by first | omega | (simp <;> omega))).mono ?_
              rintro e37 w37 ⟨rfl, hm37⟩
              have HM37 := Lib.hid (HM36.out.trans hm37)
              have hs37 := hm37.grown.size
              have HBn37 := Lib.hid (NdB.grown HBn36.out hm37.grown (show X.P < w.heap.size by omega))
              have HBr37 := Lib.hid (NdB.grown HBr36.out hm37.grown (show X.P < (w.heap.size + 1) by omega))
              have HBo37 := Lib.hid (NdB.grown HBo36.out hm37.grown (show X.P < (wr.heap.size + 1) by omega))
              have HOo37 := Lib.hid (OwnN.grown HOo36.out hm37.grown (fun h => absurd (HDP.out _ h.1) (Nat.lt_irrefl _)))
              clear hm37
              go_wp2_with fail
              refine (must_t HM37.out.st (s := ⟨#[93]⟩) (L := [93]) rfl).mono ?_
              rintro e38 w38 ⟨rfl, hm38⟩
              have HM38 := Lib.hid (HM37.out.trans hm38)
              have hs38 := hm38.grown.size
              have HBn38 := Lib.hid (NdB.grown HBn37.out hm38.grown (show X.P < w.heap.size by omega))
              have HBr38 := Lib.hid (NdB.grown HBr37.out hm38.grown (show X.P < (w.heap.size + 1) by omega))
              have HBo38 := Lib.hid (NdB.grown HBo37.out hm38.grown (show X.P < (wr.heap.size + 1) by omega))
              have HOo38 := Lib.hid (OwnN.grown HOo37.out hm38.grown (fun h => absurd (HDP.out _ h.1) (Nat.lt_irrefl _)))
              clear hm38
              have c3_0 := HBo38.out.c0
              have c3_1 := HBo38.out.c1
              have c3_2 := HBo38.out.c2
              have c3_3 := HBo38.out.c3
              have c3_4 := HBo38.out.c4
              have c3_5 := HBo38.out.c5
              have c3_6 := HBo38.out.c6
              have c3_7 := HBo38.out.c7
              have c4_0 := HBn38.out.c0
              have f4_0 := HBn38.out.fr 0
              have c4_1 := HBn38.out.c1
              have f4_1 := HBn38.out.fr 1
              have c4_2 := HBn38.out.c2
              have f4_2 := HBn38.out.fr 2
              have c4_3 := HBn38.out.c3
              have f4_3 := HBn38.out.fr 3
              have c4_4 := HBn38.out.c4
              have f4_4 := HBn38.out.fr 4
              have c4_5 := HBn38.out.c5
              have f4_5 := HBn38.out.fr 5
              have c4_6 := HBn38.out.c6
              have f4_6 := HBn38.out.fr 6
              have c4_7 := HBn38.out.c7
              have f4_7 := HBn38.out.fr 7
              go_wp2_with fail
              obtain ⟨w39, hw39⟩ : ∃ W, W = ((((((((w38.setCell ⟨w.heap.size, 0, none⟩ (.int .i64 20)).setCell ⟨w.heap.size, 1, none⟩ (.int .i64 ln)).setCell ⟨w.heap.size, 2, none⟩ (.string ⟨#[]⟩)).setCell ⟨w.heap.size, 3, none⟩ (.int .i64 0)).setCell ⟨w.heap.size, 4, none⟩ (.int .i64 0)).setCell ⟨w.heap.size, 5, none⟩ (.string ⟨#[]⟩)).setCell ⟨w.heap.size, 6, none⟩ (.slice none 0 0)).setCell ⟨w.heap.size, 7, none⟩ (.slice A35 ((nd op ln s kd n t sub).app n5).len c35)) := ⟨_, rfl⟩
              have hg39 : w38.grownBy w39 (some w.heap.size) := by rw [hw39]; exact only_set8 _ _ _ _ _ _ _ _ _ _
              have hs39 := hg39.size
              have HM39 := Lib.hid (HM38.out.node HBn38.out (by omega) (by omega) hg39)
              have HBn39 := Lib.hid (show NdB w39 w.heap.size (.int .i64 20) (.int .i64 ln) (.string ⟨#[]⟩) (.int .i64 0) (.int .i64 0) (.string ⟨#[]⟩) (.slice none 0 0) (.slice A35 ((nd op ln s kd n t sub).app n5).len c35) by rw [hw39]; exact HBn38.out.set8 _ _ _ _ _ _ _ _)
              have HBr39 := Lib.hid (show zN w39 (w.heap.size + 1) from HBr38.out.apart hg39 (by omega))
              have HOE := Lib.hid ((OwnN.keep HOo38.out (fun k hk hk2 => hg39.block k hk2 (fun e => by injection e with e; have h2 := hk.2; omega)) hg39.size).wide (D' := DB2 D w.heap.size (w.heap.size + 1)) (fun k hk _ => ⟨hk.1, hk.2.1, hk.2.2.1⟩))
              have HW39 := Lib.hid hw39
              clear hw39 hg39
              rw [← HW39.out]
              go_roundg kk
              case measure => omega
              case rel => exact ⟨20, ln, ⟨#[]⟩, 0, 0, ⟨#[]⟩, none, 0, _, ((nd op ln s kd n t sub).app n5), (mustS X.l (upS p5) [93]), by (first | (simp only [len_nd]; omega) | (simp only [NL.len_app, len_nd]; omega) | (rw [len_nd]; omega)), by omega, (by first | omega | (simp <;> omega)), by omega, HM39, HBr39, HBn39, HOE, Lib.hid (okN_nd (okN_app _ _ HK.out HX35.out) (fun _ => by (first | (simp only [len_nd]; omega) | (simp only [NL.len_app, len_nd]; omega) | (rw [len_nd]; decide)))), HQ2⟩
      | false =>
        rw [hb] at hr
        have HB := Lib.hid hb
        clear hb
        cases hd : isS X.l q [46] with
        | true =>
          rw [hd] at hr
          have HD := Lib.hid hd
          clear hd
          replace hr : ((prsR X.l kk .part (nextS q)).bind fun (x, p) => prsR X.l kk (.behind (ndL 22 ln ((nd op ln s kd n t sub).app x))) p) = some r := hr
          cases hq5 : prsR X.l kk .part (nextS q) with
          | none => rw [hq5] at hr; cases hr
          | some q5 =>
          obtain ⟨n5, p5⟩ := q5
          rw [hq5] at hr
          replace hr : prsR X.l kk (.behind (ndL 22 ln ((nd op ln s kd n t sub).app n5))) p5 = some r := hr
          have HQ5 := Lib.hid hq5
          clear hq5
          have HQ2 := Lib.hid hr
          clear hr
          have HOn := Lib.hid HO.out
          have c1_0 := HN.out.c0
          have c1_1 := HN.out.c1
          have c1_2 := HN.out.c2
          have c1_3 := HN.out.c3
          have c1_4 := HN.out.c4
          have c1_5 := HN.out.c5
          have c1_6 := HN.out.c6
          have c1_7 := HN.out.c7
          obtain ⟨w31, hw31⟩ : ∃ W, W = (wr.alloc (.cells #[.int .i64 op, .int .i64 ln, .string s, .int .i64 kd, .int .i64 n, .string t, .slice va 0 vc, .slice AV sub.len CV] 31)).alloc (.cells #[.int .i64 0, .int .i64 ln, .string ⟨#[]⟩, .int .i64 0, .int .i64 0, .string ⟨#[]⟩, .slice none 0 0, .slice (some ⟨wr.heap.size, 0, none⟩) 1 1] 31) := ⟨_, rfl⟩
          have LA := lay_one HM.out (HOn.out.wide (D' := DB3 D w.heap.size (w.heap.size + 1) (wr.heap.size + 1)) (fun k hk hk2 => ⟨hk.1, hk.2.1, hk.2.2, by omega⟩)) op ln s kd n t va vc 0 ln ⟨HDW.out _ (by omega), by omega, by omega, by omega⟩ hw31
          have HM31 := Lib.hid LA.1
          have HBo31 := Lib.hid LA.2.1
          have HOo31 := Lib.hid LA.2.2.1
          have hs31 := LA.2.2.2.1
          have HBn31 := Lib.hid (HN.out.below' LA.2.2.2.2)
          have HBr31 := Lib.hid (HR.out.below' LA.2.2.2.2)
          have OWB31 := Lib.hid (own_from (b := wa.heap.size) (g := wr.heap.size) (n := 1) (c := 1) (by omega))
          have HOn31 := Lib.hid (OwnN.below (w' := w31) HOn.out LA.2.2.2.2)
          have HW31 := Lib.hid hw31
          clear hw31 LA
          go_wp2_with fail
          rw [← HW31.out]
          refine (may_f HM31.out.st (s := ⟨#[91]⟩) (L := [91]) rfl HB.out).mono ?_
          rintro e32 w32 ⟨rfl, hm32⟩
          have HM32 := Lib.hid (HM31.out.trans hm32)
          have hs32 := hm32.grown.size
          have HBn32 := Lib.hid (NdB.grown HBn31.out hm32.grown (show X.P < w.heap.size by omega))
          have HBr32 := Lib.hid (NdB.grown HBr31.out hm32.grown (show X.P < (w.heap.size + 1) by omega))
          have HBo32 := Lib.hid (NdB.grown HBo31.out hm32.grown (show X.P < (wr.heap.size + 1) by omega))
          have HOo32 := Lib.hid (OwnN.grown HOo31.out hm32.grown (fun h => absurd (HDP.out _ h.1) (Nat.lt_irrefl _)))
          clear hm32
          go_wp2_with fail
          refine (may_t HM32.out.st (s := ⟨#[46]⟩) (L := [46]) rfl HD.out).mono ?_
          rintro e33 w33 ⟨rfl, hm33⟩
          have HM33 := Lib.hid (HM32.out.trans hm33)
          have hs33 := hm33.grown.size
          have HBn33 := Lib.hid (NdB.grown HBn32.out hm33.grown (show X.P < w.heap.size by omega))
          have HBr33 := Lib.hid (NdB.grown HBr32.out hm33.grown (show X.P < (w.heap.size + 1) by omega))
          have HBo33 := Lib.hid (NdB.grown HBo32.out hm33.grown (show X.P < (wr.heap.size + 1) by omega))
          have HOo33 := Lib.hid (OwnN.grown HOo32.out hm33.grown (fun h => absurd (HDP.out _ h.1) (Nat.lt_irrefl _)))
          clear hm33
          have c2_0 := HBo33.out.c0
          have f2_0 := HBo33.out.fr 0
          go_upto_region 15 with fail
          obtain ⟨w34, hw34⟩ : ∃ W, W = (w33.setCell ⟨(wr.heap.size + 1), 0, none⟩ (.int .i64 22)) := ⟨_, rfl⟩
          have hg34 : w33.grownBy w34 (some (wr.heap.size + 1)) := by rw [hw34]; exact only_set1 _ _ _ _
          have hs34 := hg34.size
          have HM34 := Lib.hid (HM33.out.node HBo33.out (by omega) (by omega) hg34)
          have HBn34 := Lib.hid (HBn33.out.apart hg34 (by omega))
          have HBr34 := Lib.hid (HBr33.out.apart hg34 (by omega))
          have HBo34 := Lib.hid (show NdB w34 (wr.heap.size + 1) (.int .i64 22) (.int .i64 ln) (.string ⟨#[]⟩) (.int .i64 0) (.int .i64 0) (.string ⟨#[]⟩) (.slice none 0 0) (.slice (some ⟨wr.heap.size, 0, none⟩) 1 1) by rw [hw34]; exact HBo33.out.set0 _)
          have HOo34 := Lib.hid (OwnN.keep HOo33.out (fun k hk hk2 => hg34.block k hk2 (fun e => by injection e with e; have h2 := hk.2; omega)) hg34.size)
          have HW34 := Lib.hid hw34
          clear hw34 hg34
          rw [← HW34.out]
          go_upto_region 15 with fail
          have c7 := HBo34.out.c7
          have vlt := Lib.hid (fun g (hg : (.slice (some ⟨wr.heap.size, 0, none⟩) 1 1 : Value).ownBlock = some g) => (HOo34.out.ge g hg).2)
          have EXC := Lib.hid (fun W (hW : PSt W X (nextS q)) => IH.out.part kk (by omega) W _ _ hW (by first | omega | (simp <;> omega)) (by first | omega | (simp <;> omega)) HQ5.out)
          have HSD := Lib.hid (show PSt w34.drew X (nextS q) from HM34.out.st.below (Below.drew (Below.refl _ _)))
          have HMD := Lib.hid (show Mvd w w34.drew X (nextS q) from HM34.out.drew)
          go_region_law
            (first
              | (refine step_app_nodes (by rfl) (.tmp 49) (.tmp 52) 29 (by rfl) Tryz.underlying29 hi0 hz0 hz1 hz2 (by rfl) (by rfl) APP.out.1 (by rfl) (by rfl) APP.out.2 (fun e => by cases e) (by first | (simp only [len_nd]; omega) | (simp only [NL.len_app, len_nd]; omega) | (simp only [len_nd, NL.len]; omega)) (by refine ⟨HDW.out _ ?_, ?_, ?_, ?_⟩ <;> (rw [World.size_alloc]; omega)) ?_
                 intro A9 c9 w9 hown9 hg9 hob9
                 have k7 : w9.cell? ⟨(wr.heap.size + 1), 7, none⟩ = some (.slice (some ⟨wr.heap.size, 0, none⟩) 1 1) := ((HN8.out.alloc _).app hg9 (fun e => (HO8.out.ge _ e).1.2.2.2 rfl)).c7
                 have j7 : w9.frozen? ⟨(wr.heap.size + 1), 7, none⟩ = false := ((HN8.out.alloc _).app hg9 (fun e => (HO8.out.ge _ e).1.2.2.2 rfl)).fr 7)
              | (go_simp; go_at_call 203; refine (EXC.out _ HSD.out).mono ?_
                 rintro e9 w8 ⟨op8, ln8, t8, k8, m8, u8, va8, vc8, V8, sub8, hn, rfl, hm, ho, hk, hl, hd⟩
                 obtain ⟨A8, c8, rfl⟩ := ho.form
                 have hn' : n5 = nd op8 ln8 t8 k8 m8 u8 sub8 := hn
                 have HK8 := Lib.hid (show okN n5 ∧ (n5).len ≤ 1 from ⟨hk, by rw [hn', len_nd]; exact Nat.le_refl _⟩)
                 have HNN := Lib.hid hn'
                 have HDD := Lib.hid (show p5.deep = p.deep + 0 by have h : p5.deep = (nextS q).deep := hd; (try simp at h); omega)
                 have HG := Lib.hid (show w34.grownBy w8 (some X.P) from ⟨hm.grown.os, hm.grown.tape, hm.grown.output, hm.grown.size, hm.grown.block⟩)
                 have HM8 := Lib.hid (HMD.out.trans hm)
                 have hs8 : w34.heap.size ≤ w8.heap.size := hm.grown.size
                 have HN8 := Lib.hid (NdB.grown (w := w34) HBo34.out HG.out (show X.P < (wr.heap.size + 1) by omega))
                 have HO8 := Lib.hid (OwnN.grown (w := w34) HOo34.out HG.out (fun h => absurd (HDP.out _ h.1) (Nat.lt_irrefl _)))
                 have APP := Lib.hid (app_at3 HO8.out ho op8 ln8 t8 k8 m8 u8 va8 vc8 (fun k (hk : w34.heap.size ≤ k) => HDW.out k (by omega)) (by show _ < w34.heap.size; omega) (by show _ < w34.heap.size; omega) (by show _ < w34.heap.size; omega) (by show w34.heap.size ≤ _; omega) vlt.out)
                 have c7_8 := HN8.out.c7
                 have c7_9 := fun o => cellA c7_8 o
                 clear hn hn' hm ho hk hl hd
                 unfold nd8))
          all_goals
            obtain ⟨wc, hwc⟩ : ∃ W, W = w9.setCell ⟨(wr.heap.size + 1), 7, none⟩ (.slice A9 ((nd op ln s kd n t sub).len + (nd op8 ln8 t8 k8 m8 u8 sub8).len) c9) := ⟨_, rfl⟩
            rw [← hwc]
            have hcut : AppG X w w34 p5 (DB3 D w.heap.size (w.heap.size + 1) (wr.heap.size + 1)) wa.heap.size (wr.heap.size + 1) (.int .i64 22) (.int .i64 ln) (.string ⟨#[]⟩) (.int .i64 0) (.int .i64 0) (.string ⟨#[]⟩) (.slice none 0 0) (nd op ln s kd n t sub) n5 1 (p.deep + 0) wc := by rw [hwc]; exact app_relG HG.out HM8.out HN8.out HO8.out (fun h => h.2.2.2 rfl) OWB31.out (by omega) (by omega) (by omega) (by omega) (by omega) ((Below.refl _ _).alloc (Nat.le_refl _) _) (by rw [HNN.out]; exact hown9) hg9 hob9 HK8.out.2 HK8.out.1 HDD.out
            clear hwc
            obtain ⟨V35, hm35, hd35, hn35, ho35, hw35, hx35, hk35, hs35, hf35⟩ := hcut
            obtain ⟨A35, c35, rfl⟩ := ho35.form
            have HM35 := Lib.hid hm35
            have HBo35 := Lib.hid hn35
            have HOo35 := Lib.hid ho35
            have HX35 := Lib.hid hk35
            have OB35 := Lib.hid hw35
            have HBn35 := Lib.hid (hf35 _ _ _ _ _ _ _ _ _ (by omega) (by omega) (by omega) HBn34.out)
            have HBr35 := Lib.hid (hf35 _ _ _ _ _ _ _ _ _ (by omega) (by omega) (by omega) HBr34.out)
            clear hm35 hn35 ho35 hk35 hf35 hw35
            have c3_0 := HBo35.out.c0
            have c3_1 := HBo35.out.c1
            have c3_2 := HBo35.out.c2
            have c3_3 := HBo35.out.c3
            have c3_4 := HBo35.out.c4
            have c3_5 := HBo35.out.c5
            have c3_6 := HBo35.out.c6
            have c3_7 := HBo35.out.c7
            have c4_0 := HBn35.out.c0
            have f4_0 := HBn35.out.fr 0
            have c4_1 := HBn35.out.c1
            have f4_1 := HBn35.out.fr 1
            have c4_2 := HBn35.out.c2
            have f4_2 := HBn35.out.fr 2
            have c4_3 := HBn35.out.c3
            have f4_3 := HBn35.out.fr 3
            have c4_4 := HBn35.out.c4
            have f4_4 := HBn35.out.fr 4
            have c4_5 := HBn35.out.c5
            have f4_5 := HBn35.out.fr 5
            have c4_6 := HBn35.out.c6
            have f4_6 := HBn35.out.fr 6
            have c4_7 := HBn35.out.c7
            have f4_7 := HBn35.out.fr 7
            go_wp2_with fail
            obtain ⟨w36, hw36⟩ : ∃ W, W = ((((((((wc.setCell ⟨w.heap.size, 0, none⟩ (.int .i64 22)).setCell ⟨w.heap.size, 1, none⟩ (.int .i64 ln)).setCell ⟨w.heap.size, 2, none⟩ (.string ⟨#[]⟩)).setCell ⟨w.heap.size, 3, none⟩ (.int .i64 0)).setCell ⟨w.heap.size, 4, none⟩ (.int .i64 0)).setCell ⟨w.heap.size, 5, none⟩ (.string ⟨#[]⟩)).setCell ⟨w.heap.size, 6, none⟩ (.slice none 0 0)).setCell ⟨w.heap.size, 7, none⟩ (.slice A35 ((nd op ln s kd n t sub).app n5).len c35)) := ⟨_, rfl⟩
            have hg36 : wc.grownBy w36 (some w.heap.size) := by rw [hw36]; exact only_set8 _ _ _ _ _ _ _ _ _ _
            have hs36 := hg36.size
            have HM36 := Lib.hid (HM35.out.node HBn35.out (by omega) (by omega) hg36)
            have HBn36 := Lib.hid (show NdB w36 w.heap.size (.int .i64 22) (.int .i64 ln) (.string ⟨#[]⟩) (.int .i64 0) (.int .i64 0) (.string ⟨#[]⟩) (.slice none 0 0) (.slice A35 ((nd op ln s kd n t sub).app n5).len c35) by rw [hw36]; exact HBn35.out.set8 _ _ _ _ _ _ _ _)
            have HBr36 := Lib.hid (show zN w36 (w.heap.size + 1) from HBr35.out.apart hg36 (by omega))
            have HOE := Lib.hid ((OwnN.keep HOo35.out (fun k hk hk2 => hg36.block k hk2 (fun e => by injection e with e; have h2 := hk.2; omega)) hg36.size).wide (D' := DB2 D w.heap.size (w.heap.size + 1)) (fun k hk _ => ⟨hk.1, hk.2.1, hk.2.2.1⟩))
            have HW36 := Lib.hid hw36
            clear hw36 hg36
            rw [← HW36.out]
            go_roundg kk
            case measure => omega
            case rel => exact ⟨22, ln, ⟨#[]⟩, 0, 0, ⟨#[]⟩, none, 0, _, ((nd op ln s kd n t sub).app n5), p5, by (first | (simp only [len_nd]; omega) | (simp only [NL.len_app, len_nd]; omega) | (rw [len_nd]; omega)), by omega, (by first | omega | (simp <;> omega)), by omega, HM36, HBr36, HBn36, HOE, Lib.hid (okN_nd (okN_app _ _ HK.out HX35.out) (fun _ => by (first | (simp only [len_nd]; omega) | (simp only [NL.len_app, len_nd]; omega) | (rw [len_nd]; decide)))), HQ2⟩
        | false =>
          rw [hd] at hr
          have HD := Lib.hid hd
          clear hd
          cases hc : isS X.l q [58] with
          | true =>
            rw [hc] at hr
            have HC := Lib.hid hc
            clear hc
            replace hr : ((prsR X.l kk .part (nextS q)).bind fun (x, p) => (prsR X.l kk (.items [41]) (mustS X.l p [40])).bind fun (y, p) => prsR X.l kk (.behind (ndL 23 ln (((nd op ln s kd n t sub).app x).app y))) p) = some r := hr
            cases hq5 : prsR X.l kk .part (nextS q) with
            | none => rw [hq5] at hr; cases hr
            | some q5 =>
            obtain ⟨n5, p5⟩ := q5
            rw [hq5] at hr
            replace hr : ((prsR X.l kk (.items [41]) (mustS X.l p5 [40])).bind fun (y, p) => prsR X.l kk (.behind (ndL 23 ln (((nd op ln s kd n t sub).app n5).app y))) p) = some r := hr
            have HQ5 := Lib.hid hq5
            clear hq5
            cases hq6 : prsR X.l kk (.items [41]) (mustS X.l p5 [40]) with
            | none => rw [hq6] at hr; cases hr
            | some q6 =>
            obtain ⟨l6, p6⟩ := q6
            rw [hq6] at hr
            replace hr : prsR X.l kk (.behind (ndL 23 ln (((nd op ln s kd n t sub).app n5).app l6))) p6 = some r := hr
            have HQ6 := Lib.hid hq6
            clear hq6
            have HQ2 := Lib.hid hr
            clear hr
            have HOn := Lib.hid HO.out
            have c1_0 := HN.out.c0
            have c1_1 := HN.out.c1
            have c1_2 := HN.out.c2
            have c1_3 := HN.out.c3
            have c1_4 := HN.out.c4
            have c1_5 := HN.out.c5
            have c1_6 := HN.out.c6
            have c1_7 := HN.out.c7
            obtain ⟨w31, hw31⟩ : ∃ W, W = (wr.alloc (.cells #[.int .i64 op, .int .i64 ln, .string s, .int .i64 kd, .int .i64 n, .string t, .slice va 0 vc, .slice AV sub.len CV] 31)).alloc (.cells #[.int .i64 0, .int .i64 ln, .string ⟨#[]⟩, .int .i64 0, .int .i64 0, .string ⟨#[]⟩, .slice none 0 0, .slice (some ⟨wr.heap.size, 0, none⟩) 1 1] 31) := ⟨_, rfl⟩
            have LA := lay_one HM.out (HOn.out.wide (D' := DB3 D w.heap.size (w.heap.size + 1) (wr.heap.size + 1)) (fun k hk hk2 => ⟨hk.1, hk.2.1, hk.2.2, by omega⟩)) op ln s kd n t va vc 0 ln ⟨HDW.out _ (by omega), by omega, by omega, by omega⟩ hw31
            have HM31 := Lib.hid LA.1
            have HBo31 := Lib.hid LA.2.1
            have HOo31 := Lib.hid LA.2.2.1
            have hs31 := LA.2.2.2.1
            have HBn31 := Lib.hid (HN.out.below' LA.2.2.2.2)
            have HBr31 := Lib.hid (HR.out.below' LA.2.2.2.2)
            have OWB31 := Lib.hid (own_from (b := wa.heap.size) (g := wr.heap.size) (n := 1) (c := 1) (by omega))
            have HOn31 := Lib.hid (OwnN.below (w' := w31) HOn.out LA.2.2.2.2)
            have HW31 := Lib.hid hw31
            clear hw31 LA
            go_wp2_with fail
            rw [← HW31.out]
            refine (may_f HM31.out.st (s := ⟨#[91]⟩) (L := [91]) rfl HB.out).mono ?_
            rintro e32 w32 ⟨rfl, hm32⟩
            have HM32 := Lib.hid (HM31.out.trans hm32)
            have hs32 := hm32.grown.size
            have HBn32 := Lib.hid (NdB.grown HBn31.out hm32.grown (show X.P < w.heap.size by omega))
            have HBr32 := Lib.hid (NdB.grown HBr31.out hm32.grown (show X.P < (w.heap.size + 1) by omega))
            have HBo32 := Lib.hid (NdB.grown HBo31.out hm32.grown (show X.P < (wr.heap.size + 1) by omega))
            have HOo32 := Lib.hid (OwnN.grown HOo31.out hm32.grown (fun h => absurd (HDP.out _ h.1) (Nat.lt_irrefl _)))
            clear hm32
            go_wp2_with fail
            refine (may_f HM32.out.st (s := ⟨#[46]⟩) (L := [46]) rfl HD.out).mono ?_
            rintro e33 w33 ⟨rfl, hm33⟩
            have HM33 := Lib.hid (HM32.out.trans hm33)
            have hs33 := hm33.grown.size
            have HBn33 := Lib.hid (NdB.grown HBn32.out hm33.grown (show X.P < w.heap.size by omega))
            have HBr33 := Lib.hid (NdB.grown HBr32.out hm33.grown (show X.P < (w.heap.size + 1) by omega))
            have HBo33 := Lib.hid (NdB.grown HBo32.out hm33.grown (show X.P < (wr.heap.size + 1) by omega))
            have HOo33 := Lib.hid (OwnN.grown HOo32.out hm33.grown (fun h => absurd (HDP.out _ h.1) (Nat.lt_irrefl _)))
            clear hm33
            go_wp2_with fail
            refine (may_t HM33.out.st (s := ⟨#[58]⟩) (L := [58]) rfl HC.out).mono ?_
            rintro e34 w34 ⟨rfl, hm34⟩
            have HM34 := Lib.hid (HM33.out.trans hm34)
            have hs34 := hm34.grown.size
            have HBn34 := Lib.hid (NdB.grown HBn33.out hm34.grown (show X.P < w.heap.size by omega))
            have HBr34 := Lib.hid (NdB.grown HBr33.out hm34.grown (show X.P < (w.heap.size + 1) by omega))
            have HBo34 := Lib.hid (NdB.grown HBo33.out hm34.grown (show X.P < (wr.heap.size + 1) by omega))
            have HOo34 := Lib.hid (OwnN.grown HOo33.out hm34.grown (fun h => absurd (HDP.out _ h.1) (Nat.lt_irrefl _)))
            clear hm34
            have c2_0 := HBo34.out.c0
            have f2_0 := HBo34.out.fr 0
            go_upto_region 18 with fail
            obtain ⟨w35, hw35⟩ : ∃ W, W = (w34.setCell ⟨(wr.heap.size + 1), 0, none⟩ (.int .i64 23)) := ⟨_, rfl⟩
            have hg35 : w34.grownBy w35 (some (wr.heap.size + 1)) := by rw [hw35]; exact only_set1 _ _ _ _
            have hs35 := hg35.size
            have HM35 := Lib.hid (HM34.out.node HBo34.out (by omega) (by omega) hg35)
            have HBn35 := Lib.hid (HBn34.out.apart hg35 (by omega))
            have HBr35 := Lib.hid (HBr34.out.apart hg35 (by omega))
            have HBo35 := Lib.hid (show NdB w35 (wr.heap.size + 1) (.int .i64 23) (.int .i64 ln) (.string ⟨#[]⟩) (.int .i64 0) (.int .i64 0) (.string ⟨#[]⟩) (.slice none 0 0) (.slice (some ⟨wr.heap.size, 0, none⟩) 1 1) by rw [hw35]; exact HBo34.out.set0 _)
            have HOo35 := Lib.hid (OwnN.keep HOo34.out (fun k hk hk2 => hg35.block k hk2 (fun e => by injection e with e; have h2 := hk.2; omega)) hg35.size)
            have HW35 := Lib.hid hw35
            clear hw35 hg35
            rw [← HW35.out]
            go_upto_region 18 with fail
            go_cut [] (fun wx36 => AppG X w w35 p5 (DB3 D w.heap.size (w.heap.size + 1) (wr.heap.size + 1)) wa.heap.size (wr.heap.size + 1) (.int .i64 23) (.int .i64 ln) (.string ⟨#[]⟩) (.int .i64 0) (.int .i64 0) (.string ⟨#[]⟩) (.slice none 0 0) (nd op ln s kd n t sub) n5 1 (p.deep + 0) wx36)
            case first =>
              have c7 := HBo35.out.c7
              have vlt := Lib.hid (fun g (hg : (.slice (some ⟨wr.heap.size, 0, none⟩) 1 1 : Value).ownBlock = some g) => (HOo35.out.ge g hg).2)
              have EXC := Lib.hid (fun W (hW : PSt W X (nextS q)) => IH.out.part kk (by omega) W _ _ hW (by first | omega | (simp <;> omega)) (by first | omega | (simp <;> omega)) HQ5.out)
              have HSD := Lib.hid (show PSt w35.drew X (nextS q) from HM35.out.st.below (Below.drew (Below.refl _ _)))
              have HMD := Lib.hid (show Mvd w w35.drew X (nextS q) from HM35.out.drew)
              go_region_law
                (first
                  | (refine step_app_nodes (by rfl) (.tmp 60) (.tmp 63) 29 (by rfl) Tryz.underlying29 hi0 hz0 hz1 hz2 (by rfl) (by rfl) APP.out.1 (by rfl) (by rfl) APP.out.2 (fun e => by cases e) (by first | (simp only [len_nd]; omega) | (simp only [NL.len_app, len_nd]; omega) | (simp only [len_nd, NL.len]; omega)) (by refine ⟨HDW.out _ ?_, ?_, ?_, ?_⟩ <;> (rw [World.size_alloc]; omega)) ?_
                     intro A9 c9 w9 hown9 hg9 hob9
                     have k7 : w9.cell? ⟨(wr.heap.size + 1), 7, none⟩ = some (.slice (some ⟨wr.heap.size, 0, none⟩) 1 1) := ((HN8.out.alloc _).app hg9 (fun e => (HO8.out.ge _ e).1.2.2.2 rfl)).c7
                     have j7 : w9.frozen? ⟨(wr.heap.size + 1), 7, none⟩ = false := ((HN8.out.alloc _).app hg9 (fun e => (HO8.out.ge _ e).1.2.2.2 rfl)).fr 7)
                  | (go_simp; go_at_call 203; refine (EXC.out _ HSD.out).mono ?_
                     rintro e9 w8 ⟨op8, ln8, t8, k8, m8, u8, va8, vc8, V8, sub8, hn, rfl, hm, ho, hk, hl, hd⟩
                     obtain ⟨A8, c8, rfl⟩ := ho.form
                     have hn' : n5 = nd op8 ln8 t8 k8 m8 u8 sub8 := hn
                     have HK8 := Lib.hid (show okN n5 ∧ (n5).len ≤ 1 from ⟨hk, by rw [hn', len_nd]; exact Nat.le_refl _⟩)
                     have HNN := Lib.hid hn'
                     have HDD := Lib.hid (show p5.deep = p.deep + 0 by have h : p5.deep = (nextS q).deep := hd; (try simp at h); omega)
                     have HG := Lib.hid (show w35.grownBy w8 (some X.P) from ⟨hm.grown.os, hm.grown.tape, hm.grown.output, hm.grown.size, hm.grown.block⟩)
                     have HM8 := Lib.hid (HMD.out.trans hm)
                     have hs8 : w35.heap.size ≤ w8.heap.size := hm.grown.size
                     have HN8 := Lib.hid (NdB.grown (w := w35) HBo35.out HG.out (show X.P < (wr.heap.size + 1) by omega))
                     have HO8 := Lib.hid (OwnN.grown (w := w35) HOo35.out HG.out (fun h => absurd (HDP.out _ h.1) (Nat.lt_irrefl _)))
                     have APP := Lib.hid (app_at3 HO8.out ho op8 ln8 t8 k8 m8 u8 va8 vc8 (fun k (hk : w35.heap.size ≤ k) => HDW.out k (by omega)) (by show _ < w35.heap.size; omega) (by show _ < w35.heap.size; omega) (by show _ < w35.heap.size; omega) (by show w35.heap.size ≤ _; omega) vlt.out)
                     have c7_8 := HN8.out.c7
                     have c7_9 := fun o => cellA c7_8 o
                     clear hn hn' hm ho hk hl hd
                     unfold nd8))
              all_goals
                go_wp2_with fail
                go_meet
                exact app_relG HG.out HM8.out HN8.out HO8.out (fun h => h.2.2.2 rfl) OWB31.out (by omega) (by omega) (by omega) (by omega) (by omega) ((Below.refl _ _).alloc (Nat.le_refl _) _) (by rw [HNN.out]; exact hown9) hg9 hob9 HK8.out.2 HK8.out.1 HDD.out
            case rest =>
              obtain ⟨V36, hm36, hd36, hn36, ho36, hw36, hx36, hk36, hs36, hf36⟩ := hcut
              obtain ⟨A36, c36, rfl⟩ := ho36.form
              have HM36 := Lib.hid hm36
              have HBo36 := Lib.hid hn36
              have HOo36 := Lib.hid ho36
              have HX36 := Lib.hid hk36
              have OB36 := Lib.hid hw36
              have HBn36 := Lib.hid (hf36 _ _ _ _ _ _ _ _ _ (by omega) (by omega) (by omega) HBn35.out)
              have HBr36 := Lib.hid (hf36 _ _ _ _ _ _ _ _ _ (by omega) (by omega) (by omega) HBr35.out)
              clear hm36 hn36 ho36 hk36 hf36 hw36
              go_wp2_with fail
              refine (must_t HM36.out.st (s := ⟨#[40]⟩) (L := [40]) rfl).mono ?_
              rintro e37 w37 ⟨rfl, hm37⟩
              have HM37 := Lib.hid (HM36.out.trans hm37)
              have hs37 := hm37.grown.size
              have HBn37 := Lib.hid (NdB.grown HBn36.out hm37.grown (show X.P < w.heap.size by omega))
              have HBr37 := Lib.hid (NdB.grown HBr36.out hm37.grown (show X.P < (w.heap.size + 1) by omega))
              have HBo37 := Lib.hid (NdB.grown HBo36.out hm37.grown (show X.P < (wr.heap.size + 1) by omega))
              have HOo37 := Lib.hid (OwnN.grown HOo36.out hm37.grown (fun h => absurd (HDP.out _ h.1) (Nat.lt_irrefl _)))
              clear hm37
              go_upto_region 20 with fail
              have c7 := HBo37.out.c7
              have vlt := Lib.hid (fun g (hg : (.slice A36 ((nd op ln s kd n t sub).app n5).len c36 : Value).ownBlock = some g) => (HOo37.out.ge g hg).2)
              have EXC := Lib.hid (fun W (hW : PSt W X (mustS X.l p5 [40])) => IH.out.items kk (by omega) ⟨#[41]⟩ W _ _ hW (by first | omega | (simp <;> omega)) (by first | omega | (simp <;> omega)) HQ6.out)
              have HSD := Lib.hid (show PSt w37.drew X (mustS X.l p5 [40]) from HM37.out.st.below (Below.drew (Below.refl _ _)))
              have HMD := Lib.hid (show Mvd w w37.drew X (mustS X.l p5 [40]) from HM37.out.drew)
              go_region_law
                (first
                  | (refine step_app_nodes (by rfl) (.tmp 69) (.tmp 71) 29 (by rfl) Tryz.underlying29 hi0 hz0 hz1 hz2 (by rfl) (by rfl) HO8.out (by rfl) (by rfl) RPX.out HA8.out (by simp only [NL.len_app, len_nd]; omega) ⟨HDW.out _ (by omega), by omega, by omega, by omega⟩ ?_
                     intro A9 c9 w9 hown9 hg9 hob9
                     have k7 : w9.cell? ⟨(wr.heap.size + 1), 7, none⟩ = some (.slice A36 ((nd op ln s kd n t sub).app n5).len c36) := (HN8.out.app hg9 (fun e => (HO8.out.ge _ e).1.2.2.2 rfl)).c7
                     have j7 : w9.frozen? ⟨(wr.heap.size + 1), 7, none⟩ = false := (HN8.out.app hg9 (fun e => (HO8.out.ge _ e).1.2.2.2 rfl)).fr 7)
                  | (go_simp; go_at_call 204; refine (EXC.out _ HSD.out).mono ?_
                     rintro e9 w8 ⟨V8, rfl, hm, ho, hk, hl, hd⟩
                     obtain ⟨A8, c8, hV8, hc8, ha8, hr8⟩ := ho.kids
                     subst hV8
                     replace hr8 : RpN w8 (fun k => w37.heap.size ≤ k ∧ k < w8.heap.size) l6 A8 := hr8
                     replace hl : (l6).len ≤ (2 * kk + 2) := hl
                     have HK8 := Lib.hid (show okN l6 from hk)
                     have HA8 := Lib.hid ha8
                     have HDD := Lib.hid (show p6.deep = p.deep + 0 by have h : p6.deep = (mustS X.l p5 [40]).deep := hd; (try simp at h); omega)
                     have HG := Lib.hid (show w37.grownBy w8 (some X.P) from ⟨hm.grown.os, hm.grown.tape, hm.grown.output, hm.grown.size, hm.grown.block⟩)
                     have HM8 := Lib.hid (HMD.out.trans hm)
                     have hs8 : w37.heap.size ≤ w8.heap.size := hm.grown.size
                     have HN8 := Lib.hid (NdB.grown (w := w37) HBo37.out HG.out (show X.P < (wr.heap.size + 1) by omega))
                     have HO8 := Lib.hid (OwnN.grown (w := w37) HOo37.out HG.out (fun h => absurd (HDP.out _ h.1) (Nat.lt_irrefl _)))
                     have RPX := Lib.hid (show RpN w8 (SN w8 (DB3 D w.heap.size (w.heap.size + 1) (wr.heap.size + 1)) (.slice A36 ((nd op ln s kd n t sub).app n5).len c36)) l6 A8 from hr8.keep (fun _ _ => rfl) (fun k hk => ⟨⟨HDW.out k (by have := hk.1; omega), by have := hk.1; omega, by have := hk.1; omega, by have := hk.1; omega⟩, hk.2, fun e => by have := vlt.out k e; have := hk.1; omega⟩))
                     have c7_8 := HN8.out.c7
                     clear hm ho hk hd hc8 ha8 hr8))
              all_goals
                obtain ⟨wc, hwc⟩ : ∃ W, W = w9.setCell ⟨(wr.heap.size + 1), 7, none⟩ (.slice A9 (((nd op ln s kd n t sub).app n5).len + l6.len) c9) := ⟨_, rfl⟩
                rw [← hwc]
                have hcut : AppG X w w37 p6 (DB3 D w.heap.size (w.heap.size + 1) (wr.heap.size + 1)) wa.heap.size (wr.heap.size + 1) (.int .i64 23) (.int .i64 ln) (.string ⟨#[]⟩) (.int .i64 0) (.int .i64 0) (.string ⟨#[]⟩) (.slice none 0 0) ((nd op ln s kd n t sub).app n5) l6 (2 * kk + 2) (p.deep + 0) wc := by rw [hwc]; exact app_relG HG.out HM8.out HN8.out HO8.out (fun h => h.2.2.2 rfl) OB36.out (by omega) (by omega) (by omega) (by omega) (by omega) (Below.refl _ _) hown9 hg9 hob9 hl HK8.out HDD.out
                clear hwc
                obtain ⟨V38, hm38, hd38, hn38, ho38, hw38, hx38, hk38, hs38, hf38⟩ := hcut
                obtain ⟨A38, c38, rfl⟩ := ho38.form
                have HM38 := Lib.hid hm38
                have HBo38 := Lib.hid hn38
                have HOo38 := Lib.hid ho38
                have HX38 := Lib.hid hk38
                have OB38 := Lib.hid hw38
                have HBn38 := Lib.hid (hf38 _ _ _ _ _ _ _ _ _ (by omega) (by omega) (by omega) HBn37.out)
                have HBr38 := Lib.hid (hf38 _ _ _ _ _ _ _ _ _ (by omega) (by omega) (by omega) HBr37.out)
                clear hm38 hn38 ho38 hk38 hf38 hw38
                have c3_0 := HBo38.out.c0
                have c3_1 := HBo38.out.c1
                have c3_2 := HBo38.out.c2
                have c3_3 := HBo38.out.c3
                have c3_4 := HBo38.out.c4
                have c3_5 := HBo38.out.c5
                have c3_6 := HBo38.out.c6
                have c3_7 := HBo38.out.c7
                have c4_0 := HBn38.out.c0
                have f4_0 := HBn38.out.fr 0
                have c4_1 := HBn38.out.c1
                have f4_1 := HBn38.out.fr 1
                have c4_2 := HBn38.out.c2
                have f4_2 := HBn38.out.fr 2
                have c4_3 := HBn38.out.c3
                have f4_3 := HBn38.out.fr 3
                have c4_4 := HBn38.out.c4
                have f4_4 := HBn38.out.fr 4
                have c4_5 := HBn38.out.c5
                have f4_5 := HBn38.out.fr 5
                have c4_6 := HBn38.out.c6
                have f4_6 := HBn38.out.fr 6
                have c4_7 := HBn38.out.c7
                have f4_7 := HBn38.out.fr 7
                go_wp2_with fail
                obtain ⟨w39, hw39⟩ : ∃ W, W = ((((((((wc.setCell ⟨w.heap.size, 0, none⟩ (.int .i64 23)).setCell ⟨w.heap.size, 1, none⟩ (.int .i64 ln)).setCell ⟨w.heap.size, 2, none⟩ (.string ⟨#[]⟩)).setCell ⟨w.heap.size, 3, none⟩ (.int .i64 0)).setCell ⟨w.heap.size, 4, none⟩ (.int .i64 0)).setCell ⟨w.heap.size, 5, none⟩ (.string ⟨#[]⟩)).setCell ⟨w.heap.size, 6, none⟩ (.slice none 0 0)).setCell ⟨w.heap.size, 7, none⟩ (.slice A38 (((nd op ln s kd n t sub).app n5).app l6).len c38)) := ⟨_, rfl⟩
                have hg39 : wc.grownBy w39 (some w.heap.size) := by rw [hw39]; exact only_set8 _ _ _ _ _ _ _ _ _ _
                have hs39 := hg39.size
                have HM39 := Lib.hid (HM38.out.node HBn38.out (by omega) (by omega) hg39)
                have HBn39 := Lib.hid (show NdB w39 w.heap.size (.int .i64 23) (.int .i64 ln) (.string ⟨#[]⟩) (.int .i64 0) (.int .i64 0) (.string ⟨#[]⟩) (.slice none 0 0) (.slice A38 (((nd op ln s kd n t sub).app n5).app l6).len c38) by rw [hw39]; exact HBn38.out.set8 _ _ _ _ _ _ _ _)
                have HBr39 := Lib.hid (show zN w39 (w.heap.size + 1) from HBr38.out.apart hg39 (by omega))
                have HOE := Lib.hid ((OwnN.keep HOo38.out (fun k hk hk2 => hg39.block k hk2 (fun e => by injection e with e; have h2 := hk.2; omega)) hg39.size).wide (D' := DB2 D w.heap.size (w.heap.size + 1)) (fun k hk _ => ⟨hk.1, hk.2.1, hk.2.2.1⟩))
                have HW39 := Lib.hid hw39
                clear hw39 hg39
                rw [← HW39.out]
                go_roundg kk
                case measure => omega
                case rel => exact ⟨23, ln, ⟨#[]⟩, 0, 0, ⟨#[]⟩, none, 0, _, (((nd op ln s kd n t sub).app n5).app l6), p6, by (first | (simp only [len_nd]; omega) | (simp only [NL.len_app, len_nd]; omega) | (rw [len_nd]; omega)), by omega, (by first | omega | (simp <;> omega)), by omega, HM39, HBr39, HBn39, HOE, Lib.hid (okN_nd (okN_app _ _ (okN_app _ _ HK.out HX36.out) HX38.out) (fun _ => by (first | (simp only [len_nd]; omega) | (simp only [NL.len_app, len_nd]; omega) | (rw [len_nd]; decide)))), HQ2⟩
          | false =>
            rw [hc] at hr
            have HC := Lib.hid hc
            clear hc
            replace hr : some (nd op ln s kd n t sub, q) = some r := hr
            have HRR := Lib.hid (Option.some.inj hr).symm
            clear hr
            have HOn := Lib.hid HO.out
            have c1_0 := HN.out.c0
            have c1_1 := HN.out.c1
            have c1_2 := HN.out.c2
            have c1_3 := HN.out.c3
            have c1_4 := HN.out.c4
            have c1_5 := HN.out.c5
            have c1_6 := HN.out.c6
            have c1_7 := HN.out.c7
            obtain ⟨w31, hw31⟩ : ∃ W, W = (wr.alloc (.cells #[.int .i64 op, .int .i64 ln, .string s, .int .i64 kd, .int .i64 n, .string t, .slice va 0 vc, .slice AV sub.len CV] 31)).alloc (.cells #[.int .i64 0, .int .i64 ln, .string ⟨#[]⟩, .int .i64 0, .int .i64 0, .string ⟨#[]⟩, .slice none 0 0, .slice (some ⟨wr.heap.size, 0, none⟩) 1 1] 31) := ⟨_, rfl⟩
            have LA := lay_one HM.out (HOn.out.wide (D' := DB3 D w.heap.size (w.heap.size + 1) (wr.heap.size + 1)) (fun k hk hk2 => ⟨hk.1, hk.2.1, hk.2.2, by omega⟩)) op ln s kd n t va vc 0 ln ⟨HDW.out _ (by omega), by omega, by omega, by omega⟩ hw31
            have HM31 := Lib.hid LA.1
            have HBo31 := Lib.hid LA.2.1
            have HOo31 := Lib.hid LA.2.2.1
            have hs31 := LA.2.2.2.1
            have HBn31 := Lib.hid (HN.out.below' LA.2.2.2.2)
            have HBr31 := Lib.hid (HR.out.below' LA.2.2.2.2)
            have OWB31 := Lib.hid (own_from (b := wa.heap.size) (g := wr.heap.size) (n := 1) (c := 1) (by omega))
            have HOn31 := Lib.hid (OwnN.below (w' := w31) HOn.out LA.2.2.2.2)
            have HW31 := Lib.hid hw31
            clear hw31 LA
            go_wp2_with fail
            rw [← HW31.out]
            refine (may_f HM31.out.st (s := ⟨#[91]⟩) (L := [91]) rfl HB.out).mono ?_
            rintro e32 w32 ⟨rfl, hm32⟩
            have HM32 := Lib.hid (HM31.out.trans hm32)
            have hs32 := hm32.grown.size
            have HBn32 := Lib.hid (NdB.grown HBn31.out hm32.grown (show X.P < w.heap.size by omega))
            have HBr32 := Lib.hid (NdB.grown HBr31.out hm32.grown (show X.P < (w.heap.size + 1) by omega))
            have HBo32 := Lib.hid (NdB.grown HBo31.out hm32.grown (show X.P < (wr.heap.size + 1) by omega))
            have HOn32 := Lib.hid (OwnN.grown HOn31.out hm32.grown (fun h => absurd (HDP.out _ h.1) (Nat.lt_irrefl _)))
            clear hm32
            go_wp2_with fail
            refine (may_f HM32.out.st (s := ⟨#[46]⟩) (L := [46]) rfl HD.out).mono ?_
            rintro e33 w33 ⟨rfl, hm33⟩
            have HM33 := Lib.hid (HM32.out.trans hm33)
            have hs33 := hm33.grown.size
            have HBn33 := Lib.hid (NdB.grown HBn32.out hm33.grown (show X.P < w.heap.size by omega))
            have HBr33 := Lib.hid (NdB.grown HBr32.out hm33.grown (show X.P < (w.heap.size + 1) by omega))
            have HBo33 := Lib.hid (NdB.grown HBo32.out hm33.grown (show X.P < (wr.heap.size + 1) by omega))
            have HOn33 := Lib.hid (OwnN.grown HOn32.out hm33.grown (fun h => absurd (HDP.out _ h.1) (Nat.lt_irrefl _)))
            clear hm33
            go_wp2_with fail
            refine (may_f HM33.out.st (s := ⟨#[58]⟩) (L := [58]) rfl HC.out).mono ?_
            rintro e34 w34 ⟨rfl, hm34⟩
            have HM34 := Lib.hid (HM33.out.trans hm34)
            have hs34 := hm34.grown.size
            have HBn34 := Lib.hid (NdB.grown HBn33.out hm34.grown (show X.P < w.heap.size by omega))
            have HBr34 := Lib.hid (NdB.grown HBr33.out hm34.grown (show X.P < (w.heap.size + 1) by omega))
            have HBo34 := Lib.hid (NdB.grown HBo33.out hm34.grown (show X.P < (wr.heap.size + 1) by omega))
            have HOn34 := Lib.hid (OwnN.grown HOn33.out hm34.grown (fun h => absurd (HDP.out _ h.1) (Nat.lt_irrefl _)))
            clear hm34
            have c2_0 := HBn34.out.c0
            have c2_1 := HBn34.out.c1
            have c2_2 := HBn34.out.c2
            have c2_3 := HBn34.out.c3
            have c2_4 := HBn34.out.c4
            have c2_5 := HBn34.out.c5
            have c2_6 := HBn34.out.c6
            have c2_7 := HBn34.out.c7
            have c3_0 := HBr34.out.c0
            have f3_0 := HBr34.out.fr 0
            have c3_1 := HBr34.out.c1
            have f3_1 := HBr34.out.fr 1
            have c3_2 := HBr34.out.c2
            have f3_2 := HBr34.out.fr 2
            have c3_3 := HBr34.out.c3
            have f3_3 := HBr34.out.fr 3
            have c3_4 := HBr34.out.c4
            have f3_4 := HBr34.out.fr 4
            have c3_5 := HBr34.out.c5
            have f3_5 := HBr34.out.fr 5
            have c3_6 := HBr34.out.c6
            have f3_6 := HBr34.out.fr 6
            have c3_7 := HBr34.out.c7
            have f3_7 := HBr34.out.fr 7
            go_wp2_with fail
            refine ret_cell8 Tryz.results173 (w.heap.size + 1) rfl rfl (HBr34.out.set8 _ _ _ _ _ _ _ _) ?_
            exact PNd.mk op ln s kd n t va vc _ sub _ HRR.out (HM34.out.node HBr34.out (by omega) (by omega) (only_set8 _ _ _ _ _ _ _ _ _ _)) ((HOn34.out.keep (fun k hk hk2 => (only_set8 _ _ _ _ _ _ _ _ _ _).block k hk2 (fun e => by injection e with e; have h2 := hk.2.2; omega)) (only_set8 _ _ _ _ _ _ _ _ _ _).size).wide (fun k hk _ => hk.1)) HK.out (by omega) (by first | omega | (simp <;> omega))
end Go.Proofs.YtggngahmafbihaaGreatDoor
