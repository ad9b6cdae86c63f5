/- Contracts of the functions that the statement reaches, and the plain mathematics beneath: several texts joined. -/
import Derived.Test.YtggngahmafbihaaGreatDoorPbiAL
namespace Go.Proofs.YtggngahmafbihaaGreatDoor
open Go.RowKit Go.Lib
set_option linter.unusedVariables false
/-- A node that has one, and the row that it is put into, laid. -/
theorem splice_at {W W' : World} {D Dx : Nat → Prop} {V Vx : Value} {l sub : NL} (hV : OwnN W D V l) (hx : OwnN W Dx Vx sub) (op ln : Int) (s : ByteArray) (k n : Int) (t : ByteArray) (va : Option Addr) (vc : Nat) (op2 ln2 : Int) (hDx : ∀ k, W.heap.size ≤ k → Dx k) (hB : ∀ k, Dx k → D k) (hVB : ∀ g, V.ownBlock = some g → ¬ Dx g)
    (hW : W' = (W.alloc (.cells (nd8 op ln s k n t va vc Vx) 31)).alloc (.cells #[.int .i64 op2, .int .i64 ln2, .string ⟨#[]⟩, .int .i64 0, .int .i64 0, .string ⟨#[]⟩, .slice none 0 0, .slice (some ⟨W.heap.size, 0, none⟩) 1 1] 31)) :
    OwnN W' D V l ∧ RpN W' (SN W' D V) (nd op2 ln2 ⟨#[]⟩ 0 0 ⟨#[]⟩ (nd op ln s k n t sub)) (some ⟨W.heap.size + 1, 0, none⟩) := by
  have h1 := OwnN.lit (hx.row1 op ln s k n t va vc) (hDx _ (Nat.le_refl _)) (by show 1 ≤ _; decide)
  have hb1 : Below W.heap.size W (W.alloc (.cells (nd8 op ln s k n t va vc Vx) 31)) := (Below.refl _ _).alloc (Nat.le_refl _) _
  have h2 := one_rpn (V := V) (D := D) h1 op2 ln2 ⟨#[]⟩ 0 0 ⟨#[]⟩ none 0 (hDx _ (by simp)) hB hVB
  rw [World.size_alloc] at h2
  subst hW
  exact ⟨(hV.below hb1).below ((Below.refl _ _).alloc (Nat.le_refl _) _), h2⟩
theorem app_end1 {a W w9 : World} {X : PCtx} {p : PS} {base x0 : Nat} {V : Value} {l : NL} {o o2 : Obj} (hm : Mvd a W X p) (hV : OwnN W (DG base x0) V l) (hP : X.P < base) (ha : a.heap.size ≤ base) (hg : ((W.alloc o).alloc o2).grownBy w9 V.ownBlock) :
    Mvd a w9 X p ∧ W.heap.size + 1 ≤ w9.heap.size := by
  have hb : Below W.heap.size W ((W.alloc o).alloc o2) := ((Below.refl _ _).alloc (Nat.le_refl _) _).alloc (by simp) _
  refine ⟨((hm.alloc o).alloc o2).app (hV.below hb) (fun k hk => Nat.lt_of_lt_of_le hP hk.1) (fun k hk => Nat.le_trans ha hk.1) hg, ?_⟩
  have := hg.size; simp at this; omega

set_option maxRecDepth 100000 in
set_option maxHeartbeats 8000000 in
theorem row_step (X : PCtx) (F : Nat) (hF : F ≤ 1000000000) (ih : EC X F) : ListC X 231 #[] (.row .nil) (F + 1) := by
  intro w p r hst h0 h1 hr
  have hPl := hst.lt
  have hlen := hst.len
  obtain ⟨i0, hi0, hz0, hz1, hz2⟩ := info_parts pnode_info
  have IH := Lib.hid ih
  clear ih
  have HMw := Lib.hid (Mvd.of hst)
  have HR0 := Lib.hid hr
  clear hr
  go_enter Tryz.func231, Tryz.ntmps231
  go_wp2_with fail
  go_loopg [3] (F + 1) (fun kk ov wr => ∃ (V : Value) (q : PS) (acc : NL), V = ov ∧ acc.len + kk ≤ F + 1 ∧ q.deep = p.deep ∧ w.heap.size ≤ wr.heap.size ∧ Hid (Mvd w wr X q) ∧ Hid (OwnN wr (DG w.heap.size 0) V acc) ∧ Hid (okN acc) ∧ Hid (prsR X.l kk (.row acc) q = some r))
  case atStart => exact ⟨_, p, .nil, rfl, by show 0 + (F + 1) ≤ _; omega, rfl, Nat.le_refl _, HMw, OwnN.nil _ _, trivial, HR0⟩
  case round =>
    obtain ⟨V, q, acc, rfl, hal, hqd, hs0, HM, HO, HK, HQ⟩ := hrel
    obtain ⟨AV, CV, hVf⟩ := HO.out.form
    subst hVf
    cases gk with
    | zero => have h := HQ.out; rw [prsR] at h; cases h
    | succ k =>
    have hr := HQ.out
    rw [prsR] at hr
    obtain ⟨ev, hP, hE⟩ := HM.out.st.at_
    have c3 := hP.c3
    clear HQ
    cases he : q.err with
    | some x =>
      rw [he] at hE
      obtain ⟨ty, ve, rfl⟩ := errv_some hE
      replace hr : some (acc, q) = some r := by rw [← hr]; simp only [he]; rfl
      have HRR := Lib.hid (Option.some.inj hr).symm
      clear hP hE he hr
      go_wp2_with fail
      go_ret
      exact PNl.mk _ acc _ HRR.out HM.out (HO.out.wide (fun k hk _ => by have := hk.1; show w.heap.size ≤ k; omega)) HK.out (by omega) (by omega)
    | none =>
      rw [he] at hE
      obtain rfl : ev = .nilIface := hE
      replace hr : (if isS X.l q [64] then (prsR X.l k .expr (nextS q)).bind fun (x, p) => if isS X.l p [44] then prsR X.l k (.row (acc.app (ndL 26 (lineS X.l q) x))) (nextS p) else some (acc.app (ndL 26 (lineS X.l q) x), p)
        else (prsR X.l k .expr q).bind fun (x, p) => if isS X.l p [44] then prsR X.l k (.row (acc.app x)) (nextS p) else some (acc.app x, p)) = some r := by rw [← hr]; simp only [he]; rfl
      clear hP he
      cases hb : isS X.l q [64] with
      | true =>
        rw [hb] at hr
        have HB := Lib.hid hb
        clear hb
        replace hr : ((prsR X.l k .expr (nextS q)).bind fun (x, p) => if isS X.l p [44] then prsR X.l k (.row (acc.app (ndL 26 (lineS X.l q) x))) (nextS p) else some ((acc.app (ndL 26 (lineS X.l q) x)), p)) = some r := hr
        cases hq1 : prsR X.l k .expr (nextS q) with
        | none => rw [hq1] at hr; cases hr
        | some q1 =>
        obtain ⟨n1, p1⟩ := q1
        rw [hq1] at hr
        replace hr : (if isS X.l p1 [44] then prsR X.l k (.row (acc.app (ndL 26 (lineS X.l q) n1))) (nextS p1) else some ((acc.app (ndL 26 (lineS X.l q) n1)), p1)) = some r := hr
        have HQ1 := Lib.hid hq1
        clear hq1
        cases hc : isS X.l p1 [44] with
        | true =>
          rw [hc] at hr
          have HC := Lib.hid hc
          clear hc
          have HQ2 := Lib.hid (show prsR X.l k (.row (acc.app (ndL 26 (lineS X.l q) n1))) (nextS p1) = some r from hr)
          clear hr
          go_wp2_with fail
          refine (line_t HM.out.st).mono ?_
          rintro e1 w1 ⟨rfl, hm1⟩
          have HM1 := Lib.hid (HM.out.trans hm1)
          have hs1 := hm1.grown.size
          have HOa1 := Lib.hid (OwnN.grown HO.out hm1.grown (DG.not (by omega)))
          clear hm1
          go_wp2_with fail
          refine (may_t HM1.out.st (s := ⟨#[64]⟩) (L := [64]) rfl HB.out).mono ?_
          rintro e2 w2 ⟨rfl, hm2⟩
          have HM2 := Lib.hid (HM1.out.trans hm2)
          have hs2 := hm2.grown.size
          have HOa2 := Lib.hid (OwnN.grown HOa1.out hm2.grown (DG.not (by omega)))
          clear hm2
          go_wp2_with fail
          refine (IH.out.expr k (by omega) w2 _ _ HM2.out.st (by first | omega | (simp <;> omega)) (by first | omega | (simp <;> omega)) HQ1.out).mono ?_
          rintro e3 w3 ⟨op3, ln3, t3, k3, m3, u3, va3, vc3, V3, sub3, hn3, rfl, hm3, ho3, hk3, hl3, hd3⟩
          obtain ⟨A3, cc3, rfl⟩ := ho3.form
          have hn3 : n1 = nd op3 ln3 t3 k3 m3 u3 sub3 := hn3
          subst hn3
          have hk3 := Lib.hid hk3
          have hd3 : p1.deep = p.deep + 0 := by have h : p1.deep = (nextS q).deep := hd3; (try simp at h); omega
          have HM3 := Lib.hid (HM2.out.trans hm3)
          have hs3 := hm3.grown.size
          have HOa3 := Lib.hid (OwnN.grown HOa2.out hm3.grown (DG.not (by omega)))
          have HO3 := Lib.hid (ho3.wide (D' := DG w2.heap.size 0) (fun k hk hk2 => ⟨hk, by omega⟩))
          clear hm3 ho3
          unfold nd8
          have VLT := Lib.hid (fun g (hg : (.slice AV acc.len CV : Value).ownBlock = some g) => (HO.out.ge g hg).2)
          have APP := Lib.hid (splice_at (op2 := 26) (ln2 := lineS X.l q) HOa3.out HO3.out op3 ln3 t3 k3 m3 u3 va3 vc3 (fun k hk => ⟨by omega, by omega⟩) (fun k hk => ⟨by have := hk.1; omega, by have := hk.1; omega⟩) (fun g hg hk => by have := VLT.out g hg; have := hk.1; omega) rfl)
          go_wp2_with (at_builtin; refine wpList_app_nodes rfl (.tmp 14) (.tmp 20) 29 rfl Tryz.underlying29 hi0 hz0 hz1 hz2 rfl rfl APP.out.1 rfl rfl APP.out.2 (fun e => by cases e) (by simp only [len_nd]; omega) (by refine ⟨?_, ?_⟩ <;> (rw [World.size_alloc, World.size_alloc]; omega)) ?_; intro A9 c9 w9 hown9 hg9 hob9; have AE := app_end1 HM3.out HOa3.out (by omega) (by omega) hg9; have HMA := Lib.hid AE.1; have hs9 := AE.2; have HO9 := Lib.hid hown9; clear AE hown9 hg9 hob9)
          refine (may_t HMA.out.st (s := ⟨#[44]⟩) (L := [44]) rfl HC.out).mono ?_
          rintro e4 w4 ⟨rfl, hm4⟩
          have HM4 := Lib.hid (HMA.out.trans hm4)
          have hs4 := hm4.grown.size
          have HOa4 := Lib.hid (OwnN.grown HO9.out hm4.grown (DG.not (by omega)))
          clear hm4
          go_wp2_with fail
          go_roundg k
          case measure => omega
          case rel => exact ⟨_, (nextS p1), (acc.app (nd 26 (lineS X.l q) ⟨#[]⟩ 0 0 ⟨#[]⟩ (nd op3 ln3 t3 k3 m3 u3 sub3))), rfl, by rw [NL.len_app, len_nd]; omega, by (first | omega | (simp <;> omega)), by omega, HM4, HOa4, Lib.hid (okN_app _ _ HK.out (okN_nd hk3.out (fun _ => by rw [len_nd]; decide))), HQ2⟩
        | false =>
          rw [hc] at hr
          have HC := Lib.hid hc
          clear hc
          replace hr : some ((acc.app (ndL 26 (lineS X.l q) n1)), p1) = some r := hr
          have HRR := Lib.hid (show r = ((acc.app (ndL 26 (lineS X.l q) n1)), p1) from (Option.some.inj hr).symm)
          clear hr
          go_wp2_with fail
          refine (line_t HM.out.st).mono ?_
          rintro e1 w1 ⟨rfl, hm1⟩
          have HM1 := Lib.hid (HM.out.trans hm1)
          have hs1 := hm1.grown.size
          have HOa1 := Lib.hid (OwnN.grown HO.out hm1.grown (DG.not (by omega)))
          clear hm1
          go_wp2_with fail
          refine (may_t HM1.out.st (s := ⟨#[64]⟩) (L := [64]) rfl HB.out).mono ?_
          rintro e2 w2 ⟨rfl, hm2⟩
          have HM2 := Lib.hid (HM1.out.trans hm2)
          have hs2 := hm2.grown.size
          have HOa2 := Lib.hid (OwnN.grown HOa1.out hm2.grown (DG.not (by omega)))
          clear hm2
          go_wp2_with fail
          refine (IH.out.expr k (by omega) w2 _ _ HM2.out.st (by first | omega | (simp <;> omega)) (by first | omega | (simp <;> omega)) HQ1.out).mono ?_
          rintro e3 w3 ⟨op3, ln3, t3, k3, m3, u3, va3, vc3, V3, sub3, hn3, rfl, hm3, ho3, hk3, hl3, hd3⟩
          obtain ⟨A3, cc3, rfl⟩ := ho3.form
          have hn3 : n1 = nd op3 ln3 t3 k3 m3 u3 sub3 := hn3
          subst hn3
          have hk3 := Lib.hid hk3
          have hd3 : p1.deep = p.deep + 0 := by have h : p1.deep = (nextS q).deep := hd3; (try simp at h); omega
          have HM3 := Lib.hid (HM2.out.trans hm3)
          have hs3 := hm3.grown.size
          have HOa3 := Lib.hid (OwnN.grown HOa2.out hm3.grown (DG.not (by omega)))
          have HO3 := Lib.hid (ho3.wide (D' := DG w2.heap.size 0) (fun k hk hk2 => ⟨hk, by omega⟩))
          clear hm3 ho3
          unfold nd8
          have VLT := Lib.hid (fun g (hg : (.slice AV acc.len CV : Value).ownBlock = some g) => (HO.out.ge g hg).2)
          have APP := Lib.hid (splice_at (op2 := 26) (ln2 := lineS X.l q) HOa3.out HO3.out op3 ln3 t3 k3 m3 u3 va3 vc3 (fun k hk => ⟨by omega, by omega⟩) (fun k hk => ⟨by have := hk.1; omega, by have := hk.1; omega⟩) (fun g hg hk => by have := VLT.out g hg; have := hk.1; omega) rfl)
          go_wp2_with (at_builtin; refine wpList_app_nodes rfl (.tmp 14) (.tmp 20) 29 rfl Tryz.underlying29 hi0 hz0 hz1 hz2 rfl rfl APP.out.1 rfl rfl APP.out.2 (fun e => by cases e) (by simp only [len_nd]; omega) (by refine ⟨?_, ?_⟩ <;> (rw [World.size_alloc, World.size_alloc]; omega)) ?_; intro A9 c9 w9 hown9 hg9 hob9; have AE := app_end1 HM3.out HOa3.out (by omega) (by omega) hg9; have HMA := Lib.hid AE.1; have hs9 := AE.2; have HO9 := Lib.hid hown9; clear AE hown9 hg9 hob9)
          refine (may_f HMA.out.st (s := ⟨#[44]⟩) (L := [44]) rfl HC.out).mono ?_
          rintro e4 w4 ⟨rfl, hm4⟩
          have HM4 := Lib.hid (HMA.out.trans hm4)
          have hs4 := hm4.grown.size
          have HOa4 := Lib.hid (OwnN.grown HO9.out hm4.grown (DG.not (by omega)))
          clear hm4
          go_wp2_with fail
          go_ret
          exact PNl.mk _ ((acc.app (nd 26 (lineS X.l q) ⟨#[]⟩ 0 0 ⟨#[]⟩ (nd op3 ln3 t3 k3 m3 u3 sub3)))) _ HRR.out HM4.out (HOa4.out.wide (fun k hk _ => by have := hk.1; show w.heap.size ≤ k; omega)) (okN_app _ _ HK.out (okN_nd hk3.out (fun _ => by rw [len_nd]; decide))) (by rw [NL.len_app, len_nd]; omega) (by first | omega | (simp <;> omega))
      | false =>
        rw [hb] at hr
        have HB := Lib.hid hb
        clear hb
        replace hr : ((prsR X.l k .expr q).bind fun (x, p) => if isS X.l p [44] then prsR X.l k (.row (acc.app x)) (nextS p) else some ((acc.app x), p)) = some r := hr
        cases hq1 : prsR X.l k .expr q with
        | none => rw [hq1] at hr; cases hr
        | some q1 =>
        obtain ⟨n1, p1⟩ := q1
        rw [hq1] at hr
        replace hr : (if isS X.l p1 [44] then prsR X.l k (.row (acc.app n1)) (nextS p1) else some ((acc.app n1), p1)) = some r := hr
        have HQ1 := Lib.hid hq1
        clear hq1
        cases hc : isS X.l p1 [44] with
        | true =>
          rw [hc] at hr
          have HC := Lib.hid hc
          clear hc
          have HQ2 := Lib.hid (show prsR X.l k (.row (acc.app n1)) (nextS p1) = some r from hr)
          clear hr
          go_wp2_with fail
          refine (line_t HM.out.st).mono ?_
          rintro e1 w1 ⟨rfl, hm1⟩
          have HM1 := Lib.hid (HM.out.trans hm1)
          have hs1 := hm1.grown.size
          have HOa1 := Lib.hid (OwnN.grown HO.out hm1.grown (DG.not (by omega)))
          clear hm1
          go_wp2_with fail
          refine (may_f HM1.out.st (s := ⟨#[64]⟩) (L := [64]) rfl HB.out).mono ?_
          rintro e2 w2 ⟨rfl, hm2⟩
          have HM2 := Lib.hid (HM1.out.trans hm2)
          have hs2 := hm2.grown.size
          have HOa2 := Lib.hid (OwnN.grown HOa1.out hm2.grown (DG.not (by omega)))
          clear hm2
          go_wp2_with fail
          refine (IH.out.expr k (by omega) w2 _ _ HM2.out.st (by first | omega | (simp <;> omega)) (by first | omega | (simp <;> omega)) HQ1.out).mono ?_
          rintro e3 w3 ⟨op3, ln3, t3, k3, m3, u3, va3, vc3, V3, sub3, hn3, rfl, hm3, ho3, hk3, hl3, hd3⟩
          obtain ⟨A3, cc3, rfl⟩ := ho3.form
          have hn3 : n1 = nd op3 ln3 t3 k3 m3 u3 sub3 := hn3
          subst hn3
          have hk3 := Lib.hid hk3
          have hd3 : p1.deep = p.deep + 0 := by have h : p1.deep = q.deep := hd3; (try simp at h); omega
          have HM3 := Lib.hid (HM2.out.trans hm3)
          have hs3 := hm3.grown.size
          have HOa3 := Lib.hid (OwnN.grown HOa2.out hm3.grown (DG.not (by omega)))
          have HO3 := Lib.hid (ho3.wide (D' := DG w2.heap.size 0) (fun k hk hk2 => ⟨hk, by omega⟩))
          clear hm3 ho3
          unfold nd8
          have VLT := Lib.hid (fun g (hg : (.slice AV acc.len CV : Value).ownBlock = some g) => (HO.out.ge g hg).2)
          have APP := Lib.hid (app_at0 HOa3.out HO3.out op3 ln3 t3 k3 m3 u3 va3 vc3 (by omega) (by omega) (by omega) (by omega) (fun g hg => by have := VLT.out g hg; omega))
          go_wp2_with (at_builtin; refine wpList_app_nodes rfl (.tmp 22) (.tmp 25) 29 rfl Tryz.underlying29 hi0 hz0 hz1 hz2 rfl rfl APP.out.1 rfl rfl APP.out.2 (fun e => by cases e) (by simp only [len_nd]; omega) (by refine ⟨?_, ?_⟩ <;> (rw [World.size_alloc]; omega)) ?_; intro A9 c9 w9 hown9 hg9 hob9; have AE := app_end0 HM3.out HOa3.out (by omega) (by omega) hg9; have HMA := Lib.hid AE.1; have hs9 := AE.2.1; have HO9 := Lib.hid hown9; clear AE hown9 hg9 hob9)
          refine (may_t HMA.out.st (s := ⟨#[44]⟩) (L := [44]) rfl HC.out).mono ?_
          rintro e4 w4 ⟨rfl, hm4⟩
          have HM4 := Lib.hid (HMA.out.trans hm4)
          have hs4 := hm4.grown.size
          have HOa4 := Lib.hid (OwnN.grown HO9.out hm4.grown (DG.not (by omega)))
          clear hm4
          go_wp2_with fail
          go_roundg k
          case measure => omega
          case rel => exact ⟨_, (nextS p1), (acc.app (nd op3 ln3 t3 k3 m3 u3 sub3)), rfl, by rw [NL.len_app, len_nd]; omega, by (first | omega | (simp <;> omega)), by omega, HM4, HOa4, Lib.hid (okN_app _ _ HK.out hk3.out), HQ2⟩
        | false =>
          rw [hc] at hr
          have HC := Lib.hid hc
          clear hc
          replace hr : some ((acc.app n1), p1) = some r := hr
          have HRR := Lib.hid (show r = ((acc.app n1), p1) from (Option.some.inj hr).symm)
          clear hr
          go_wp2_with fail
          refine (line_t HM.out.st).mono ?_
          rintro e1 w1 ⟨rfl, hm1⟩
          have HM1 := Lib.hid (HM.out.trans hm1)
          have hs1 := hm1.grown.size
          have HOa1 := Lib.hid (OwnN.grown HO.out hm1.grown (DG.not (by omega)))
          clear hm1
          go_wp2_with fail
          refine (may_f HM1.out.st (s := ⟨#[64]⟩) (L := [64]) rfl HB.out).mono ?_
          rintro e2 w2 ⟨rfl, hm2⟩
          have HM2 := Lib.hid (HM1.out.trans hm2)
          have hs2 := hm2.grown.size
          have HOa2 := Lib.hid (OwnN.grown HOa1.out hm2.grown (DG.not (by omega)))
          clear hm2
          go_wp2_with fail
          refine (IH.out.expr k (by omega) w2 _ _ HM2.out.st (by first | omega | (simp <;> omega)) (by first | omega | (simp <;> omega)) HQ1.out).mono ?_
          rintro e3 w3 ⟨op3, ln3, t3, k3, m3, u3, va3, vc3, V3, sub3, hn3, rfl, hm3, ho3, hk3, hl3, hd3⟩
          obtain ⟨A3, cc3, rfl⟩ := ho3.form
          have hn3 : n1 = nd op3 ln3 t3 k3 m3 u3 sub3 := hn3
          subst hn3
          have hk3 := Lib.hid hk3
          have hd3 : p1.deep = p.deep + 0 := by have h : p1.deep = q.deep := hd3; (try simp at h); omega
          have HM3 := Lib.hid (HM2.out.trans hm3)
          have hs3 := hm3.grown.size
          have HOa3 := Lib.hid (OwnN.grown HOa2.out hm3.grown (DG.not (by omega)))
          have HO3 := Lib.hid (ho3.wide (D' := DG w2.heap.size 0) (fun k hk hk2 => ⟨hk, by omega⟩))
          clear hm3 ho3
          unfold nd8
          have VLT := Lib.hid (fun g (hg : (.slice AV acc.len CV : Value).ownBlock = some g) => (HO.out.ge g hg).2)
          have APP := Lib.hid (app_at0 HOa3.out HO3.out op3 ln3 t3 k3 m3 u3 va3 vc3 (by omega) (by omega) (by omega) (by omega) (fun g hg => by have := VLT.out g hg; omega))
          go_wp2_with (at_builtin; refine wpList_app_nodes rfl (.tmp 22) (.tmp 25) 29 rfl Tryz.underlying29 hi0 hz0 hz1 hz2 rfl rfl APP.out.1 rfl rfl APP.out.2 (fun e => by cases e) (by simp only [len_nd]; omega) (by refine ⟨?_, ?_⟩ <;> (rw [World.size_alloc]; omega)) ?_; intro A9 c9 w9 hown9 hg9 hob9; have AE := app_end0 HM3.out HOa3.out (by omega) (by omega) hg9; have HMA := Lib.hid AE.1; have hs9 := AE.2.1; have HO9 := Lib.hid hown9; clear AE hown9 hg9 hob9)
          refine (may_f HMA.out.st (s := ⟨#[44]⟩) (L := [44]) rfl HC.out).mono ?_
          rintro e4 w4 ⟨rfl, hm4⟩
          have HM4 := Lib.hid (HMA.out.trans hm4)
          have hs4 := hm4.grown.size
          have HOa4 := Lib.hid (OwnN.grown HO9.out hm4.grown (DG.not (by omega)))
          clear hm4
          go_wp2_with fail
          go_ret
          exact PNl.mk _ ((acc.app (nd op3 ln3 t3 k3 m3 u3 sub3))) _ HRR.out HM4.out (HOa4.out.wide (fun k hk _ => by have := hk.1; show w.heap.size ≤ k; omega)) (okN_app _ _ HK.out hk3.out) (by rw [NL.len_app, len_nd]; omega) (by first | omega | (simp <;> omega))
end Go.Proofs.YtggngahmafbihaaGreatDoor
