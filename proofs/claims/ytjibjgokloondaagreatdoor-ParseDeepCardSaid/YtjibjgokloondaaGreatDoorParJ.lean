/- Contracts of the functions that the statement reaches, and the plain mathematics beneath: several texts joined. -/
import Derived.Test.YtjibjgokloondaaGreatDoorParF
import Derived.Test.YtjibjgokloondaaGreatDoorParA
import Derived.Test.YtjibjgokloondaaGreatDoorParB
import Derived.Test.YtjibjgokloondaaGreatDoorParC
import Derived.Test.YtjibjgokloondaaGreatDoorParD
import Derived.Test.YtjibjgokloondaaGreatDoorParE
import Derived.Test.YtjibjgokloondaaGreatDoorParG
import Derived.Test.YtjibjgokloondaaGreatDoorParH
import Derived.Test.YtjibjgokloondaaGreatDoorParI
namespace Go.Proofs.YtjibjgokloondaaGreatDoor
open Go.RowKit Go.Lib
set_option linter.unusedVariables false
/-- A node that has one, and the row that it is put into, laid. -/
theorem splice_at {W W' : World} {D Dx : Nat → Prop} {V Vx : Value} {l sub : NL} (hV : OwnN W D V l) (hx : OwnN W Dx Vx sub) (op ln : Int) (s : ByteArray) (k n : Int) (t : ByteArray) (va : Option Addr) (vc : Nat) (op2 ln2 : Int) (hDx : ∀ k, W.heap.size ≤ k → Dx k) (hB : ∀ k, Dx k → D k) (hVB : ∀ g, V.ownBlock = some g → ¬ Dx g)
    (hW : W' = (W.alloc (.cells (nd8 op ln s k n t va vc Vx) 31)).alloc (.cells #[.int .i64 op2, .int .i64 ln2, .string ⟨#[]⟩, .int .i64 0, .int .i64 0, .string ⟨#[]⟩, .slice none 0 0, .slice (some ⟨W.heap.size, 0, none⟩) 1 1] 31)) :
    OwnN W' D V l ∧ RpN W' (SN W' D V) (nd op2 ln2 ⟨#[]⟩ 0 0 ⟨#[]⟩ (nd op ln s k n t sub)) (some ⟨W.heap.size + 1, 0, none⟩) := by
  have h1 := OwnN.lit (hx.row1 op ln s k n t va vc) (hDx _ (Nat.le_refl _)) (by show 1 ≤ _; decide)
  have hb1 : Below W.heap.size W (W.alloc (.cells (nd8 op ln s k n t va vc Vx) 31)) := (Below.refl _ _).alloc (Nat.le_refl _) _
  have h2 := one_rpn (V := V) (D := D) h1 op2 ln2 ⟨#[]⟩ 0 0 ⟨#[]⟩ none 0 (hDx _ (by simp)) hB hVB
  rw [World.size_alloc] at h2
  subst hW
  exact ⟨(hV.below hb1).below ((Below.refl _ _).alloc (Nat.le_refl _) _), h2⟩
theorem app_end1 {a W w9 : World} {X : PCtx} {p : PS} {base x0 : Nat} {V : Value} {l : NL} {o o2 : Obj} (hm : Mvd a W X p) (hV : OwnN W (DG base x0) V l) (hP : X.P < base) (ha : a.heap.size ≤ base) (hg : ((W.alloc o).alloc o2).grownBy w9 V.ownBlock) :
    Mvd a w9 X p ∧ W.heap.size + 1 ≤ w9.heap.size := by
  have hb : Below W.heap.size W ((W.alloc o).alloc o2) := ((Below.refl _ _).alloc (Nat.le_refl _) _).alloc (by simp) _
  refine ⟨((hm.alloc o).alloc o2).app (hV.below hb) (fun k hk => Nat.lt_of_lt_of_le hP hk.1) (fun k hk => Nat.le_trans ha hk.1) hg, ?_⟩
  have := hg.size; simp at this; omega

set_option maxRecDepth 100000 in
set_option maxHeartbeats 8000000 in
theorem row_step (X : PCtx) (F : Nat) (hF : F ≤ 1000000000) (ih : EC X F) : ListC X 143 #[] (.row .nil) (F + 1) := by
  intro w p r hst h0 h1 hr
  have hPl := hst.lt
  have hlen := hst.len
  obtain ⟨i0, hi0, hz0, hz1, hz2⟩ := info_parts pnode_info
  have IH := Lib.hid ih
  clear ih
  have HMw := Lib.hid (Mvd.of hst)
  have HR0 := Lib.hid hr
  clear hr
  go_enter Tryz.func143, Tryz.ntmps143
  go_wp2_with fail
  go_loopg [3] (F + 1) (fun kk ov wr => ∃ (V : Value) (q : PS) (acc : NL), V = ov ∧ acc.len + kk ≤ F + 1 ∧ q.deep = p.deep ∧ w.heap.size ≤ wr.heap.size ∧ Hid (Mvd w wr X q) ∧ Hid (OwnN wr (DG w.heap.size 0) V acc) ∧ Hid (okN acc) ∧ Hid (prsR X.l kk (.row acc) q = some r))
  case atStart => exact ⟨_, p, .nil, rfl, by show 0 + (F + 1) ≤ _; omega, rfl, Nat.le_refl _, HMw, OwnN.nil _ _, trivial, HR0⟩
  case round =>
    obtain ⟨V, q, acc, rfl, hal, hqd, hs0, HM, HO, HK, HQ⟩ := hrel
    obtain ⟨AV, CV, hVf⟩ := HO.out.form
    subst hVf
    cases gk with
    | zero => have h := HQ.out; rw [prsR] at h; cases h
    | succ k =>
    have hr := HQ.out
    rw [prsR] at hr
    obtain ⟨ev, hP, hE⟩ := HM.out.st.at_
    have c3 := hP.c3
    clear HQ
    cases he : q.err with
    | some x =>
      rw [he] at hE
      obtain ⟨ty, ve, rfl⟩ := errv_some hE
      replace hr : some (acc, q) = some r := by rw [← hr]; simp only [he]; rfl
      have HRR := Lib.hid (Option.some.inj hr).symm
      clear hP hE he hr
      go_wp2_with fail
      go_ret
      exact PNl.mk _ acc _ HRR.out HM.out (HO.out.wide (fun k hk _ => by have := hk.1; show w.heap.size ≤ k; omega)) HK.out (by omega) (by omega)
    | none =>
      rw [he] at hE
      obtain rfl : ev = .nilIface := hE
      replace hr : (if isS X.l q [64] then (prsR X.l k .expr (nextS q)).bind fun (x, p) => if isS X.l p [44] then prsR X.l k (.row (acc.app (ndL 26 (lineS X.l q) x))) (nextS p) else some (acc.app (ndL 26 (lineS X.l q) x), p)
        else (prsR X.l k .expr q).bind fun (x, p) => if isS X.l p [44] then prsR X.l k (.row (acc.app x)) (nextS p) else some (acc.app x, p)) = some r := by rw [← hr]; simp only [he]; rfl
      clear hP he
      cases hb : isS X.l q [64] with
      | true =>
        rw [hb] at hr
        have HB := Lib.hid hb
        clear hb
        replace hr : ((prsR X.l k .expr (nextS q)).bind fun (x, p) => if isS X.l p [44] then prsR X.l k (.row (acc.app (ndL 26 (lineS X.l q) x))) (nextS p) else some ((acc.app (ndL 26 (lineS X.l q) x)), p)) = some r := hr
        cases hq1 : prsR X.l k .expr (nextS q) with
        | none => rw [hq1] at hr; cases hr
        | some q1 =>
        obtain ⟨n1, p1⟩ := q1
        rw [hq1] at hr
        replace hr : (if isS X.l p1 [44] then prsR X.l k (.row (acc.app (ndL 26 (lineS X.l q) n1))) (nextS p1) else some ((acc.app (ndL 26 (lineS X.l q) n1)), p1)) = some r := hr
        have HQ1 := Lib.hid hq1
        clear hq1
        cases hc : isS X.l p1 [44] with
        | true =>
          rw [hc] at hr
          have HC := Lib.hid hc
          clear hc
          have HQ2 := Lib.hid (show prsR X.l k (.row (acc.app (ndL 26 (lineS X.l q) n1))) (nextS p1) = some r from hr)
          clear hr
          go_wp2_with fail
          refine (line_t HM.out.st).mono ?_
          rintro e1 w1 ⟨rfl, hm1⟩
          have HM1 := Lib.hid (HM.out.trans hm1)
          have hs1 := hm1.grown.size
          have HOa1 := Lib.hid (OwnN.grown HO.out hm1.grown (DG.not (by omega)))
          clear hm1
          go_wp2_with fail
          refine (may_t HM1.out.st (s := ⟨#[64]⟩) (L := [64]) rfl HB.out).mono ?_
          rintro e2 w2 ⟨rfl, hm2⟩
          have HM2 := Lib.hid (HM1.out.trans hm2)
          have hs2 := hm2.grown.size
          have HOa2 := Lib.hid (OwnN.grown HOa1.out hm2.grown (DG.not (by omega)))
          clear hm2
          go_wp2_with fail
          refine (IH.out.expr k (by omega) w2 _ _ HM2.out.st (by first | omega | (simp <;> omega)) (by first | omega | (simp <;> omega)) HQ1.out).mono ?_
          rintro e3 w3 ⟨op3, ln3, t3, k3, m3, u3, va3, vc3, V3, sub3, hn3, rfl, hm3, ho3, hk3, hl3, hd3⟩
          obtain ⟨A3, cc3, rfl⟩ := ho3.form
          have hn3 : n1 = nd op3 ln3 t3 k3 m3 u3 sub3 := hn3
          subst hn3
          have hk3 := Lib.hid hk3
          have hd3 : p1.deep = p.deep + 0 := by have h : p1.deep = (nextS q).deep := hd3; (try simp at h); omega
          have HM3 := Lib.hid (HM2.out.trans hm3)
          have hs3 := hm3.grown.size
          have HOa3 := Lib.hid (OwnN.grown HOa2.out hm3.grown (DG.not (by omega)))
          have HO3 := Lib.hid (ho3.wide (D' := DG w2.heap.size 0) (fun k hk hk2 => ⟨hk, by omega⟩))
          clear hm3 ho3
          unfold nd8
          have VLT := Lib.hid (fun g (hg : (.slice AV acc.len CV : Value).ownBlock = some g) => (HO.out.ge g hg).2)
          have APP := Lib.hid (splice_at (op2 := 26) (ln2 := lineS X.l q) HOa3.out HO3.out op3 ln3 t3 k3 m3 u3 va3 vc3 (fun k hk => ⟨by omega, by omega⟩) (fun k hk => ⟨by have := hk.1; omega, by have := hk.1; omega⟩) (fun g hg hk => by have := VLT.out g hg; have := hk.1; omega) rfl)
          go_wp2_with (at_builtin; refine wpList_app_nodes rfl (.tmp 14) (.tmp 20) 29 rfl Tryz.underlying29 hi0 hz0 hz1 hz2 rfl rfl APP.out.1 rfl rfl APP.out.2 (fun e => by cases e) (by simp only [len_nd]; omega) (by refine ⟨?_, ?_⟩ <;> (rw [World.size_alloc, World.size_alloc]; omega)) ?_; intro A9 c9 w9 hown9 hg9 hob9; have AE := app_end1 HM3.out HOa3.out (by omega) (by omega) hg9; have HMA := Lib.hid AE.1; have hs9 := AE.2; have HO9 := Lib.hid hown9; clear AE hown9 hg9 hob9)
          refine (may_t HMA.out.st (s := ⟨#[44]⟩) (L := [44]) rfl HC.out).mono ?_
          rintro e4 w4 ⟨rfl, hm4⟩
          have HM4 := Lib.hid (HMA.out.trans hm4)
          have hs4 := hm4.grown.size
          have HOa4 := Lib.hid (OwnN.grown HO9.out hm4.grown (DG.not (by omega)))
          clear hm4
          go_wp2_with fail
          go_roundg k
          case measure => omega
          case rel => exact ⟨_, (nextS p1), (acc.app (nd 26 (lineS X.l q) ⟨#[]⟩ 0 0 ⟨#[]⟩ (nd op3 ln3 t3 k3 m3 u3 sub3))), rfl, by rw [NL.len_app, len_nd]; omega, by (first | omega | (simp <;> omega)), by omega, HM4, HOa4, Lib.hid (okN_app _ _ HK.out (okN_nd hk3.out (fun _ => by rw [len_nd]; decide))), HQ2⟩
        | false =>
          rw [hc] at hr
          have HC := Lib.hid hc
          clear hc
          replace hr : some ((acc.app (ndL 26 (lineS X.l q) n1)), p1) = some r := hr
          have HRR := Lib.hid (show r = ((acc.app (ndL 26 (lineS X.l q) n1)), p1) from (Option.some.inj hr).symm)
          clear hr
          go_wp2_with fail
          refine (line_t HM.out.st).mono ?_
          rintro e1 w1 ⟨rfl, hm1⟩
          have HM1 := Lib.hid (HM.out.trans hm1)
          have hs1 := hm1.grown.size
          have HOa1 := Lib.hid (OwnN.grown HO.out hm1.grown (DG.not (by omega)))
          clear hm1
          go_wp2_with fail
          refine (may_t HM1.out.st (s := ⟨#[64]⟩) (L := [64]) rfl HB.out).mono ?_
          rintro e2 w2 ⟨rfl, hm2⟩
          have HM2 := Lib.hid (HM1.out.trans hm2)
          have hs2 := hm2.grown.size
          have HOa2 := Lib.hid (OwnN.grown HOa1.out hm2.grown (DG.not (by omega)))
          clear hm2
          go_wp2_with fail
          refine (IH.out.expr k (by omega) w2 _ _ HM2.out.st (by first | omega | (simp <;> omega)) (by first | omega | (simp <;> omega)) HQ1.out).mono ?_
          rintro e3 w3 ⟨op3, ln3, t3, k3, m3, u3, va3, vc3, V3, sub3, hn3, rfl, hm3, ho3, hk3, hl3, hd3⟩
          obtain ⟨A3, cc3, rfl⟩ := ho3.form
          have hn3 : n1 = nd op3 ln3 t3 k3 m3 u3 sub3 := hn3
          subst hn3
          have hk3 := Lib.hid hk3
          have hd3 : p1.deep = p.deep + 0 := by have h : p1.deep = (nextS q).deep := hd3; (try simp at h); omega
          have HM3 := Lib.hid (HM2.out.trans hm3)
          have hs3 := hm3.grown.size
          have HOa3 := Lib.hid (OwnN.grown HOa2.out hm3.grown (DG.not (by omega)))
          have HO3 := Lib.hid (ho3.wide (D' := DG w2.heap.size 0) (fun k hk hk2 => ⟨hk, by omega⟩))
          clear hm3 ho3
          unfold nd8
          have VLT := Lib.hid (fun g (hg : (.slice AV acc.len CV : Value).ownBlock = some g) => (HO.out.ge g hg).2)
          have APP := Lib.hid (splice_at (op2 := 26) (ln2 := lineS X.l q) HOa3.out HO3.out op3 ln3 t3 k3 m3 u3 va3 vc3 (fun k hk => ⟨by omega, by omega⟩) (fun k hk => ⟨by have := hk.1; omega, by have := hk.1; omega⟩) (fun g hg hk => by have := VLT.out g hg; have := hk.1; omega) rfl)
          go_wp2_with (at_builtin; refine wpList_app_nodes rfl (.tmp 14) (.tmp 20) 29 rfl Tryz.underlying29 hi0 hz0 hz1 hz2 rfl rfl APP.out.1 rfl rfl APP.out.2 (fun e => by cases e) (by simp only [len_nd]; omega) (by refine ⟨?_, ?_⟩ <;> (rw [World.size_alloc, World.size_alloc]; omega)) ?_; intro A9 c9 w9 hown9 hg9 hob9; have AE := app_end1 HM3.out HOa3.out (by omega) (by omega) hg9; have HMA := Lib.hid AE.1; have hs9 := AE.2; have HO9 := Lib.hid hown9; clear AE hown9 hg9 hob9)
          refine (may_f HMA.out.st (s := ⟨#[44]⟩) (L := [44]) rfl HC.out).mono ?_
          rintro e4 w4 ⟨rfl, hm4⟩
          have HM4 := Lib.hid (HMA.out.trans hm4)
          have hs4 := hm4.grown.size
          have HOa4 := Lib.hid (OwnN.grown HO9.out hm4.grown (DG.not (by omega)))
          clear hm4
          go_wp2_with fail
          go_ret
          exact PNl.mk _ ((acc.app (nd 26 (lineS X.l q) ⟨#[]⟩ 0 0 ⟨#[]⟩ (nd op3 ln3 t3 k3 m3 u3 sub3)))) _ HRR.out HM4.out (HOa4.out.wide (fun k hk _ => by have := hk.1; show w.heap.size ≤ k; omega)) (okN_app _ _ HK.out (okN_nd hk3.out (fun _ => by rw [len_nd]; decide))) (by rw [NL.len_app, len_nd]; omega) (by first | omega | (simp <;> omega))
      | false =>
        rw [hb] at hr
        have HB := Lib.hid hb
        clear hb
        replace hr : ((prsR X.l k .expr q).bind fun (x, p) => if isS X.l p [44] then prsR X.l k (.row (acc.app x)) (nextS p) else some ((acc.app x), p)) = some r := hr
        cases hq1 : prsR X.l k .expr q with
        | none => rw [hq1] at hr; cases hr
        | some q1 =>
        obtain ⟨n1, p1⟩ := q1
        rw [hq1] at hr
        replace hr : (if isS X.l p1 [44] then prsR X.l k (.row (acc.app n1)) (nextS p1) else some ((acc.app n1), p1)) = some r := hr
        have HQ1 := Lib.hid hq1
        clear hq1
        cases hc : isS X.l p1 [44] with
        | true =>
          rw [hc] at hr
          have HC := Lib.hid hc
          clear hc
          have HQ2 := Lib.hid (show prsR X.l k (.row (acc.app n1)) (nextS p1) = some r from hr)
          clear hr
          go_wp2_with fail
          refine (line_t HM.out.st).mono ?_
          rintro e1 w1 ⟨rfl, hm1⟩
          have HM1 := Lib.hid (HM.out.trans hm1)
          have hs1 := hm1.grown.size
          have HOa1 := Lib.hid (OwnN.grown HO.out hm1.grown (DG.not (by omega)))
          clear hm1
          go_wp2_with fail
          refine (may_f HM1.out.st (s := ⟨#[64]⟩) (L := [64]) rfl HB.out).mono ?_
          rintro e2 w2 ⟨rfl, hm2⟩
          have HM2 := Lib.hid (HM1.out.trans hm2)
          have hs2 := hm2.grown.size
          have HOa2 := Lib.hid (OwnN.grown HOa1.out hm2.grown (DG.not (by omega)))
          clear hm2
          go_wp2_with fail
          refine (IH.out.expr k (by omega) w2 _ _ HM2.out.st (by first | omega | (simp <;> omega)) (by first | omega | (simp <;> omega)) HQ1.out).mono ?_
          rintro e3 w3 ⟨op3, ln3, t3, k3, m3, u3, va3, vc3, V3, sub3, hn3, rfl, hm3, ho3, hk3, hl3, hd3⟩
          obtain ⟨A3, cc3, rfl⟩ := ho3.form
          have hn3 : n1 = nd op3 ln3 t3 k3 m3 u3 sub3 := hn3
          subst hn3
          have hk3 := Lib.hid hk3
          have hd3 : p1.deep = p.deep + 0 := by have h : p1.deep = q.deep := hd3; (try simp at h); omega
          have HM3 := Lib.hid (HM2.out.trans hm3)
          have hs3 := hm3.grown.size
          have HOa3 := Lib.hid (OwnN.grown HOa2.out hm3.grown (DG.not (by omega)))
          have HO3 := Lib.hid (ho3.wide (D' := DG w2.heap.size 0) (fun k hk hk2 => ⟨hk, by omega⟩))
          clear hm3 ho3
          unfold nd8
          have VLT := Lib.hid (fun g (hg : (.slice AV acc.len CV : Value).ownBlock = some g) => (HO.out.ge g hg).2)
          have APP := Lib.hid (app_at0 HOa3.out HO3.out op3 ln3 t3 k3 m3 u3 va3 vc3 (by omega) (by omega) (by omega) (by omega) (fun g hg => by have := VLT.out g hg; omega))
          go_wp2_with (at_builtin; refine wpList_app_nodes rfl (.tmp 22) (.tmp 25) 29 rfl Tryz.underlying29 hi0 hz0 hz1 hz2 rfl rfl APP.out.1 rfl rfl APP.out.2 (fun e => by cases e) (by simp only [len_nd]; omega) (by refine ⟨?_, ?_⟩ <;> (rw [World.size_alloc]; omega)) ?_; intro A9 c9 w9 hown9 hg9 hob9; have AE := app_end0 HM3.out HOa3.out (by omega) (by omega) hg9; have HMA := Lib.hid AE.1; have hs9 := AE.2.1; have HO9 := Lib.hid hown9; clear AE hown9 hg9 hob9)
          refine (may_t HMA.out.st (s := ⟨#[44]⟩) (L := [44]) rfl HC.out).mono ?_
          rintro e4 w4 ⟨rfl, hm4⟩
          have HM4 := Lib.hid (HMA.out.trans hm4)
          have hs4 := hm4.grown.size
          have HOa4 := Lib.hid (OwnN.grown HO9.out hm4.grown (DG.not (by omega)))
          clear hm4
          go_wp2_with fail
          go_roundg k
          case measure => omega
          case rel => exact ⟨_, (nextS p1), (acc.app (nd op3 ln3 t3 k3 m3 u3 sub3)), rfl, by rw [NL.len_app, len_nd]; omega, by (first | omega | (simp <;> omega)), by omega, HM4, HOa4, Lib.hid (okN_app _ _ HK.out hk3.out), HQ2⟩
        | false =>
          rw [hc] at hr
          have HC := Lib.hid hc
          clear hc
          replace hr : some ((acc.app n1), p1) = some r := hr
          have HRR := Lib.hid (show r = ((acc.app n1), p1) from (Option.some.inj hr).symm)
          clear hr
          go_wp2_with fail
          refine (line_t HM.out.st).mono ?_
          rintro e1 w1 ⟨rfl, hm1⟩
          have HM1 := Lib.hid (HM.out.trans hm1)
          have hs1 := hm1.grown.size
          have HOa1 := Lib.hid (OwnN.grown HO.out hm1.grown (DG.not (by omega)))
          clear hm1
          go_wp2_with fail
          refine (may_f HM1.out.st (s := ⟨#[64]⟩) (L := [64]) rfl HB.out).mono ?_
          rintro e2 w2 ⟨rfl, hm2⟩
          have HM2 := Lib.hid (HM1.out.trans hm2)
          have hs2 := hm2.grown.size
          have HOa2 := Lib.hid (OwnN.grown HOa1.out hm2.grown (DG.not (by omega)))
          clear hm2
          go_wp2_with fail
          refine (IH.out.expr k (by omega) w2 _ _ HM2.out.st (by first | omega | (simp <;> omega)) (by first | omega | (simp <;> omega)) HQ1.out).mono ?_
          rintro e3 w3 ⟨op3, ln3, t3, k3, m3, u3, va3, vc3, V3, sub3, hn3, rfl, hm3, ho3, hk3, hl3, hd3⟩
          obtain ⟨A3, cc3, rfl⟩ := ho3.form
          have hn3 : n1 = nd op3 ln3 t3 k3 m3 u3 sub3 := hn3
          subst hn3
          have hk3 := Lib.hid hk3
          have hd3 : p1.deep = p.deep + 0 := by have h : p1.deep = q.deep := hd3; (try simp at h); omega
          have HM3 := Lib.hid (HM2.out.trans hm3)
          have hs3 := hm3.grown.size
          have HOa3 := Lib.hid (OwnN.grown HOa2.out hm3.grown (DG.not (by omega)))
          have HO3 := Lib.hid (ho3.wide (D' := DG w2.heap.size 0) (fun k hk hk2 => ⟨hk, by omega⟩))
          clear hm3 ho3
          unfold nd8
          have VLT := Lib.hid (fun g (hg : (.slice AV acc.len CV : Value).ownBlock = some g) => (HO.out.ge g hg).2)
          have APP := Lib.hid (app_at0 HOa3.out HO3.out op3 ln3 t3 k3 m3 u3 va3 vc3 (by omega) (by omega) (by omega) (by omega) (fun g hg => by have := VLT.out g hg; omega))
          go_wp2_with (at_builtin; refine wpList_app_nodes rfl (.tmp 22) (.tmp 25) 29 rfl Tryz.underlying29 hi0 hz0 hz1 hz2 rfl rfl APP.out.1 rfl rfl APP.out.2 (fun e => by cases e) (by simp only [len_nd]; omega) (by refine ⟨?_, ?_⟩ <;> (rw [World.size_alloc]; omega)) ?_; intro A9 c9 w9 hown9 hg9 hob9; have AE := app_end0 HM3.out HOa3.out (by omega) (by omega) hg9; have HMA := Lib.hid AE.1; have hs9 := AE.2.1; have HO9 := Lib.hid hown9; clear AE hown9 hg9 hob9)
          refine (may_f HMA.out.st (s := ⟨#[44]⟩) (L := [44]) rfl HC.out).mono ?_
          rintro e4 w4 ⟨rfl, hm4⟩
          have HM4 := Lib.hid (HMA.out.trans hm4)
          have hs4 := hm4.grown.size
          have HOa4 := Lib.hid (OwnN.grown HO9.out hm4.grown (DG.not (by omega)))
          clear hm4
          go_wp2_with fail
          go_ret
          exact PNl.mk _ ((acc.app (nd op3 ln3 t3 k3 m3 u3 sub3))) _ HRR.out HM4.out (HOa4.out.wide (fun k hk _ => by have := hk.1; show w.heap.size ≤ k; omega)) (okN_app _ _ HK.out hk3.out) (by rw [NL.len_app, len_nd]; omega) (by first | omega | (simp <;> omega))
end Go.Proofs.YtjibjgokloondaaGreatDoor
namespace Go.Proofs.YtjibjgokloondaaGreatDoor
open Go.RowKit Go.Lib
set_option linter.unusedVariables false

set_option maxRecDepth 100000 in
set_option maxHeartbeats 8000000 in
theorem codes_step (X : PCtx) (F : Nat) (hF : F ≤ 1000000000) (ih : EC X F) : NodeC X 66 #[] .codes (F + 1) := by
  intro w p r hst h0 h1 hr
  rw [prsR] at hr
  have hPl := hst.lt
  have hlen := hst.len
  obtain ⟨i0, hi0, hz0, hz1, hz2⟩ := info_parts pnode_info
  have IH := Lib.hid ih
  clear ih
  cases hb : isS X.l p [97, 110, 121] with
  | true =>
    rw [hb] at hr
    have HB := Lib.hid hb
    clear hb
    replace hr : some (ndL 25 (lineS X.l p) .nil, nextS p) = some r := hr
    have HRR := Lib.hid (show r = (ndL 25 (lineS X.l p) .nil, nextS p) from (Option.some.inj hr).symm)
    clear hr
    obtain ⟨wa, hwa⟩ : ∃ wa, wa = (w).alloc (.cells #[.int .i64 0, .int .i64 0, .string ⟨#[]⟩, .int .i64 0, .int .i64 0, .string ⟨#[]⟩, .slice none 0 0, .slice none 0 0] 31) := ⟨_, rfl⟩
    have HMa := Lib.hid (show Mvd w wa X p by rw [hwa]; exact ((Mvd.of hst).alloc _))
    have hsa : wa.heap.size = w.heap.size + 1 := by rw [hwa]; simp
    have HZr := Lib.hid (show zN wa w.heap.size by rw [hwa]; exact (zN.new w))
    have HWA := Lib.hid hwa
    clear hwa
    go_enter Tryz.func66, Tryz.ntmps66
    go_wp2_with fail
    rw [← HWA.out]
    refine (line_t HMa.out.st).mono ?_
    rintro e1 w1 ⟨rfl, hm1⟩
    have HM1 := Lib.hid (HMa.out.trans hm1)
    have hs1 := hm1.grown.size
    have HBr1 := Lib.hid (NdB.grown HZr.out hm1.grown (show X.P < w.heap.size by omega))
    clear hm1
    obtain ⟨w2, hw2⟩ : ∃ w2, w2 = (w1.alloc (.cells #[.int .i64 25, .int .i64 (lineS X.l p), .string ⟨#[]⟩, .int .i64 0, .int .i64 0, .string ⟨#[]⟩, .slice none 0 0, .slice none 0 0] 31)) := ⟨_, rfl⟩
    have hb2 : Below w1.heap.size w1 w2 := by rw [hw2]; exact ((Below.refl _ _).alloc (Nat.le_refl _) _)
    have HBo2 := Lib.hid (show NdB w2 w1.heap.size (.int .i64 25) (.int .i64 (lineS X.l p)) (.string ⟨#[]⟩) (.int .i64 0) (.int .i64 0) (.string ⟨#[]⟩) (.slice none 0 0) (.slice none 0 0) by rw [hw2]; exact NdB.new _ _ _ _ _ _ _ _ _)
    have hs2 : w2.heap.size = w1.heap.size + 1 := by rw [hw2]; simp
    have HM2 := Lib.hid (HM1.out.below hb2)
    have HBr2 := Lib.hid (HBr1.out.below' hb2)
    have HW2 := Lib.hid hw2
    clear hw2 hb2
    go_wp2_with fail
    rw [← HW2.out]
    refine (may_t HM2.out.st (s := ⟨#[97, 110, 121]⟩) (L := [97, 110, 121]) rfl HB.out).mono ?_
    rintro e3 w3 ⟨rfl, hm3⟩
    have HM3 := Lib.hid (HM2.out.trans hm3)
    have hs3 := hm3.grown.size
    have HBr3 := Lib.hid (NdB.grown HBr2.out hm3.grown (show X.P < w.heap.size by omega))
    have HBo3 := Lib.hid (NdB.grown HBo2.out hm3.grown (show X.P < w1.heap.size by omega))
    clear hm3
    have c1_0 := HBo3.out.c0
    have c1_1 := HBo3.out.c1
    have c1_2 := HBo3.out.c2
    have c1_3 := HBo3.out.c3
    have c1_4 := HBo3.out.c4
    have c1_5 := HBo3.out.c5
    have c1_6 := HBo3.out.c6
    have c1_7 := HBo3.out.c7
    have c2_0 := HBr3.out.c0
    have f2_0 := HBr3.out.fr 0
    have c2_1 := HBr3.out.c1
    have f2_1 := HBr3.out.fr 1
    have c2_2 := HBr3.out.c2
    have f2_2 := HBr3.out.fr 2
    have c2_3 := HBr3.out.c3
    have f2_3 := HBr3.out.fr 3
    have c2_4 := HBr3.out.c4
    have f2_4 := HBr3.out.fr 4
    have c2_5 := HBr3.out.c5
    have f2_5 := HBr3.out.fr 5
    have c2_6 := HBr3.out.c6
    have f2_6 := HBr3.out.fr 6
    have c2_7 := HBr3.out.c7
    have f2_7 := HBr3.out.fr 7
    go_wp2_with fail
    refine ret_cell8 Tryz.results66 w.heap.size rfl rfl (HBr3.out.set8 _ _ _ _ _ _ _ _) ?_
    exact PNd.mk 25 (lineS X.l p) ⟨#[]⟩ 0 0 ⟨#[]⟩ none 0 (.slice none 0 0) .nil _ HRR.out (HM3.out.node HBr3.out (by omega) (by omega) (only_set8 _ _ _ _ _ _ _ _ _ _)) (OwnN.nil _ _) (okN_leaf (by decide) (by decide)) (Nat.zero_le _) (by first | omega | (simp <;> omega))
  | false =>
    rw [hb] at hr
    have HB := Lib.hid hb
    clear hb
    replace hr : ((prsR X.l F (.codesL .nil .nil) p).bind fun (x, p1) => some (ndL 25 (lineS X.l p) x, p1)) = some r := hr
    cases hq1 : prsR X.l F (.codesL .nil .nil) p with
    | none => rw [hq1] at hr; cases hr
    | some q1 =>
    obtain ⟨x1, p1⟩ := q1
    rw [hq1] at hr
    replace hr : some (ndL 25 (lineS X.l p) x1, p1) = some r := hr
    have HQ1 := Lib.hid hq1
    clear hq1
    have HRR := Lib.hid (show r = (ndL 25 (lineS X.l p) x1, p1) from (Option.some.inj hr).symm)
    clear hr
    obtain ⟨wa, hwa⟩ : ∃ wa, wa = (w).alloc (.cells #[.int .i64 0, .int .i64 0, .string ⟨#[]⟩, .int .i64 0, .int .i64 0, .string ⟨#[]⟩, .slice none 0 0, .slice none 0 0] 31) := ⟨_, rfl⟩
    have HMa := Lib.hid (show Mvd w wa X p by rw [hwa]; exact ((Mvd.of hst).alloc _))
    have hsa : wa.heap.size = w.heap.size + 1 := by rw [hwa]; simp
    have HZr := Lib.hid (show zN wa w.heap.size by rw [hwa]; exact (zN.new w))
    have HWA := Lib.hid hwa
    clear hwa
    go_enter Tryz.func66, Tryz.ntmps66
    go_wp2_with fail
    rw [← HWA.out]
    refine (line_t HMa.out.st).mono ?_
    rintro e1 w1 ⟨rfl, hm1⟩
    have HM1 := Lib.hid (HMa.out.trans hm1)
    have hs1 := hm1.grown.size
    have HBr1 := Lib.hid (NdB.grown HZr.out hm1.grown (show X.P < w.heap.size by omega))
    clear hm1
    obtain ⟨w2, hw2⟩ : ∃ w2, w2 = (w1.alloc (.cells #[.int .i64 25, .int .i64 (lineS X.l p), .string ⟨#[]⟩, .int .i64 0, .int .i64 0, .string ⟨#[]⟩, .slice none 0 0, .slice none 0 0] 31)) := ⟨_, rfl⟩
    have hb2 : Below w1.heap.size w1 w2 := by rw [hw2]; exact ((Below.refl _ _).alloc (Nat.le_refl _) _)
    have HBo2 := Lib.hid (show NdB w2 w1.heap.size (.int .i64 25) (.int .i64 (lineS X.l p)) (.string ⟨#[]⟩) (.int .i64 0) (.int .i64 0) (.string ⟨#[]⟩) (.slice none 0 0) (.slice none 0 0) by rw [hw2]; exact NdB.new _ _ _ _ _ _ _ _ _)
    have hs2 : w2.heap.size = w1.heap.size + 1 := by rw [hw2]; simp
    have HM2 := Lib.hid (HM1.out.below hb2)
    have HBr2 := Lib.hid (HBr1.out.below' hb2)
    have HW2 := Lib.hid hw2
    clear hw2 hb2
    go_wp2_with fail
    rw [← HW2.out]
    refine (may_f HM2.out.st (s := ⟨#[97, 110, 121]⟩) (L := [97, 110, 121]) rfl HB.out).mono ?_
    rintro e3 w3 ⟨rfl, hm3⟩
    have HM3 := Lib.hid (HM2.out.trans hm3)
    have hs3 := hm3.grown.size
    have HBr3 := Lib.hid (NdB.grown HBr2.out hm3.grown (show X.P < w.heap.size by omega))
    have HBo3 := Lib.hid (NdB.grown HBo2.out hm3.grown (show X.P < w1.heap.size by omega))
    clear hm3
    have HO0 := Lib.hid (OwnN.nil w3 (DG w2.heap.size w1.heap.size))
    go_wp2_with fail
    go_loopg [] F (fun kk wr => ∃ (V : Value) (q : PS) (acc : NL), acc.len + kk ≤ F ∧ q.deep = p.deep ∧ w3.heap.size ≤ wr.heap.size ∧ Hid (Mvd w wr X q) ∧ Hid (zN wr w.heap.size) ∧ Hid (NdB wr w1.heap.size (.int .i64 25) (.int .i64 (lineS X.l p)) (.string ⟨#[]⟩) (.int .i64 0) (.int .i64 0) (.string ⟨#[]⟩) (.slice none 0 0) V) ∧ Hid (OwnN wr (DG w2.heap.size w1.heap.size) V acc) ∧ Hid (okN acc) ∧ Hid (prsR X.l kk (.codesL .nil acc) q = some (x1, p1)))
    case atStart => exact ⟨_, p, .nil, by show 0 + F ≤ _; omega, rfl, Nat.le_refl _, HM3, HBr3, HBo3, HO0, trivial, HQ1⟩
    case round =>
      obtain ⟨V, q, acc, hal, hqd, hs0, HM, HR, HN, HO, HK, HQ⟩ := hrel
      obtain ⟨AV, CV, hVf⟩ := HO.out.form
      subst hVf
      cases gk with
      | zero => have h := HQ.out; rw [prsR] at h; cases h
      | succ k =>
      have hr := HQ.out
      rw [prsR] at hr
      obtain ⟨ev, hP, hE⟩ := HM.out.st.at_
      have c3 := hP.c3
      clear HQ
      cases he : q.err with
      | some x =>
        rw [he] at hE
        obtain ⟨ty, ve, rfl⟩ := errv_some hE
        replace hr : some (acc, q) = some (x1, p1) := by rw [← hr]; simp only [he]; rfl
        have hx := Option.some.inj hr
        have hx1 : acc = x1 := congrArg Prod.fst hx
        have hx2 : q = p1 := congrArg Prod.snd hx
        subst hx1
        subst hx2
        clear hP hE he hr hx
        have c1_0 := HN.out.c0
        have c1_1 := HN.out.c1
        have c1_2 := HN.out.c2
        have c1_3 := HN.out.c3
        have c1_4 := HN.out.c4
        have c1_5 := HN.out.c5
        have c1_6 := HN.out.c6
        have c1_7 := HN.out.c7
        have c2_0 := HR.out.c0
        have f2_0 := HR.out.fr 0
        have c2_1 := HR.out.c1
        have f2_1 := HR.out.fr 1
        have c2_2 := HR.out.c2
        have f2_2 := HR.out.fr 2
        have c2_3 := HR.out.c3
        have f2_3 := HR.out.fr 3
        have c2_4 := HR.out.c4
        have f2_4 := HR.out.fr 4
        have c2_5 := HR.out.c5
        have f2_5 := HR.out.fr 5
        have c2_6 := HR.out.c6
        have f2_6 := HR.out.fr 6
        have c2_7 := HR.out.c7
        have f2_7 := HR.out.fr 7
        go_wp2_with fail
        refine ret_cell8 Tryz.results66 w.heap.size rfl rfl (HR.out.set8 _ _ _ _ _ _ _ _) ?_
        exact PNd.mk 25 (lineS X.l p) ⟨#[]⟩ 0 0 ⟨#[]⟩ none 0 _ acc _ HRR.out (HM.out.node HR.out (by omega) (by omega) (only_set8 _ _ _ _ _ _ _ _ _ _)) (own_end (w0 := w.heap.size) (g := w.heap.size) HO.out (by omega) (only_set8 _ _ _ _ _ _ _ _ _ _) (by omega)) (okN_nd HK.out (fun h => by rcases h with h | h <;> cases h)) (by omega) (by first | omega | (simp <;> omega))
      | none =>
        rw [he] at hE
        obtain rfl : ev = .nilIface := hE
        replace hr : ((prsR X.l k .expr q).bind fun (x, p) => if isS X.l p [44] then prsR X.l k (.codesL .nil (acc.app x)) (nextS p) else some (acc.app x, p)) = some (x1, p1) := by rw [← hr]; simp only [he]; rfl
        clear hP he
        cases hq5 : prsR X.l k .expr q with
        | none => rw [hq5] at hr; cases hr
        | some q5 =>
        obtain ⟨n5, p5⟩ := q5
        rw [hq5] at hr
        replace hr : (if isS X.l p5 [44] then prsR X.l k (.codesL .nil (acc.app n5)) (nextS p5) else some (acc.app n5, p5)) = some (x1, p1) := hr
        have HQ5 := Lib.hid hq5
        clear hq5
        cases hc : isS X.l p5 [44] with
        | true =>
          rw [hc] at hr
          have HC := Lib.hid hc
          clear hc
          have HQ2 := Lib.hid (show prsR X.l k (.codesL .nil (acc.app n5)) (nextS p5) = some (x1, p1) from hr)
          clear hr
          go_wp2_with fail
          go_upto_region 5 with fail
          go_cut [] (fun wx21 => AppR X w wr p5 w2.heap.size w1.heap.size (.int .i64 25) (.int .i64 (lineS X.l p)) (.string ⟨#[]⟩) (.int .i64 0) (.int .i64 0) (.string ⟨#[]⟩) (.slice none 0 0) acc n5 1 (p.deep + 0) wx21)
          case first =>
            have c7 := HN.out.c7
            have vlt := Lib.hid (fun g (hg : (.slice AV acc.len CV : Value).ownBlock = some g) => (HO.out.ge g hg).2)
            have EXC := Lib.hid (fun W (hW : PSt W X q) => IH.out.expr k (by omega) W _ _ hW (by first | omega | (simp <;> omega)) (by first | omega | (simp <;> omega)) HQ5.out)
            have HSD := Lib.hid (show PSt wr.drew X q from HM.out.st.below (Below.drew (Below.refl _ _)))
            have HMD := Lib.hid (show Mvd w wr.drew X q from HM.out.drew)
            go_region_law
              (first
                | (refine step_app_nodes (by rfl) (.tmp 16) (.tmp 19) 29 (by rfl) Tryz.underlying29 hi0 hz0 hz1 hz2 (by rfl) (by rfl) APP.out.1 (by rfl) (by rfl) APP.out.2 (fun e => by cases e) (by first | (simp only [NL.len_app, len_nd]; omega) | (simp only [len_nd, NL.len]; omega) | (simp only [NL.len_app, len_nd, NL.len]; omega)) (by refine ⟨?_, ?_⟩ <;> (rw [World.size_alloc]; omega)) ?_
                   intro A9 c9 w9 hown9 hg9 hob9
                   have k7 : w9.cell? ⟨w1.heap.size, 7, none⟩ = some (.slice AV acc.len CV) := ((HN.out.alloc _).app hg9 (fun e => (HO.out.ge _ e).1.2 rfl)).c7
                   have j7 : w9.frozen? ⟨w1.heap.size, 7, none⟩ = false := ((HN.out.alloc _).app hg9 (fun e => (HO.out.ge _ e).1.2 rfl)).fr 7)
                | (go_simp; go_at_call 17; refine (EXC.out _ HSD.out).mono ?_
                   rintro e9 w8 ⟨op, ln, t, k, m, u, va, vc, V, sub, hn, rfl, hm, ho, hk, hl, hd⟩
                   obtain ⟨A8, c8, rfl⟩ := ho.form
                   have hn' : n5 = nd op ln t k m u sub := hn
                   have HK := Lib.hid (show okN n5 ∧ (n5).len ≤ 1 from ⟨hk, by rw [hn', len_nd]; exact Nat.le_refl _⟩)
                   have HNN := Lib.hid hn'
                   have HDD := Lib.hid (show p5.deep = p.deep + 0 by have h : p5.deep = q.deep := hd; (try simp at h); omega)
                   have HG := Lib.hid (show wr.grownBy w8 (some X.P) from ⟨hm.grown.os, hm.grown.tape, hm.grown.output, hm.grown.size, hm.grown.block⟩)
                   have HM := Lib.hid (HMD.out.trans hm)
                   have hs8 : wr.heap.size ≤ w8.heap.size := hm.grown.size
                   have HN := Lib.hid (NdB.grown (w := wr) HN.out HG.out (show X.P < w1.heap.size by omega))
                   have HO := Lib.hid (OwnN.grown (w := wr) HO.out HG.out (DG.not (by omega)))
                   have APP := Lib.hid (app_at HO.out ho op ln t k m u va vc (by show _ ≤ wr.heap.size; omega) (by show _ < wr.heap.size; omega) (by show wr.heap.size ≤ _; omega) vlt.out)
                   have c7_8 := HN.out.c7
                   have c7_9 := fun o => cellA c7_8 o
                   clear hn hn' hm ho hk hl hd
                   unfold nd8))
            all_goals
              go_wp2_with fail
              go_meet
              exact app_rel HG.out HM.out HN.out HO.out (by omega) (by omega) (by omega) (by omega) (by rw [HNN.out]; exact hown9) hg9 HK.out.2 HK.out.1 HDD.out
          case rest =>
            obtain ⟨V21, hm21, hd21, hn21, ho21, hx21, hk21, hs21, hf21⟩ := hcut
            obtain ⟨A21, c21, rfl⟩ := ho21.form
            have HM21 := Lib.hid hm21
            have HBo21 := Lib.hid hn21
            have HOo21 := Lib.hid ho21
            have HX21 := Lib.hid hk21
            have HBr21 := Lib.hid (hf21 _ _ _ _ _ _ _ _ _ (by omega) (by omega) (by omega) HR.out)
            clear hm21 hn21 ho21 hk21 hf21
            go_wp2_with fail
            refine (may_t HM21.out.st (s := ⟨#[44]⟩) (L := [44]) rfl HC.out).mono ?_
            rintro e22 w22 ⟨rfl, hm22⟩
            have HM22 := Lib.hid (HM21.out.trans hm22)
            have hs22 := hm22.grown.size
            have HBr22 := Lib.hid (NdB.grown HBr21.out hm22.grown (show X.P < w.heap.size by omega))
            have HBo22 := Lib.hid (NdB.grown HBo21.out hm22.grown (show X.P < w1.heap.size by omega))
            have HOo22 := Lib.hid (OwnN.grown HOo21.out hm22.grown (DG.not (by omega)))
            clear hm22
            go_wp2_with fail
            go_roundg k
            case measure => omega
            case rel => exact ⟨_, (nextS p5), (acc.app n5), by rw [NL.len_app]; omega, by (first | omega | (simp <;> omega)), by omega, HM22, HBr22, HBo22, HOo22, Lib.hid (okN_app _ _ HK.out HX21.out), HQ2⟩
        | false =>
          rw [hc] at hr
          have HC := Lib.hid hc
          clear hc
          have hx := Option.some.inj (show some (acc.app n5, p5) = some (x1, p1) from hr)
          have hx1 : acc.app n5 = x1 := congrArg Prod.fst hx
          have hx2 : p5 = p1 := congrArg Prod.snd hx
          subst hx1
          subst hx2
          clear hr hx
          go_wp2_with fail
          go_upto_region 5 with fail
          go_cut [] (fun wx21 => AppR X w wr p5 w2.heap.size w1.heap.size (.int .i64 25) (.int .i64 (lineS X.l p)) (.string ⟨#[]⟩) (.int .i64 0) (.int .i64 0) (.string ⟨#[]⟩) (.slice none 0 0) acc n5 1 (p.deep + 0) wx21)
          case first =>
            have c7 := HN.out.c7
            have vlt := Lib.hid (fun g (hg : (.slice AV acc.len CV : Value).ownBlock = some g) => (HO.out.ge g hg).2)
            have EXC := Lib.hid (fun W (hW : PSt W X q) => IH.out.expr k (by omega) W _ _ hW (by first | omega | (simp <;> omega)) (by first | omega | (simp <;> omega)) HQ5.out)
            have HSD := Lib.hid (show PSt wr.drew X q from HM.out.st.below (Below.drew (Below.refl _ _)))
            have HMD := Lib.hid (show Mvd w wr.drew X q from HM.out.drew)
            go_region_law
              (first
                | (refine step_app_nodes (by rfl) (.tmp 16) (.tmp 19) 29 (by rfl) Tryz.underlying29 hi0 hz0 hz1 hz2 (by rfl) (by rfl) APP.out.1 (by rfl) (by rfl) APP.out.2 (fun e => by cases e) (by first | (simp only [NL.len_app, len_nd]; omega) | (simp only [len_nd, NL.len]; omega) | (simp only [NL.len_app, len_nd, NL.len]; omega)) (by refine ⟨?_, ?_⟩ <;> (rw [World.size_alloc]; omega)) ?_
                   intro A9 c9 w9 hown9 hg9 hob9
                   have k7 : w9.cell? ⟨w1.heap.size, 7, none⟩ = some (.slice AV acc.len CV) := ((HN.out.alloc _).app hg9 (fun e => (HO.out.ge _ e).1.2 rfl)).c7
                   have j7 : w9.frozen? ⟨w1.heap.size, 7, none⟩ = false := ((HN.out.alloc _).app hg9 (fun e => (HO.out.ge _ e).1.2 rfl)).fr 7)
                | (go_simp; go_at_call 17; refine (EXC.out _ HSD.out).mono ?_
                   rintro e9 w8 ⟨op, ln, t, k, m, u, va, vc, V, sub, hn, rfl, hm, ho, hk, hl, hd⟩
                   obtain ⟨A8, c8, rfl⟩ := ho.form
                   have hn' : n5 = nd op ln t k m u sub := hn
                   have HK := Lib.hid (show okN n5 ∧ (n5).len ≤ 1 from ⟨hk, by rw [hn', len_nd]; exact Nat.le_refl _⟩)
                   have HNN := Lib.hid hn'
                   have HDD := Lib.hid (show p5.deep = p.deep + 0 by have h : p5.deep = q.deep := hd; (try simp at h); omega)
                   have HG := Lib.hid (show wr.grownBy w8 (some X.P) from ⟨hm.grown.os, hm.grown.tape, hm.grown.output, hm.grown.size, hm.grown.block⟩)
                   have HM := Lib.hid (HMD.out.trans hm)
                   have hs8 : wr.heap.size ≤ w8.heap.size := hm.grown.size
                   have HN := Lib.hid (NdB.grown (w := wr) HN.out HG.out (show X.P < w1.heap.size by omega))
                   have HO := Lib.hid (OwnN.grown (w := wr) HO.out HG.out (DG.not (by omega)))
                   have APP := Lib.hid (app_at HO.out ho op ln t k m u va vc (by show _ ≤ wr.heap.size; omega) (by show _ < wr.heap.size; omega) (by show wr.heap.size ≤ _; omega) vlt.out)
                   have c7_8 := HN.out.c7
                   have c7_9 := fun o => cellA c7_8 o
                   clear hn hn' hm ho hk hl hd
                   unfold nd8))
            all_goals
              go_wp2_with fail
              go_meet
              exact app_rel HG.out HM.out HN.out HO.out (by omega) (by omega) (by omega) (by omega) (by rw [HNN.out]; exact hown9) hg9 HK.out.2 HK.out.1 HDD.out
          case rest =>
            obtain ⟨V21, hm21, hd21, hn21, ho21, hx21, hk21, hs21, hf21⟩ := hcut
            obtain ⟨A21, c21, rfl⟩ := ho21.form
            have HM21 := Lib.hid hm21
            have HBo21 := Lib.hid hn21
            have HOo21 := Lib.hid ho21
            have HX21 := Lib.hid hk21
            have HBr21 := Lib.hid (hf21 _ _ _ _ _ _ _ _ _ (by omega) (by omega) (by omega) HR.out)
            clear hm21 hn21 ho21 hk21 hf21
            go_wp2_with fail
            refine (may_f HM21.out.st (s := ⟨#[44]⟩) (L := [44]) rfl HC.out).mono ?_
            rintro e22 w22 ⟨rfl, hm22⟩
            have HM22 := Lib.hid (HM21.out.trans hm22)
            have hs22 := hm22.grown.size
            have HBr22 := Lib.hid (NdB.grown HBr21.out hm22.grown (show X.P < w.heap.size by omega))
            have HBo22 := Lib.hid (NdB.grown HBo21.out hm22.grown (show X.P < w1.heap.size by omega))
            have HOo22 := Lib.hid (OwnN.grown HOo21.out hm22.grown (DG.not (by omega)))
            clear hm22
            have c1_0 := HBo22.out.c0
            have c1_1 := HBo22.out.c1
            have c1_2 := HBo22.out.c2
            have c1_3 := HBo22.out.c3
            have c1_4 := HBo22.out.c4
            have c1_5 := HBo22.out.c5
            have c1_6 := HBo22.out.c6
            have c1_7 := HBo22.out.c7
            have c2_0 := HBr22.out.c0
            have f2_0 := HBr22.out.fr 0
            have c2_1 := HBr22.out.c1
            have f2_1 := HBr22.out.fr 1
            have c2_2 := HBr22.out.c2
            have f2_2 := HBr22.out.fr 2
            have c2_3 := HBr22.out.c3
            have f2_3 := HBr22.out.fr 3
            have c2_4 := HBr22.out.c4
            have f2_4 := HBr22.out.fr 4
            have c2_5 := HBr22.out.c5
            have f2_5 := HBr22.out.fr 5
            have c2_6 := HBr22.out.c6
            have f2_6 := HBr22.out.fr 6
            have c2_7 := HBr22.out.c7
            have f2_7 := HBr22.out.fr 7
            go_wp2_with fail
            refine ret_cell8 Tryz.results66 w.heap.size rfl rfl (HBr22.out.set8 _ _ _ _ _ _ _ _) ?_
            exact PNd.mk 25 (lineS X.l p) ⟨#[]⟩ 0 0 ⟨#[]⟩ none 0 _ (acc.app n5) _ HRR.out (HM22.out.node HBr22.out (by omega) (by omega) (only_set8 _ _ _ _ _ _ _ _ _ _)) (own_end (w0 := w.heap.size) (g := w.heap.size) HOo22.out (by omega) (only_set8 _ _ _ _ _ _ _ _ _ _) (by omega)) (okN_nd (okN_app _ _ HK.out HX21.out) (fun h => by rcases h with h | h <;> cases h)) (by rw [NL.len_app]; omega) (by first | omega | (simp <;> omega))
end Go.Proofs.YtjibjgokloondaaGreatDoor
namespace Go.Proofs.YtjibjgokloondaaGreatDoor
open Go.RowKit Go.Lib
set_option linter.unusedVariables false

/-- The cells of a row of signs. -/
def sgCells : List (List UInt8 × Int) → List Value
  | [] => []
  | x :: l => [.string ⟨x.1.toArray⟩, .int .i64 x.2] ++ sgCells l
theorem sgCells_at : ∀ (l : List (List UInt8 × Int)) (j : Nat) (x : List UInt8 × Int), l[j]? = some x → (sgCells l)[j * 2]? = some (.string ⟨x.1.toArray⟩) ∧ (sgCells l)[j * 2 + 1]? = some (.int .i64 x.2)
  | [], _, _, h => by simp at h
  | y :: l, 0, x, h => by simp at h; subst h; exact ⟨rfl, rfl⟩
  | y :: l, j + 1, x, h => by
    rw [List.getElem?_cons_succ] at h
    have := sgCells_at l j x h
    rw [sgCells, show (j + 1) * 2 = j * 2 + 2 by omega]
    exact ⟨by simpa using this.1, by simpa [Nat.add_right_comm] using this.2⟩
/-- A row of signs in a block of its own. -/
def SgAt (w : World) (g : Nat) (l : List (List UInt8 × Int)) : Prop := w.heap[g]? = some (.cells (sgCells l).toArray 116 (0, 0))
theorem SgAt.cells {w : World} {g : Nat} {l : List (List UInt8 × Int)} (h : SgAt w g l) {j : Nat} {x : List UInt8 × Int} (hx : l[j]? = some x) : w.cell? ⟨g, j * 2, none⟩ = some (.string ⟨x.1.toArray⟩) ∧ w.cell? ⟨g, j * 2 + 1, none⟩ = some (.int .i64 x.2) := by
  obtain ⟨h1, h2⟩ := sgCells_at l j x hx
  rw [cell_of_row w g _ _ _ _ h, cell_of_row w g _ _ _ _ h, List.getElem?_toArray, List.getElem?_toArray]
  exact ⟨h1, h2⟩
theorem SgAt.lt {w : World} {g : Nat} {l : List (List UInt8 × Int)} (h : SgAt w g l) : g < w.heap.size := heap_lt h
/-- What a level is, in memory. -/
def LvOut (w : World) (l : List (List UInt8 × Int)) (e : Ending) (w' : World) : Prop := e = .returned (.slice (some ⟨w.heap.size, 0, none⟩) l.length l.length) ∧ SgAt w' w.heap.size l ∧ Below w.heap.size w w'
set_option maxRecDepth 100000 in
set_option maxHeartbeats 2000000 in
theorem level_c (k : Nat) (hk : k < 5) (w : World) : Calls Tryz.prog 79 #[.int .i64 k] w (LvOut w (levelS k)) := by
  match k, hk with
  | 0, _ =>
    go_enter Tryz.func79, Tryz.ntmps79
    go_wp2_with fail
    go_ret
    exact ⟨rfl, heap_alloc_new w _, (Below.refl _ _).alloc (Nat.le_refl _) _⟩
  | 1, _ =>
    go_enter Tryz.func79, Tryz.ntmps79
    go_wp2_with fail
    go_ret
    exact ⟨rfl, heap_alloc_new w _, (Below.refl _ _).alloc (Nat.le_refl _) _⟩
  | 2, _ =>
    go_enter Tryz.func79, Tryz.ntmps79
    go_wp2_with fail
    go_ret
    exact ⟨rfl, heap_alloc_new w _, (Below.refl _ _).alloc (Nat.le_refl _) _⟩
  | 3, _ =>
    go_enter Tryz.func79, Tryz.ntmps79
    go_wp2_with fail
    go_ret
    exact ⟨rfl, heap_alloc_new w _, (Below.refl _ _).alloc (Nat.le_refl _) _⟩
  | 4, _ =>
    go_enter Tryz.func79, Tryz.ntmps79
    go_wp2_with fail
    go_ret
    exact ⟨rfl, heap_alloc_new w _, (Below.refl _ _).alloc (Nat.le_refl _) _⟩
set_option maxHeartbeats 1000000 in
theorem level_5 (w : World) : Calls Tryz.prog 79 #[.int .i64 5] w fun e w' => e = .returned (.slice none 0 0) ∧ w = w' := by
  go_enter Tryz.func79, Tryz.ntmps79
  go_wp2_with fail
  go_ret
  exact ⟨rfl, rfl⟩

/-- Where the first is that is at hand. -/
def idxG (p : List UInt8 × Int → Bool) : List (List UInt8 × Int) → Nat → Int
  | [], _ => -1
  | x :: l, i => if p x then (i : Int) else idxG p l (i + 1)
theorem idxG_drop (p : List UInt8 × Int → Bool) (l : List (List UInt8 × Int)) (i : Nat) (x : List UInt8 × Int) (h : l[i]? = some x) : idxG p (l.drop i) i = if p x then (i : Int) else idxG p (l.drop (i + 1)) (i + 1) := by
  have hi : i < l.length := by
    rcases Nat.lt_or_ge i l.length with hlt | hge
    · exact hlt
    · rw [List.getElem?_eq_none hge] at h; cases h
  rw [List.getElem?_eq_getElem hi] at h
  injection h with h
  rw [List.drop_eq_getElem_cons hi, h, idxG]
theorem idxG_find (p : List UInt8 × Int → Bool) : ∀ (l : List (List UInt8 × Int)) (i : Nat), (idxG p l i = -1 ∧ l.find? p = none) ∨ ∃ (j : Nat) (x : List UInt8 × Int), idxG p l i = ((i + j : Nat) : Int) ∧ l[j]? = some x ∧ l.find? p = some x ∧ p x = true
  | [], i => .inl ⟨rfl, rfl⟩
  | x :: l, i => by
    rw [idxG]
    cases hp : p x with
    | true => exact .inr ⟨0, x, by simp, rfl, by rw [List.find?_cons, hp], hp⟩
    | false =>
      rw [List.find?_cons, hp]
      rcases idxG_find p l (i + 1) with ⟨h1, h2⟩ | ⟨j, y, h1, h2, h3, h4⟩
      · exact .inl ⟨by simpa using h1, h2⟩
      · exact .inr ⟨j + 1, y, by simp; rw [h1]; omega, by simpa using h2, h3, h4⟩

set_option maxHeartbeats 1000000 in
theorem ask_c (X : PCtx) (q : PS) (s : List UInt8) (op : Int) (B : Nat) (w : World) (h : PSt w X q) (hB : w.cell? ⟨B, 0, none⟩ = some (.pointer (some ⟨X.P, 0, none⟩))) :
    Calls Tryz.prog 82 #[.agg #[.string ⟨s.toArray⟩, .int .i64 op], .pointer (some ⟨B, 0, none⟩)] w fun e w' => e = .returned (.bool (isS X.l q s)) ∧ Below w.heap.size w w' := by
  have hb : Below w.heap.size w (w.alloc (.cells #[.string ⟨s.toArray⟩, .int .i64 op] 116)) := (Below.refl _ _).alloc (Nat.le_refl _) _
  have IC := Lib.hid (is_c X q ⟨s.toArray⟩ _ (h.below hb))
  have hB2 := fun o => cellA hB o
  have HB := Lib.hid hb
  clear h hb hB
  go_enter Tryz.func82, Tryz.ntmps82
  go_wp2_with fail
  refine IC.out.mono ?_
  rintro e w1 ⟨rfl, hb1⟩
  have HB1 := Lib.hid (HB.out.trans (below_le' hb1 HB.out.size))
  clear hb1
  go_wp2_with fail
  go_ret
  exact ⟨rfl, HB1.out⟩
end Go.Proofs.YtjibjgokloondaaGreatDoor
