/- Contracts of the functions that the statement reaches, and the plain mathematics beneath: several texts joined. -/
import Derived.Shelf.GgClosure.Gives
import Derived.Lib.LazyBuf
import Derived.Test.YtggngahmafbihaaGreatDoorPbiAL
import Derived.Test.YtggngahmafbihaaGreatDoorPbiAT
namespace Go.Proofs.YtggngahmafbihaaGreatDoor
open Go.RowKit Go.Lib
set_option linter.unusedVariables false

/-- What a function that is asked of signs answers, in all later worlds. -/
def AskG (g : Nat) (env : Value) (p : List UInt8 → Bool) (w : World) : Prop := ∀ (s : List UInt8) (op : Int) (W : World), Below w.heap.size w W → Calls Tryz.prog g #[.agg #[.string ⟨s.toArray⟩, .int .i64 op], env] W fun e w' => e = .returned (.bool (p s)) ∧ Below W.heap.size W w'
set_option maxRecDepth 100000 in
set_option maxHeartbeats 1000000 in
theorem sidx_c (g : Nat) (eg : ∀ args w, (callFunc g args).run Tryz.prog w = .ok (.enter g args) w) (env : Value) (p : List UInt8 → Bool) (G : Nat) (l : List (List UInt8 × Int)) (w : World) (hp : AskG g env p w) (h : SgAt w G l) (hl : l.length ≤ 1000) :
    Calls Tryz.prog 147 #[.slice (some ⟨G, 0, none⟩) l.length l.length, .func (.func g) #[] #[env]] w fun e w' => e = .returned (.int .i64 (idxG (fun x => p x.1) l 0)) ∧ Below w.heap.size w w' := by
  obtain ⟨r, hr⟩ : ∃ r, r = idxG (fun x => p x.1) l 0 := ⟨_, rfl⟩
  rw [← hr]
  have HR := Lib.hid hr
  have HP := Lib.hid hp
  have HS := Lib.hid h
  clear hr hp h
  go_enter Tryz.func147, Tryz.ntmps147
  go_wp2_with fail
  go_loopg [5, 8] l.length (fun kk a iv wr => ∃ i : Nat, iv = .int .i64 (i : Int) ∧ i + kk = l.length ∧ Hid (Below w.heap.size w wr) ∧ Hid (r = idxG (fun x => p x.1) (l.drop i) i))
  case atStart => exact ⟨0, rfl, by omega, Lib.hid (Below.refl _ _), HR⟩
  case round =>
    obtain ⟨i, rfl, hk, HB, HQ⟩ := hrel
    by_cases hi : i < l.length
    · obtain ⟨kk, rfl⟩ : ∃ kk, gk = kk + 1 := ⟨gk - 1, by omega⟩
      obtain ⟨x, hx⟩ : ∃ x, l[i]? = some x := ⟨_, List.getElem?_eq_getElem hi⟩
      obtain ⟨k0, k1⟩ := HS.out.cells hx
      have k0' : wr.cell? ⟨G, i * 2, none⟩ = some (.string ⟨x.1.toArray⟩) := (HB.out.cell (p := ⟨G, i * 2, none⟩) HS.out.lt).trans k0
      have k1' : wr.cell? ⟨G, i * 2 + 1, none⟩ = some (.int .i64 x.2) := (HB.out.cell (p := ⟨G, i * 2 + 1, none⟩) HS.out.lt).trans k1
      have AC := Lib.hid (HP.out x.1 x.2 wr HB.out)
      have HD := Lib.hid (HQ.out.trans (idxG_drop _ l i x hx))
      have b0 : (0 : Int) ≤ (i : Int) := by omega
      have b1 : (i : Int) < (l.length : Int) := by omega
      obtain ⟨b, hb⟩ : ∃ b, b = p x.1 := ⟨_, rfl⟩
      rw [← hb] at AC HD
      clear hx hb k0 k1
      cases b with
      | true =>
        go_wp2_with fail
        refine AC.out.mono ?_
        rintro e w1 ⟨rfl, hb1⟩
        have HB1 := Lib.hid (HB.out.trans (below_le' hb1 HB.out.size))
        clear hb1
        go_wp2_with fail
        go_ret
        exact ⟨by rw [HD.out]; rfl, HB1.out⟩
      | false =>
        go_wp2_with fail
        refine AC.out.mono ?_
        rintro e w1 ⟨rfl, hb1⟩
        have HB1 := Lib.hid (HB.out.trans (below_le' hb1 HB.out.size))
        clear hb1
        go_wp2_with fail
        go_roundg kk
        case measure => omega
        case rel => exact ⟨i + 1, by go_num, by omega, HB1, Lib.hid (by rw [HD.out]; rfl)⟩
    · have hge : ¬ (i : Int) < (l.length : Int) := by omega
      have HE := Lib.hid (show r = -1 by rw [HQ.out, List.drop_eq_nil_of_le (by omega)]; rfl)
      go_wp2_with fail
      go_ret
      exact ⟨by rw [HE.out]; rfl, HB.out⟩
/-- A pointer to the parser in a block of its own. -/
def BxT (w : World) (g P : Nat) : Prop := w.heap[g]? = some (.cells #[.pointer (some ⟨P, 0, none⟩)] 63 (0, 0))
section
variable {w w' : World} {g g' P Q : Nat}
theorem BxT.lt (H : BxT w g Q) : g < w.heap.size := heap_lt H
theorem BxT.c0 (H : BxT w g Q) : w.cell? ⟨g, 0, none⟩ = some (.pointer (some ⟨Q, 0, none⟩)) := cell_of_row w g 0 _ _ _ H
theorem BxT.below' (H : BxT w g Q) (hb : Below w.heap.size w w') : BxT w' g Q := (hb.block g H.lt).trans H
theorem BxT.apart (H : BxT w g Q) (hg : w.grownBy w' (some g')) (hne : g ≠ g') : BxT w' g Q := (hg.block g H.lt (fun e => by injection e with e; exact hne e)).trans H
theorem BxT.grown (H : BxT w g Q) (hg : w.grownBy w' (some P)) (hP : P < g) : BxT w' g Q := H.apart hg (by omega)
end
theorem enters_two1 : ∀ (args : Array Value) (w : World), (callFunc 148 args).run Tryz.prog w = .ok (.enter 148 args) w := enters_of Tryz.func148 (by kernel_rfl) rfl
theorem SgAt.below' {w w' : World} {g : Nat} {l : List (List UInt8 × Int)} (H : SgAt w g l) (hb : Below w.heap.size w w') : SgAt w' g l := (hb.block g H.lt).trans H
theorem SgAt.apart {w w' : World} {g g' : Nat} {l : List (List UInt8 × Int)} (H : SgAt w g l) (hg : w.grownBy w' (some g')) (hne : g ≠ g') : SgAt w' g l := (hg.block g H.lt (fun e => by injection e with e; exact hne e)).trans H
theorem SgAt.grown {w w' : World} {g P : Nat} {l : List (List UInt8 × Int)} (H : SgAt w g l) (hg : w.grownBy w' (some P)) (hP : P < g) : SgAt w' g l := H.apart hg (by omega)
/-- Two nodes, a row. -/
theorem two_row {w : World} {D Dy : Nat → Prop} {V Vy : Value} {sub suby : NL} (h : OwnN w D V sub) (hy : OwnN w Dy Vy suby) (hD : ∀ k, Dy k → k < w.heap.size → D k) (op ln : Int) (s : ByteArray) (k n : Int) (t : ByteArray) (va : Option Addr) (vc : Nat) (op2 ln2 : Int) (s2 : ByteArray) (k2 n2 : Int) (t2 : ByteArray) (va2 : Option Addr) (vc2 : Nat) :
    NRow w (fun k => D k ∧ k < w.heap.size) ((nd op ln s k n t sub).app (nd op2 ln2 s2 k2 n2 t2 suby)) ((nd8 op ln s k n t va vc V).toList ++ (nd8 op2 ln2 s2 k2 n2 t2 va2 vc2 Vy).toList) :=
  nrow_app _ _ _ _ (h.row1 op ln s k n t va vc) ((hy.wide hD).row1 op2 ln2 s2 k2 n2 t2 va2 vc2)
/-- What stands behind n = Node{.., L: {n, y}}. -/
def TwoR (X : PCtx) (a W0 : World) (q : PS) (b N : Nat) (op ln : Int) (l : NL) (d : Int) (wx : World) : Prop :=
  ∃ V', Mvd a wx X q ∧ q.deep = d ∧ NdB wx N (.int .i64 op) (.int .i64 ln) (.string ⟨#[]⟩) (.int .i64 0) (.int .i64 0) (.string ⟨#[]⟩) (.slice none 0 0) V' ∧ OwnN wx (DG b N) V' l ∧ okN l ∧ l.len = 2 ∧ W0.heap.size < wx.heap.size ∧ ∀ g, g < W0.heap.size → g ≠ N → g ≠ X.P → wx.heap[g]? = W0.heap[g]?
theorem two_rel {a W0 W : World} {X : PCtx} {q : PS} {b N B : Nat} {V Vy : Value} {c0 c1 c2 c3 c4 c5 c6 c7 : Value} {sub suby : NL} {op ln : Int} {s : ByteArray} {k n : Int} {t : ByteArray} {va : Option Addr} {vc : Nat} {op2 ln2 : Int} {s2 : ByteArray} {k2 n2 : Int} {t2 : ByteArray} {va2 : Option Addr} {vc2 : Nat} {op3 ln3 d : Int}
    (hW : W0.grownBy W (some X.P)) (hm : Mvd a W X q) (hN : NdB W N c0 c1 c2 c3 c4 c5 c6 c7) (hv : OwnN W (DG b N) V sub) (hy : OwnN W (fun k => B ≤ k) Vy suby) (hP : X.P < N) (haN : a.heap.size ≤ N) (hbB : b ≤ B) (hNB : N < B) (hB : B = W0.heap.size) (hk : okN (nd op ln s k n t sub)) (hky : okN (nd op2 ln2 s2 k2 n2 t2 suby)) (hd : q.deep = d) :
    TwoR X a W0 q b N op3 ln3 ((nd op ln s k n t sub).app (nd op2 ln2 s2 k2 n2 t2 suby)) d (((((((((W.alloc (.cells ((nd8 op ln s k n t va vc V) ++ (nd8 op2 ln2 s2 k2 n2 t2 va2 vc2 Vy)) 31)).setCell ⟨N, 0, none⟩ (.int .i64 op3)).setCell ⟨N, 1, none⟩ (.int .i64 ln3)).setCell ⟨N, 2, none⟩ (.string ⟨#[]⟩)).setCell ⟨N, 3, none⟩ (.int .i64 0)).setCell ⟨N, 4, none⟩ (.int .i64 0)).setCell ⟨N, 5, none⟩ (.string ⟨#[]⟩)).setCell ⟨N, 6, none⟩ (.slice none 0 0)).setCell ⟨N, 7, none⟩ (.slice (some ⟨W.heap.size, 0, none⟩) 2 2)) := by
  have hz := hW.size
  have hr := two_row hv hy (fun k (hk : B ≤ k) _ => ⟨by omega, by omega⟩) op ln s k n t va vc op2 ln2 s2 k2 n2 t2 va2 vc2
  have hlit := OwnN.lit (cs := (nd8 op ln s k n t va vc V) ++ (nd8 op2 ln2 s2 k2 n2 t2 va2 vc2 Vy)) (by rw [Array.toList_append]; exact hr) (show DG b N W.heap.size from ⟨by omega, by omega⟩) (by rw [NL.len_app]; show 2 ≤ _; decide)
  obtain ⟨W1, hW1⟩ : ∃ W1, W1 = W.alloc (.cells ((nd8 op ln s k n t va vc V) ++ (nd8 op2 ln2 s2 k2 n2 t2 va2 vc2 Vy)) 31) := ⟨_, rfl⟩
  rw [← hW1] at hlit ⊢
  have hm1 : Mvd a W1 X q := by rw [hW1]; exact hm.alloc _
  have hN1 : NdB W1 N c0 c1 c2 c3 c4 c5 c6 c7 := by rw [hW1]; exact hN.alloc _
  have hz1 : W1.heap.size = W.heap.size + 1 := by rw [hW1]; simp
  have hg := only_set8 W1 N (.int .i64 op3) (.int .i64 ln3) (.string ⟨#[]⟩) (.int .i64 0) (.int .i64 0) (.string ⟨#[]⟩) (.slice none 0 0) (.slice (some ⟨W.heap.size, 0, none⟩) 2 2)
  refine ⟨_, hm1.node hN1 hP haN hg, hd, hN1.set8 _ _ _ _ _ _ _ _, ?_, okN_app _ _ hk hky, by rw [NL.len_app]; rfl, by have := hg.size; omega, fun g hg0 hgN hgP => ?_⟩
  · exact hlit.apart hg (.inr rfl)
  · rw [hg.block g (by omega) (fun e => by injection e with e; exact hgN e), hW1, Below.heap_alloc _ _ _ (by omega)]
    exact hW.block g hg0 (fun e => by injection e with e; exact hgP e)

set_option maxRecDepth 100000 in
set_option maxHeartbeats 8000000 in
theorem two_step (X : PCtx) (F : Nat) (hF : F ≤ 1000000000) (ih : EC X F) (k : Nat) (hk5 : k ≤ 5) : NodeC X 101 #[.int .i64 k] (.two k) (F + 1) := by
  intro w p r hst h0 h1 hr
  rw [prsR] at hr
  have hPl := hst.lt
  have hlen := hst.len
  obtain ⟨i0, hi0, hz0, hz1, hz2⟩ := info_parts pnode_info
  have IH := Lib.hid ih
  clear ih
  by_cases hk : 5 ≤ k
  · obtain rfl : k = 5 := by omega
    have HQ1 := Lib.hid (show prsR X.l F .one p = some r by rw [← hr]; rfl)
    clear hr hk
    obtain ⟨n1, p1⟩ := r
    obtain ⟨wa, hwa⟩ : ∃ wa, wa = (w.alloc (.cells #[.pointer (some ⟨X.P, 0, none⟩)] 63)).alloc (.cells #[.int .i64 0, .int .i64 0, .string ⟨#[]⟩, .int .i64 0, .int .i64 0, .string ⟨#[]⟩, .slice none 0 0, .slice none 0 0] 31) := ⟨_, rfl⟩
    have HMa := Lib.hid (show Mvd w wa X p by rw [hwa]; exact ((Mvd.of hst).alloc _).alloc _)
    have hsa : wa.heap.size = w.heap.size + 2 := by rw [hwa]; simp
    have HZr := Lib.hid (show zN wa (w.heap.size + 1) by rw [hwa]; exact zN.new1 w _)
    have HX0 := Lib.hid (show BxT wa w.heap.size X.P by rw [hwa]; exact (Below.heap_alloc _ _ _ (by simp)).trans (heap_alloc_new w _))
    have HWA := Lib.hid hwa
    clear hwa
    go_enter Tryz.func101, Tryz.ntmps101
    go_wp2_with fail
    rw [← HWA.out]
    refine (level_5 _).mono ?_
    rintro e0 w0 ⟨rfl, rfl⟩
    have b0 := HX0.out.c0
    have hcmp := fun (W : World) => run_eql_slice_nil (P := Tryz.prog) W 165 169 none 0 0 Tryz.underlying165
    go_wp2_with fail
    refine (IH.out.one F (Nat.le_refl _) wa _ _ HMa.out.st (by first | omega | (simp <;> omega)) (by first | omega | (simp <;> omega)) HQ1.out).mono ?_
    rintro e1 w1 ⟨op1, ln1, t1, k1, m1, u1, va1, vc1, V1, sub1, hn1, rfl, hm1, ho1, hk1, hl1, hd1⟩
    obtain ⟨A1, cc1, rfl⟩ := ho1.form
    have hn1 : n1 = nd op1 ln1 t1 k1 m1 u1 sub1 := hn1
    subst hn1
    have hk1 := Lib.hid hk1
    have hd1 : p1.deep = p.deep + 0 := by have h : p1.deep = p.deep := hd1; (try simp at h); omega
    have HM1 := Lib.hid (HMa.out.trans hm1)
    have hs1 := hm1.grown.size
    have HBr1 := Lib.hid (NdB.grown HZr.out hm1.grown (show X.P < (w.heap.size + 1) by omega))
    have HBb1 := Lib.hid (BxT.grown HX0.out hm1.grown (show X.P < w.heap.size by omega))
    have HO1 := Lib.hid (ho1.wide (D' := DG wa.heap.size 0) (fun k hk hk2 => ⟨hk, by omega⟩))
    clear hm1 ho1
    unfold nd8
    have c1_0 := HBr1.out.c0
    have f1_0 := HBr1.out.fr 0
    have c1_1 := HBr1.out.c1
    have f1_1 := HBr1.out.fr 1
    have c1_2 := HBr1.out.c2
    have f1_2 := HBr1.out.fr 2
    have c1_3 := HBr1.out.c3
    have f1_3 := HBr1.out.fr 3
    have c1_4 := HBr1.out.c4
    have f1_4 := HBr1.out.fr 4
    have c1_5 := HBr1.out.c5
    have f1_5 := HBr1.out.fr 5
    have c1_6 := HBr1.out.c6
    have f1_6 := HBr1.out.fr 6
    have c1_7 := HBr1.out.c7
    have f1_7 := HBr1.out.fr 7
    go_wp2_with fail
    have HRR := Lib.hid (rfl : (nd op1 ln1 t1 k1 m1 u1 sub1, p1) = (nd op1 ln1 t1 k1 m1 u1 sub1, p1))
    refine ret_cell8 Tryz.results101 (w.heap.size + 1) rfl rfl (HBr1.out.set8 _ _ _ _ _ _ _ _) ?_
    exact PNd.mk op1 ln1 t1 k1 m1 u1 va1 vc1 _ sub1 _ HRR.out (HM1.out.node HBr1.out (by omega) (by omega) (only_set8 _ _ _ _ _ _ _ _ _ _)) (own_end (w0 := w.heap.size) (g := (w.heap.size + 1)) HO1.out (by omega) (only_set8 _ _ _ _ _ _ _ _ _ _) (by omega)) hk1.out (by omega) (by first | omega | (simp <;> omega))
  · have hk4 : k < 5 := by omega
    replace hr : ((prsR X.l F (.two (k + 1)) p).bind fun (n, p) => prsR X.l F (.twoL k n) p) = some r := by rw [← hr, if_neg hk]
    clear hk
    cases hq1 : prsR X.l F (.two (k + 1)) p with
    | none => rw [hq1] at hr; cases hr
    | some q1 =>
    obtain ⟨n1, p1⟩ := q1
    rw [hq1] at hr
    replace hr : prsR X.l F (.twoL k n1) p1 = some r := hr
    have HQ1 := Lib.hid hq1
    clear hq1
    have HQL := Lib.hid hr
    clear hr
    have hkw : IntKind.i64.wrap ((k : Int) + 1) = ((k + 1 : Nat) : Int) := by rw [show ((k : Int) + 1) = ((k + 1 : Nat) : Int) from by omega]; exact IntWalk.i64_in _ ⟨by omega, by omega⟩
    have hln : (levelS k).length ≤ 1000 := by
      match k, hk4 with
      | 0, _ => decide
      | 1, _ => decide
      | 2, _ => decide
      | 3, _ => decide
      | 4, _ => decide
    have hln0 : 0 < (levelS k).length := by
      match k, hk4 with
      | 0, _ => decide
      | 1, _ => decide
      | 2, _ => decide
      | 3, _ => decide
      | 4, _ => decide
    have LC := Lib.hid (fun W => level_c k hk4 W)
    obtain ⟨ls, hls⟩ : ∃ ls, ls = levelS k := ⟨_, rfl⟩
    have HLS := Lib.hid hls
    rw [← hls] at LC hln hln0
    clear hls
    obtain ⟨wa, hwa⟩ : ∃ wa, wa = (w.alloc (.cells #[.pointer (some ⟨X.P, 0, none⟩)] 63)).alloc (.cells #[.int .i64 0, .int .i64 0, .string ⟨#[]⟩, .int .i64 0, .int .i64 0, .string ⟨#[]⟩, .slice none 0 0, .slice none 0 0] 31) := ⟨_, rfl⟩
    have HMa := Lib.hid (show Mvd w wa X p by rw [hwa]; exact ((Mvd.of hst).alloc _).alloc _)
    have hsa : wa.heap.size = w.heap.size + 2 := by rw [hwa]; simp
    have HZr := Lib.hid (show zN wa (w.heap.size + 1) by rw [hwa]; exact zN.new1 w _)
    have HX0 := Lib.hid (show BxT wa w.heap.size X.P by rw [hwa]; exact (Below.heap_alloc _ _ _ (by simp)).trans (heap_alloc_new w _))
    have HWA := Lib.hid hwa
    clear hwa
    go_enter Tryz.func101, Tryz.ntmps101
    go_wp2_with fail
    rw [← HWA.out]
    refine (LC.out _).mono ?_
    rintro e1 w1 ⟨rfl, hsg, hb1⟩
    have HG := Lib.hid hsg
    clear hsg
    have hs1 := hb1.size
    have HM1 := Lib.hid (HMa.out.below hb1)
    have HBr1 := Lib.hid (HZr.out.below' hb1)
    have HBb1 := Lib.hid (HX0.out.below' hb1)
    clear hb1
    have b0 := HBb1.out.c0
    have hcmp := fun (W : World) => run_eql_slice_nil (P := Tryz.prog) W 165 169 (some ⟨w.heap.size + 2, 0, none⟩) ls.length ls.length Tryz.underlying165
    have hg2 : wa.heap.size = w.heap.size + 2 := hsa
    rw [hg2] at HG
    clear hg2
    go_wp2_with fail
    refine (IH.out.two F (Nat.le_refl _) (k + 1) (by omega) w1 _ _ HM1.out.st h0 h1 HQ1.out).mono ?_
    rintro e2 w2 ⟨op2, ln2, t2, k2, m2, u2, va2, vc2, V2, sub2, hn2, rfl, hm2, ho2, hk2, hl2, hd2⟩
    obtain ⟨A2, cc2, rfl⟩ := ho2.form
    have hn2 : n1 = nd op2 ln2 t2 k2 m2 u2 sub2 := hn2
    subst hn2
    have hk2 := Lib.hid hk2
    have hd2 : p1.deep = p.deep + 0 := by have h : p1.deep = p.deep := hd2; (try simp at h); omega
    have HM2 := Lib.hid (HM1.out.trans hm2)
    have hs2 := hm2.grown.size
    have HBr2 := Lib.hid (NdB.grown HBr1.out hm2.grown (show X.P < (w.heap.size + 1) by omega))
    have HBb2 := Lib.hid (BxT.grown HBb1.out hm2.grown (show X.P < w.heap.size by omega))
    have HBg2 := Lib.hid (SgAt.grown HG.out hm2.grown (show X.P < (w.heap.size + 2) by omega))
    have HO2 := Lib.hid (ho2.wide (D' := DG w1.heap.size 0) (fun k hk hk2 => ⟨hk, by omega⟩))
    clear hm2 ho2
    unfold nd8
    clear b0 hcmp
    obtain ⟨w3, hw3⟩ : ∃ w3, w3 = (w2.alloc (.cells #[.int .i64 op2, .int .i64 ln2, .string t2, .int .i64 k2, .int .i64 m2, .string u2, .slice va2 0 vc2, .slice A2 sub2.len cc2] 31)) := ⟨_, rfl⟩
    have hb3 : Below w2.heap.size w2 w3 := by rw [hw3]; exact ((Below.refl _ _).alloc (Nat.le_refl _) _)
    have HBn3 := Lib.hid (show NdB w3 w2.heap.size (.int .i64 op2) (.int .i64 ln2) (.string t2) (.int .i64 k2) (.int .i64 m2) (.string u2) (.slice va2 0 vc2) (.slice A2 sub2.len cc2) by rw [hw3]; exact NdB.new _ _ _ _ _ _ _ _ _)
    have hs3 : w3.heap.size = w2.heap.size + 1 := by rw [hw3]; simp
    have HM3 := Lib.hid (HM2.out.below hb3)
    have HBr3 := Lib.hid (HBr2.out.below' hb3)
    have HBb3 := Lib.hid (HBb2.out.below' hb3)
    have HBg3 := Lib.hid (HBg2.out.below' hb3)
    have HOx23 := Lib.hid ((HO2.out.wide (D' := DG w1.heap.size w2.heap.size) (fun k hk hk2 => ⟨hk.1, by omega⟩)).below hb3)
    have HW3 := Lib.hid hw3
    clear hw3 hb3
    go_wp2_with fail
    rw [← HW3.out]
    go_wp2_with fail
    have hchain : X.P < w1.heap.size ∧ w.heap.size + 2 < w1.heap.size ∧ w1.heap.size ≤ w2.heap.size ∧ w2.heap.size < w3.heap.size := by have hgl := HG.out.lt; omega
    have HCH := Lib.hid hchain
    clear hchain
    go_loopg [] F (fun kk wr => ∃ (op ln : Int) (s : ByteArray) (kd n : Int) (t : ByteArray) (va : Option Addr) (vc : Nat) (V : Value) (sub : NL) (q : PS), sub.len ≤ 2 * F + 10 ∧ kk ≤ F ∧ q.deep = p.deep ∧ w3.heap.size ≤ wr.heap.size ∧ Hid (Mvd w wr X q) ∧ Hid (zN wr (w.heap.size + 1)) ∧ Hid (BxT wr w.heap.size X.P) ∧ Hid (SgAt wr (w.heap.size + 2) ls) ∧ Hid (NdB wr w2.heap.size (.int .i64 op) (.int .i64 ln) (.string s) (.int .i64 kd) (.int .i64 n) (.string t) (.slice va 0 vc) V) ∧ Hid (OwnN wr (DG w1.heap.size w2.heap.size) V sub) ∧ Hid (okN (nd op ln s kd n t sub)) ∧ Hid (prsR X.l kk (.twoL k (nd op ln s kd n t sub)) q = some r))
    case atStart => exact ⟨op2, ln2, t2, k2, m2, u2, va2, vc2, _, sub2, p1, by omega, Nat.le_refl _, by omega, Nat.le_refl _, HM3, HBr3, HBb3, HBg3, HBn3, HOx23, hk2, HQL⟩
    case round =>
      have hchain := HCH.out
      obtain ⟨op, ln, s, kd, n, t, va, vc, V, sub, q, hsl, hkF, hqd, hs0, HM, HR, HX, HG, HN, HO, HK, HQ⟩ := hrel
      obtain ⟨AV, CV, hVf⟩ := HO.out.form
      subst hVf
      cases gk with
      | zero => have h := HQ.out; rw [prsR] at h; cases h
      | succ kk =>
      have hr := HQ.out
      rw [prsR] at hr
      have SI := sidx_c 148 enters_two1 (.pointer (some ⟨w.heap.size, 0, none⟩)) (fun x => isS X.l q x) (w.heap.size + 2) ls wr (fun s op W hW => ask_c X q s op w.heap.size W (HM.out.st.below hW) (HX.out.below' hW).c0) HG.out hln
      clear HQ
      rcases idxG_find (fun x => isS X.l q x.1) ls 0 with ⟨h1, h2⟩ | ⟨j, x, h1, h2, h3, h4⟩
      · rw [h1] at SI
        have SC := Lib.hid SI
        replace hr : some (nd op ln s kd n t sub, q) = some r := by rw [← hr, ← HLS.out, h2]
        have HRR := Lib.hid (Option.some.inj hr).symm
        clear SI h1 h2 hr
        go_wp2_with fail
        refine SC.out.mono ?_
        rintro e31 w31 ⟨rfl, hb31⟩
        have hs31 := hb31.size
        have HM31 := Lib.hid (HM.out.below hb31)
        have HBr31 := Lib.hid (HR.out.below' hb31)
        have HBb31 := Lib.hid (HX.out.below' hb31)
        have HBg31 := Lib.hid (HG.out.below' hb31)
        have HBn31 := Lib.hid (HN.out.below' hb31)
        have HOo31 := Lib.hid (HO.out.below hb31)
        clear hb31
        have c1_0 := HBn31.out.c0
        have c1_1 := HBn31.out.c1
        have c1_2 := HBn31.out.c2
        have c1_3 := HBn31.out.c3
        have c1_4 := HBn31.out.c4
        have c1_5 := HBn31.out.c5
        have c1_6 := HBn31.out.c6
        have c1_7 := HBn31.out.c7
        have c2_0 := HBr31.out.c0
        have f2_0 := HBr31.out.fr 0
        have c2_1 := HBr31.out.c1
        have f2_1 := HBr31.out.fr 1
        have c2_2 := HBr31.out.c2
        have f2_2 := HBr31.out.fr 2
        have c2_3 := HBr31.out.c3
        have f2_3 := HBr31.out.fr 3
        have c2_4 := HBr31.out.c4
        have f2_4 := HBr31.out.fr 4
        have c2_5 := HBr31.out.c5
        have f2_5 := HBr31.out.fr 5
        have c2_6 := HBr31.out.c6
        have f2_6 := HBr31.out.fr 6
        have c2_7 := HBr31.out.c7
        have f2_7 := HBr31.out.fr 7
        go_wp2_with fail
        refine ret_cell8 Tryz.results101 (w.heap.size + 1) rfl rfl (HBr31.out.set8 _ _ _ _ _ _ _ _) ?_
        exact PNd.mk op ln s kd n t va vc _ sub _ HRR.out (HM31.out.node HBr31.out (by omega) (by omega) (only_set8 _ _ _ _ _ _ _ _ _ _)) (own_end (w0 := w.heap.size) (g := (w.heap.size + 1)) HOo31.out (by omega) (only_set8 _ _ _ _ _ _ _ _ _ _) (by omega)) HK.out (by omega) (by first | omega | (simp <;> omega))
      · rw [h1] at SI
        have SC := Lib.hid (show Calls _ _ _ _ (fun e w' => e = .returned (.int .i64 (j : Int)) ∧ Below wr.heap.size wr w') by rw [Nat.zero_add] at SI; exact SI)
        replace hr : ((prsR X.l kk (.two (k + 1)) (nextS q)).bind fun (y, p) => prsR X.l kk (.twoL k (ndL x.2 ln ((nd op ln s kd n t sub).app y))) p) = some r := by rw [← hr, ← HLS.out, h3]; rfl
        have hjl : j < ls.length := (List.getElem?_eq_some_iff.1 h2).1
        have hqlt := isS_lt h4
        have HXX := Lib.hid h2
        clear SI h1 h2 h3 h4
        cases hq5 : prsR X.l kk (.two (k + 1)) (nextS q) with
        | none => rw [hq5] at hr; cases hr
        | some q5 =>
        obtain ⟨n5, p5⟩ := q5
        rw [hq5] at hr
        replace hr : prsR X.l kk (.twoL k (ndL x.2 ln ((nd op ln s kd n t sub).app n5))) p5 = some r := hr
        have HQ5 := Lib.hid hq5
        clear hq5
        have HQ6 := Lib.hid hr
        clear hr
        go_wp2_with fail
        refine SC.out.mono ?_
        rintro e31 w31 ⟨rfl, hb31⟩
        have hs31 := hb31.size
        have HM31 := Lib.hid (HM.out.below hb31)
        have HBr31 := Lib.hid (HR.out.below' hb31)
        have HBb31 := Lib.hid (HX.out.below' hb31)
        have HBg31 := Lib.hid (HG.out.below' hb31)
        have HBn31 := Lib.hid (HN.out.below' hb31)
        have HOo31 := Lib.hid (HO.out.below hb31)
        clear hb31
        have hj0 : ¬ (j : Int) < 0 := by omega
        have hj1 : (0 : Int) ≤ (j : Int) := by omega
        have hj2 : (j : Int) < (ls.length : Int) := by omega
        obtain ⟨ev, hP, hE⟩ := HM31.out.st.at_
        have c1 := hP.c1
        have f1 := hP.fr 1
        clear hP hE
        have b0 := HBb31.out.c0
        go_upto_region 9 with fail
        have HMn32 := Lib.hid (HM31.out.jump 1 hqlt)
        obtain ⟨w32, hw32⟩ : ∃ W, W = w31.setCell ⟨X.P, 1, none⟩ (.int .i64 ((q.pos : Int) + 1)) := ⟨_, rfl⟩
        have hg32 : w31.grownBy w32 (some X.P) := by rw [hw32]; exact only_set1 _ _ _ _
        have HM32 := Lib.hid (show Mvd w w32 X (nextS q) by rw [hw32]; exact HMn32.out)
        have hs32 := hg32.size
        have HBr32 := Lib.hid (NdB.grown HBr31.out hg32 (show X.P < (w.heap.size + 1) by omega))
        have HBb32 := Lib.hid (BxT.grown HBb31.out hg32 (show X.P < w.heap.size by omega))
        have HBg32 := Lib.hid (SgAt.grown HBg31.out hg32 (show X.P < (w.heap.size + 2) by omega))
        have HBn32 := Lib.hid (NdB.grown HBn31.out hg32 (show X.P < w2.heap.size by omega))
        have HOo32 := Lib.hid (OwnN.grown HOo31.out hg32 (DG.not (by omega)))
        have HW32 := Lib.hid hw32
        clear hw32 hg32 HMn32
        rw [← HW32.out]
        clear c1 f1 b0
        have b0 := HBb32.out.c0
        have c1 := HBn32.out.c1
        have x1 := (HBg32.out.cells HXX.out).2
        have b0d : w32.drew.cell? _ = _ := b0
        have c1d : w32.drew.cell? _ = _ := c1
        have x1d : w32.drew.cell? _ = _ := x1
        have c0 := HBn32.out.c0
        have c2 := HBn32.out.c2
        have c3 := HBn32.out.c3
        have c4 := HBn32.out.c4
        have c5 := HBn32.out.c5
        have c6 := HBn32.out.c6
        have c7 := HBn32.out.c7
        have HSD := Lib.hid (show PSt w32.drew X (nextS q) from HM32.out.st.below (Below.drew (Below.refl _ _)))
        have HMD := Lib.hid (show Mvd w w32.drew X (nextS q) from HM32.out.drew)
        have EXC := Lib.hid (fun W (hW : PSt W X (nextS q)) => IH.out.two kk (by omega) (k + 1) (by omega) W _ _ hW (by first | omega | (simp <;> omega)) (by first | omega | (simp <;> omega)) HQ5.out)
        go_region_law
          (first
            | (go_simp; go_at_call 101; refine (EXC.out _ HSD.out).mono ?_
               rintro e9 w8 ⟨op8, ln8, t8, k8, m8, u8, va8, vc8, V8, sub8, hn, rfl, hm, ho, hk, hl, hd⟩
               obtain ⟨A8, c8, rfl⟩ := ho.form
               have hn' : n5 = nd op8 ln8 t8 k8 m8 u8 sub8 := hn
               have HNN := Lib.hid hn'
               have HK8 := Lib.hid (show okN (nd op8 ln8 t8 k8 m8 u8 sub8) by rw [← hn']; exact hk)
               have HDD := Lib.hid (show p5.deep = p.deep by have h : p5.deep = (nextS q).deep := hd; (try simp at h); omega)
               have HGR := Lib.hid (show w32.grownBy w8 (some X.P) from ⟨hm.grown.os, hm.grown.tape, hm.grown.output, hm.grown.size, hm.grown.block⟩)
               have HM8 := Lib.hid (HMD.out.trans hm)
               have hs8 : w32.heap.size ≤ w8.heap.size := hm.grown.size
               have HN8 := Lib.hid (NdB.grown (w := w32) HBn32.out HGR.out (show X.P < w2.heap.size by omega))
               have HO8 := Lib.hid (OwnN.grown (w := w32) HOo32.out HGR.out (DG.not (by omega)))
               have HX8 := Lib.hid (BxT.grown (w := w32) HBb32.out HGR.out (show X.P < w.heap.size by omega))
               have HG8 := Lib.hid (SgAt.grown (w := w32) HBg32.out HGR.out (show X.P < w.heap.size + 2 by omega))
               have HY8 := Lib.hid (show OwnN w8 (fun k => w32.heap.size ≤ k) (.slice A8 sub8.len c8) sub8 from ho)
               have b0_8 := HX8.out.c0
               have x1_8 := (HG8.out.cells HXX.out).2
               have c1_8 := HN8.out.c1; have c0_8 := HN8.out.c0; have c2_8 := HN8.out.c2; have c3_8 := HN8.out.c3; have c4_8 := HN8.out.c4; have c5_8 := HN8.out.c5; have c6_8 := HN8.out.c6; have c7_8 := HN8.out.c7
               have x1_9 := fun o => cellA x1_8 o
               have y0 := fun o => (HN8.out.alloc o).c0; have y1 := fun o => (HN8.out.alloc o).c1; have y2 := fun o => (HN8.out.alloc o).c2; have y3 := fun o => (HN8.out.alloc o).c3; have y4 := fun o => (HN8.out.alloc o).c4; have y5 := fun o => (HN8.out.alloc o).c5; have y6 := fun o => (HN8.out.alloc o).c6; have y7 := fun o => (HN8.out.alloc o).c7
               have z0 := fun o => (HN8.out.alloc o).fr 0; have z1 := fun o => (HN8.out.alloc o).fr 1; have z2 := fun o => (HN8.out.alloc o).fr 2; have z3 := fun o => (HN8.out.alloc o).fr 3; have z4 := fun o => (HN8.out.alloc o).fr 4; have z5 := fun o => (HN8.out.alloc o).fr 5; have z6 := fun o => (HN8.out.alloc o).fr 6; have z7 := fun o => (HN8.out.alloc o).fr 7
               have KB := Lib.hid (fun (o : Obj) (a0 a1 a2 a3 a4 a5 a6 a7 : Value) => show (((((((((w8.alloc o).setCell ⟨w2.heap.size, 0, none⟩ a0).setCell ⟨w2.heap.size, 1, none⟩ a1).setCell ⟨w2.heap.size, 2, none⟩ a2).setCell ⟨w2.heap.size, 3, none⟩ a3).setCell ⟨w2.heap.size, 4, none⟩ a4).setCell ⟨w2.heap.size, 5, none⟩ a5).setCell ⟨w2.heap.size, 6, none⟩ a6).setCell ⟨w2.heap.size, 7, none⟩ a7).cell? ⟨w.heap.size, 0, none⟩ = some (.pointer (some ⟨X.P, 0, none⟩)) from (World.cell?_of_block (w := w8.alloc o) ((only_set8 _ _ _ _ _ _ _ _ _ _).block _ (by simp; have := HX8.out.lt; omega) (fun e => by injection e with e; have e' : w.heap.size = w2.heap.size := e; omega))).trans (cellA HX8.out.c0 o))
               have KS := Lib.hid (fun (o : Obj) (a0 a1 a2 a3 a4 a5 a6 a7 : Value) => show (((((((((w8.alloc o).setCell ⟨w2.heap.size, 0, none⟩ a0).setCell ⟨w2.heap.size, 1, none⟩ a1).setCell ⟨w2.heap.size, 2, none⟩ a2).setCell ⟨w2.heap.size, 3, none⟩ a3).setCell ⟨w2.heap.size, 4, none⟩ a4).setCell ⟨w2.heap.size, 5, none⟩ a5).setCell ⟨w2.heap.size, 6, none⟩ a6).setCell ⟨w2.heap.size, 7, none⟩ a7).cell? ⟨w.heap.size + 2, j * 2 + 1, none⟩ = some (.int .i64 x.2) from (World.cell?_of_block (w := w8.alloc o) ((only_set8 _ _ _ _ _ _ _ _ _ _).block _ (by simp; have := HG8.out.lt; omega) (fun e => by injection e with e; have e' : w.heap.size + 2 = w2.heap.size := e; omega))).trans (cellA x1_8 o))
               have KL := Lib.hid (fun (o : Obj) (a0 a2 a3 a4 a5 a6 a7 : Value) => show (((((((((w8.alloc o).setCell ⟨w2.heap.size, 0, none⟩ a0).setCell ⟨w2.heap.size, 1, none⟩ (.int .i64 ln)).setCell ⟨w2.heap.size, 2, none⟩ a2).setCell ⟨w2.heap.size, 3, none⟩ a3).setCell ⟨w2.heap.size, 4, none⟩ a4).setCell ⟨w2.heap.size, 5, none⟩ a5).setCell ⟨w2.heap.size, 6, none⟩ a6).setCell ⟨w2.heap.size, 7, none⟩ a7).cell? ⟨w2.heap.size, 1, none⟩ = some (.int .i64 ln) from ((HN8.out.alloc o).set8 _ _ _ _ _ _ _ _).c1)
               clear hn hn' hm ho hk hl hd
               unfold nd8))
        all_goals
          go_wp2_with fail
          obtain ⟨wc, hwc⟩ : ∃ wc, wc = ((((((((w8.alloc (.cells #[.int .i64 op, .int .i64 ln, .string s, .int .i64 kd, .int .i64 n, .string t, .slice va 0 vc, .slice AV sub.len CV, .int .i64 op8, .int .i64 ln8, .string t8, .int .i64 k8, .int .i64 m8, .string u8, .slice va8 0 vc8, .slice A8 sub8.len c8] 31)).setCell ⟨w2.heap.size, 0, none⟩ (.int .i64 x.2)).setCell ⟨w2.heap.size, 1, none⟩ (.int .i64 ln)).setCell ⟨w2.heap.size, 2, none⟩ (.string ⟨#[]⟩)).setCell ⟨w2.heap.size, 3, none⟩ (.int .i64 0)).setCell ⟨w2.heap.size, 4, none⟩ (.int .i64 0)).setCell ⟨w2.heap.size, 5, none⟩ (.string ⟨#[]⟩)).setCell ⟨w2.heap.size, 6, none⟩ (.slice none 0 0)).setCell ⟨w2.heap.size, 7, none⟩ (.slice (some ⟨w8.heap.size, 0, none⟩) 2 2) := ⟨_, rfl⟩
          have TR : TwoR X w w32 p5 w1.heap.size w2.heap.size x.2 ln ((nd op ln s kd n t sub).app n5) p.deep wc := by
            rw [hwc, HNN.out]
            exact two_rel HGR.out HM8.out HN8.out HO8.out HY8.out (by omega) (by omega) (by omega) (by omega) rfl HK.out HK8.out HDD.out
          have HWC := Lib.hid hwc
          clear hwc
          obtain ⟨V9, hm9, hd9, hn9, ho9, hk9, hl9, hs9, hf9⟩ := TR
          have HBR := Lib.hid (show zN wc (w.heap.size + 1) from (hf9 _ (by omega) (by omega) (by omega)).trans HBr32.out)
          have HBX := Lib.hid (show BxT wc w.heap.size X.P from (hf9 _ (by omega) (by omega) (by omega)).trans HBb32.out)
          have HBG := Lib.hid (show SgAt wc (w.heap.size + 2) ls from (hf9 _ (by omega) (by omega) (by omega)).trans HBg32.out)
          have HM9 := Lib.hid hm9
          have HN9 := Lib.hid hn9
          have HO9 := Lib.hid ho9
          have HK9 := Lib.hid hk9
          clear hm9 hn9 ho9 hk9 hf9
          rw [← HWC.out]
          go_roundg kk
          case measure => omega
          case rel => exact ⟨x.2, ln, ⟨#[]⟩, 0, 0, ⟨#[]⟩, none, 0, V9, _, p5, by omega, by omega, hd9, by omega, HM9, HBR, HBX, HBG, HN9, HO9, Lib.hid (okN_nd HK9.out (fun _ => by omega)), HQ6⟩
end Go.Proofs.YtggngahmafbihaaGreatDoor
