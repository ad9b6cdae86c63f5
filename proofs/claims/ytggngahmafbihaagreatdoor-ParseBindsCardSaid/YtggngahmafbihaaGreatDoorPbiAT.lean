/- Contracts of the functions that the statement reaches, and the plain mathematics beneath: several texts joined. -/
import Derived.Test.YtggngahmafbihaaGreatDoorPbiAR
namespace Go.Proofs.YtggngahmafbihaaGreatDoor
open Go.RowKit Go.Lib
set_option linter.unusedVariables false
theorem integer_at {X : PCtx} {p : PS} {w : World} {b : Bool} (i : Nat) (h : PSt w X p) (hb : atInt X.l i = b) {v : Int} (hv : v = (i : Int)) :
    Calls Tryz.prog 172 #[.pointer (some ⟨X.P, 0, none⟩), .int .i64 v] w fun e w' => e = .returned (.bool b) ∧ w = w' := by
  have := integer_pc X p i w h
  rw [hb, ← hv] at this
  exact this
theorem NdB.set4 {w : World} {g : Nat} {a b c d e f h i : Value} (H : NdB w g a b c d e f h i) (u : Value) : NdB (w.setCell ⟨g, 4, none⟩ u) g a b c d u f h i := by unfold NdB at H ⊢; simp [World.setCell, Array.getElem?_modify, H]
theorem Mvd.jump {a w : World} {X : PCtx} {p : PS} (h : Mvd a w X p) (k : Nat) (hp : p.pos + k ≤ X.l.length) : Mvd a (w.setCell ⟨X.P, 1, none⟩ (.int .i64 ((p.pos : Int) + (k : Int)))) X { p with pos := p.pos + k } := by
  obtain ⟨ev, hP, hE⟩ := h.st.at_
  have hs := hP.set1 (p.pos + k)
  rw [show ((p.pos + k : Nat) : Int) = (p.pos : Int) + (k : Int) from by omega] at hs
  exact ⟨h.st.moved (fun b hb => Below.heap_setCell _ _ _ _ (by show b ≠ X.P; omega)) (by rw [size_set]; exact Nat.le_refl _) hs (hE.keep (fun b hb _ => Below.heap_setCell _ _ _ _ (by show b ≠ X.P; omega))) hp, only_setCell h.grown (.inl rfl) _⟩

set_option maxRecDepth 100000 in
set_option maxHeartbeats 8000000 in
theorem one_step (X : PCtx) (F : Nat) (hF : F ≤ 1000000000) (ih : EC X F) : NodeC X 146 #[] .one (F + 1) := by
  intro w p r hst h0 h1 hr
  rw [prsR] at hr
  have hPl := hst.lt
  have hlen := hst.len
  obtain ⟨i0, hi0, hz0, hz1, hz2⟩ := info_parts pnode_info
  have IH := Lib.hid ih
  clear ih
  have hlt0 : isS X.l p [45] = true → p.pos < X.l.length := isS_lt
  cases hb : isS X.l p [45] with
  | true =>
    rw [hb] at hr
    have hlt := isS_lt hb
    clear hlt0
    have HB := Lib.hid hb
    clear hb
    cases hi : atInt X.l (p.pos + 1) with
    | true =>
      rw [hi] at hr
      have HI := Lib.hid hi
      cases ht : X.l[p.pos + 1]? with
      | none => rw [atInt_out ht] at hi; cases hi
      | some tk =>
      rw [ht] at hr
      have hlt2 : p.pos + 1 < X.l.length := (List.getElem?_eq_some_iff.1 ht).1
      have HT := Lib.hid ht
      clear ht hi
      have HQ1 := Lib.hid (show prsR X.l F (.behind (nd 1 (lineS X.l p) ⟨#[]⟩ tk.k (wrap64 (-tk.n)) tk.t .nil)) (nextS (nextS p)) = some r from hr)
      clear hr
      obtain ⟨n1, p1⟩ := r
      obtain ⟨wa, hwa⟩ : ∃ wa, wa = (w).alloc (.cells #[.int .i64 0, .int .i64 0, .string ⟨#[]⟩, .int .i64 0, .int .i64 0, .string ⟨#[]⟩, .slice none 0 0, .slice none 0 0] 31) := ⟨_, rfl⟩
      have HMa := Lib.hid (show Mvd w wa X p by rw [hwa]; exact ((Mvd.of hst).alloc _))
      have hsa : wa.heap.size = w.heap.size + 1 := by rw [hwa]; simp
      have HZr := Lib.hid (show zN wa w.heap.size by rw [hwa]; exact (zN.new w))
      have HWA := Lib.hid hwa
      clear hwa
      go_enter Tryz.func146, Tryz.ntmps146
      go_wp2_with fail
      rw [← HWA.out]
      refine (line_t HMa.out.st).mono ?_
      rintro e1 w1 ⟨rfl, hm1⟩
      have HM1 := Lib.hid (HMa.out.trans hm1)
      have hs1 := hm1.grown.size
      have HBr1 := Lib.hid (NdB.grown HZr.out hm1.grown (show X.P < w.heap.size by omega))
      clear hm1
      go_wp2_with fail
      refine (is_t HM1.out.st (s := ⟨#[45]⟩) (L := [45]) rfl HB.out).mono ?_
      rintro e2 w2 ⟨rfl, hm2⟩
      have HM2 := Lib.hid (HM1.out.trans hm2)
      have hs2 := hm2.grown.size
      have HBr2 := Lib.hid (NdB.grown HBr1.out hm2.grown (show X.P < w.heap.size by omega))
      clear hm2
      obtain ⟨ev, hP, hE⟩ := HM2.out.st.at_
      have c1 := hP.c1
      clear hP hE
      go_wp2_with fail
      refine (integer_at (p.pos + 1) HM2.out.st HI.out (by omega)).mono ?_
      rintro e3 w3 ⟨rfl, rfl⟩
      clear c1
      obtain ⟨ev, hP, hE⟩ := HM2.out.st.at_
      obtain ⟨g, sa, sc, hA, hg, _, _, _, t3, t4, t5, t6⟩ := HM2.out.st.tok HT.out
      have c0 := hP.c0
      rw [hA] at c0
      have c1 := hP.c1
      have q1 : IntKind.i64.wrap ((p.pos : Int) + 1) = (p.pos : Int) + 1 := IntWalk.i64_in _ ⟨by omega, by omega⟩
      have q2 : (0 : Int) ≤ (p.pos : Int) + 1 := by omega
      have q3 : (p.pos : Int) + 1 < (X.l.length : Int) := by omega
      have q4 : ((p.pos : Int) + 1).toNat = p.pos + 1 := by omega
      clear hP hE hA
      go_wp2_with fail
      go_region_held3 (fun W' => W'.cell? ⟨X.P, 0, none⟩ = some (.slice (some ⟨g, 0, none⟩) X.l.length X.c) ∧ W'.cell? ⟨X.P, 1, none⟩ = some (.int .i64 p.pos) ∧ W'.cell? ⟨g, (p.pos + 1) * 7 + 3, none⟩ = some (.int .i64 tk.k) ∧ W'.cell? ⟨g, (p.pos + 1) * 7 + 4, none⟩ = some (.int .i64 tk.n) ∧ W'.cell? ⟨g, (p.pos + 1) * 7 + 5, none⟩ = some (.string tk.t) ∧ W'.cell? ⟨g, (p.pos + 1) * 7 + 6, none⟩ = some (.slice sa 0 sc)) (first | assumption | exact ⟨c0, c1, t3, t4, t5, t6⟩ | go_keep) (fail)
      clear c0 c1 t3 t4 t5 t6 q1 q2 q3 q4
      obtain ⟨w4, hw4⟩ : ∃ w4, w4 = (w2.alloc (.cells #[.int .i64 1, .int .i64 (lineS X.l p), .string ⟨#[]⟩, .int .i64 tk.k, .int .i64 tk.n, .string tk.t, .slice sa 0 sc, .slice none 0 0] 31)).drew := ⟨_, rfl⟩
      have hb4 : Below w2.heap.size w2 w4 := by rw [hw4]; exact ((Below.refl _ _).alloc (Nat.le_refl _) _).drew
      have HBn4 := Lib.hid (show NdB w4 w2.heap.size (.int .i64 1) (.int .i64 (lineS X.l p)) (.string ⟨#[]⟩) (.int .i64 tk.k) (.int .i64 tk.n) (.string tk.t) (.slice sa 0 sc) (.slice none 0 0) by rw [hw4]; exact NdB.new _ _ _ _ _ _ _ _ _)
      have hs4 : w4.heap.size = w2.heap.size + 1 := by rw [hw4]; show (w2.alloc _).heap.size = _; simp
      have HM4 := Lib.hid (HM2.out.below hb4)
      have HBr4 := Lib.hid (HBr2.out.below' hb4)
      have HW4 := Lib.hid hw4
      clear hw4 hb4
      rw [← HW4.out]
      have c1_0 := HBn4.out.c0
      have f1_0 := HBn4.out.fr 0
      have c1_1 := HBn4.out.c1
      have f1_1 := HBn4.out.fr 1
      have c1_2 := HBn4.out.c2
      have f1_2 := HBn4.out.fr 2
      have c1_3 := HBn4.out.c3
      have f1_3 := HBn4.out.fr 3
      have c1_4 := HBn4.out.c4
      have f1_4 := HBn4.out.fr 4
      have c1_5 := HBn4.out.c5
      have f1_5 := HBn4.out.fr 5
      have c1_6 := HBn4.out.c6
      have f1_6 := HBn4.out.fr 6
      have c1_7 := HBn4.out.c7
      have f1_7 := HBn4.out.fr 7
      obtain ⟨ev, hP, hE⟩ := HM4.out.st.at_
      have c1 := hP.c1
      have f1 := hP.fr 1
      clear hP hE
      have hne1 : X.P ≠ w2.heap.size := by omega
      have hne2 : w2.heap.size ≠ X.P := by omega
      go_wp2_with fail
      obtain ⟨w5, hw5⟩ : ∃ W, W = (w4.setCell ⟨w2.heap.size, 4, none⟩ (.int .i64 (wrap64 (-tk.n)))) := ⟨_, rfl⟩
      have hg5 : w4.grownBy w5 (some w2.heap.size) := by rw [hw5]; exact only_set1 _ _ _ _
      have hs5 := hg5.size
      have HM5 := Lib.hid (HM4.out.node HBn4.out (by omega) (by omega) hg5)
      have HBr5 := Lib.hid (HBr4.out.apart hg5 (by omega))
      have HBn5 := Lib.hid (show NdB w5 w2.heap.size (.int .i64 1) (.int .i64 (lineS X.l p)) (.string ⟨#[]⟩) (.int .i64 tk.k) (.int .i64 (wrap64 (-tk.n))) (.string tk.t) (.slice sa 0 sc) (.slice none 0 0) by rw [hw5]; exact HBn4.out.set4 _)
      have HW5 := Lib.hid hw5
      clear hw5 hg5
      have HMn6 := Lib.hid (HM5.out.jump 2 (by omega))
      obtain ⟨w6, hw6⟩ : ∃ W, W = w5.setCell ⟨X.P, 1, none⟩ (.int .i64 ((p.pos : Int) + 2)) := ⟨_, rfl⟩
      have hg6 : w5.grownBy w6 (some X.P) := by rw [hw6]; exact only_set1 _ _ _ _
      have HM6 := Lib.hid (show Mvd w w6 X (nextS (nextS p)) by rw [hw6]; exact HMn6.out)
      have hs6 := hg6.size
      have HBr6 := Lib.hid (NdB.grown HBr5.out hg6 (show X.P < w.heap.size by omega))
      have HBn6 := Lib.hid (NdB.grown HBn5.out hg6 (show X.P < w2.heap.size by omega))
      have HW6 := Lib.hid hw6
      clear hw6 hg6 HMn6
      rw [← HW5.out, ← HW6.out]
      have HOn0 := Lib.hid (OwnN.nil w6 (DG wa.heap.size 0))
      have HKL := Lib.hid (okN_leaf (op := 1) (ln := lineS X.l p) (s := ⟨#[]⟩) (k := tk.k) (n := wrap64 (-tk.n)) (t := tk.t) (by decide) (by decide))
      refine (IH.out.behind F (Nat.le_refl _) 1 (lineS X.l p) ⟨#[]⟩ tk.k (wrap64 (-tk.n)) tk.t sa sc (.slice none 0 0) .nil (DG wa.heap.size 0) w6 _ _ HM6.out.st (by first | omega | (simp <;> omega)) (by first | omega | (simp <;> omega)) HOn0.out (fun k hk => by have := hk.1; omega) (fun k hk => ⟨by omega, by omega⟩) HKL.out (Nat.zero_le _) HQ1.out).mono ?_
      rintro e7 w7 ⟨op7, ln7, t7, k7, m7, u7, va7, vc7, V7, sub7, hn7, rfl, hm7, ho7, hk7, hl7, hd7⟩
      obtain ⟨A7, cc7, rfl⟩ := ho7.form
      have hn7 : n1 = nd op7 ln7 t7 k7 m7 u7 sub7 := hn7
      subst hn7
      have hk7 := Lib.hid hk7
      have hd7 : p1.deep = p.deep + 0 := by have h : p1.deep = (nextS (nextS p)).deep := hd7; (try simp at h); omega
      have HM7 := Lib.hid (HM6.out.trans hm7)
      have hs7 := hm7.grown.size
      have HBr7 := Lib.hid (NdB.grown HBr6.out hm7.grown (show X.P < w.heap.size by omega))
      have HBn7 := Lib.hid (NdB.grown HBn6.out hm7.grown (show X.P < w2.heap.size by omega))
      have HO7 := Lib.hid ho7
      clear hm7 ho7
      unfold nd8
      have c2_0 := HBr7.out.c0
      have f2_0 := HBr7.out.fr 0
      have c2_1 := HBr7.out.c1
      have f2_1 := HBr7.out.fr 1
      have c2_2 := HBr7.out.c2
      have f2_2 := HBr7.out.fr 2
      have c2_3 := HBr7.out.c3
      have f2_3 := HBr7.out.fr 3
      have c2_4 := HBr7.out.c4
      have f2_4 := HBr7.out.fr 4
      have c2_5 := HBr7.out.c5
      have f2_5 := HBr7.out.fr 5
      have c2_6 := HBr7.out.c6
      have f2_6 := HBr7.out.fr 6
      have c2_7 := HBr7.out.c7
      have f2_7 := HBr7.out.fr 7
      go_wp2_with fail
      have HRR := Lib.hid (rfl : (nd op7 ln7 t7 k7 m7 u7 sub7, p1) = (nd op7 ln7 t7 k7 m7 u7 sub7, p1))
      refine ret_cell8 Tryz.results146 w.heap.size rfl rfl (HBr7.out.set8 _ _ _ _ _ _ _ _) ?_
      exact PNd.mk op7 ln7 t7 k7 m7 u7 va7 vc7 _ sub7 _ HRR.out (HM7.out.node HBr7.out (by omega) (by omega) (only_set8 _ _ _ _ _ _ _ _ _ _)) (own_end HO7.out (by omega) (only_set8 _ _ _ _ _ _ _ _ _ _) (by omega)) hk7.out (by omega) (by first | omega | (simp <;> omega))
    | false =>
      rw [hi] at hr
      have HI := Lib.hid hi
      clear hi
      replace hr : (if (downS (nextS p)).err.isNone then (prsR X.l F .one (downS (nextS p))).bind fun (x, p1) => some (ndL 3 (lineS X.l p) x, upS p1) else some (ndL 3 (lineS X.l p) .nil, upS (downS (nextS p)))) = some r := hr
      cases hd : (downS (nextS p)).err.isNone with
      | false =>
        rw [hd] at hr
        have HD := Lib.hid hd
        clear hd
        replace hr : some (ndL 3 (lineS X.l p) .nil, upS (downS (nextS p))) = some r := hr
        have HRR := Lib.hid (show r = (ndL 3 (lineS X.l p) .nil, upS (downS (nextS p))) from (Option.some.inj hr).symm)
        clear hr
        obtain ⟨wa, hwa⟩ : ∃ wa, wa = (w).alloc (.cells #[.int .i64 0, .int .i64 0, .string ⟨#[]⟩, .int .i64 0, .int .i64 0, .string ⟨#[]⟩, .slice none 0 0, .slice none 0 0] 31) := ⟨_, rfl⟩
        have HMa := Lib.hid (show Mvd w wa X p by rw [hwa]; exact ((Mvd.of hst).alloc _))
        have hsa : wa.heap.size = w.heap.size + 1 := by rw [hwa]; simp
        have HZr := Lib.hid (show zN wa w.heap.size by rw [hwa]; exact (zN.new w))
        have HWA := Lib.hid hwa
        clear hwa
        go_enter Tryz.func146, Tryz.ntmps146
        go_wp2_with fail
        rw [← HWA.out]
        refine (line_t HMa.out.st).mono ?_
        rintro e1 w1 ⟨rfl, hm1⟩
        have HM1 := Lib.hid (HMa.out.trans hm1)
        have hs1 := hm1.grown.size
        have HBr1 := Lib.hid (NdB.grown HZr.out hm1.grown (show X.P < w.heap.size by omega))
        clear hm1
        go_wp2_with fail
        refine (is_t HM1.out.st (s := ⟨#[45]⟩) (L := [45]) rfl HB.out).mono ?_
        rintro e2 w2 ⟨rfl, hm2⟩
        have HM2 := Lib.hid (HM1.out.trans hm2)
        have hs2 := hm2.grown.size
        have HBr2 := Lib.hid (NdB.grown HBr1.out hm2.grown (show X.P < w.heap.size by omega))
        clear hm2
        obtain ⟨ev, hP, hE⟩ := HM2.out.st.at_
        have c1 := hP.c1
        clear hP hE
        go_wp2_with fail
        refine (integer_at (p.pos + 1) HM2.out.st HI.out (by omega)).mono ?_
        rintro e3 w3 ⟨rfl, rfl⟩
        clear c1
        go_wp2_with fail
        refine (may_t HM2.out.st (s := ⟨#[45]⟩) (L := [45]) rfl HB.out).mono ?_
        rintro e4 w4 ⟨rfl, hm4⟩
        have HM4 := Lib.hid (HM2.out.trans hm4)
        have hs4 := hm4.grown.size
        have HBr4 := Lib.hid (NdB.grown HBr2.out hm4.grown (show X.P < w.heap.size by omega))
        clear hm4
        obtain ⟨w5, hw5⟩ : ∃ w5, w5 = (w4.alloc (.cells #[.int .i64 3, .int .i64 (lineS X.l p), .string ⟨#[]⟩, .int .i64 0, .int .i64 0, .string ⟨#[]⟩, .slice none 0 0, .slice none 0 0] 31)) := ⟨_, rfl⟩
        have hb5 : Below w4.heap.size w4 w5 := by rw [hw5]; exact ((Below.refl _ _).alloc (Nat.le_refl _) _)
        have HBo5 := Lib.hid (show NdB w5 w4.heap.size (.int .i64 3) (.int .i64 (lineS X.l p)) (.string ⟨#[]⟩) (.int .i64 0) (.int .i64 0) (.string ⟨#[]⟩) (.slice none 0 0) (.slice none 0 0) by rw [hw5]; exact NdB.new _ _ _ _ _ _ _ _ _)
        have hs5 : w5.heap.size = w4.heap.size + 1 := by rw [hw5]; simp
        have HM5 := Lib.hid (HM4.out.below hb5)
        have HBr5 := Lib.hid (HBr4.out.below' hb5)
        have HW5 := Lib.hid hw5
        clear hw5 hb5
        go_wp2_with fail
        rw [← HW5.out]
        have HOo0 := Lib.hid (OwnN.nil w5 (DG w5.heap.size w4.heap.size))
        refine (down_f HM5.out.st (by first | omega | (simp <;> omega)) (by first | omega | (simp <;> omega)) HD.out).mono ?_
        rintro e6 w6 ⟨rfl, hm6⟩
        have HM6 := Lib.hid (HM5.out.trans hm6)
        have hs6 := hm6.grown.size
        have HBr6 := Lib.hid (NdB.grown HBr5.out hm6.grown (show X.P < w.heap.size by omega))
        have HBo6 := Lib.hid (NdB.grown HBo5.out hm6.grown (show X.P < w4.heap.size by omega))
        have HOo6 := Lib.hid (OwnN.grown HOo0.out hm6.grown (DG.not (by omega)))
        clear hm6
        go_wp2_with fail
        refine (up_c X _ _ HM6.out.st (by first | omega | (simp <;> omega)) (by first | omega | (simp <;> omega))).mono ?_
        rintro e7 w7 ⟨rfl, hm7⟩
        have HM7 := Lib.hid (HM6.out.trans hm7)
        have hs7 := hm7.grown.size
        have HBr7 := Lib.hid (NdB.grown HBr6.out hm7.grown (show X.P < w.heap.size by omega))
        have HBo7 := Lib.hid (NdB.grown HBo6.out hm7.grown (show X.P < w4.heap.size by omega))
        have HOo7 := Lib.hid (OwnN.grown HOo6.out hm7.grown (DG.not (by omega)))
        clear hm7
        have c1_0 := HBo7.out.c0
        have c1_1 := HBo7.out.c1
        have c1_2 := HBo7.out.c2
        have c1_3 := HBo7.out.c3
        have c1_4 := HBo7.out.c4
        have c1_5 := HBo7.out.c5
        have c1_6 := HBo7.out.c6
        have c1_7 := HBo7.out.c7
        have c2_0 := HBr7.out.c0
        have f2_0 := HBr7.out.fr 0
        have c2_1 := HBr7.out.c1
        have f2_1 := HBr7.out.fr 1
        have c2_2 := HBr7.out.c2
        have f2_2 := HBr7.out.fr 2
        have c2_3 := HBr7.out.c3
        have f2_3 := HBr7.out.fr 3
        have c2_4 := HBr7.out.c4
        have f2_4 := HBr7.out.fr 4
        have c2_5 := HBr7.out.c5
        have f2_5 := HBr7.out.fr 5
        have c2_6 := HBr7.out.c6
        have f2_6 := HBr7.out.fr 6
        have c2_7 := HBr7.out.c7
        have f2_7 := HBr7.out.fr 7
        go_wp2_with fail
        refine ret_cell8 Tryz.results146 w.heap.size rfl rfl (HBr7.out.set8 _ _ _ _ _ _ _ _) ?_
        exact PNd.mk 3 (lineS X.l p) ⟨#[]⟩ 0 0 ⟨#[]⟩ none 0 _ NL.nil _ HRR.out (HM7.out.node HBr7.out (by omega) (by omega) (only_set8 _ _ _ _ _ _ _ _ _ _)) (own_end HOo7.out (by omega) (only_set8 _ _ _ _ _ _ _ _ _ _) (by omega)) (okN_leaf (by decide) (by decide)) (Nat.zero_le _) (by first | omega | (simp <;> omega))
      | true =>
        rw [hd] at hr
        have HD := Lib.hid hd
        have hle := downS_le hd
        simp only [nextS_deep] at hle
        clear hd
        replace hr : ((prsR X.l F .one (downS (nextS p))).bind fun (x, p1) => some (ndL 3 (lineS X.l p) x, upS p1)) = some r := hr
        cases hq1 : prsR X.l F .one (downS (nextS p)) with
        | none => rw [hq1] at hr; cases hr
        | some q1 =>
        obtain ⟨n1, p1⟩ := q1
        rw [hq1] at hr
        replace hr : some (ndL 3 (lineS X.l p) n1, upS p1) = some r := hr
        have HQ1 := Lib.hid hq1
        clear hq1
        have HRR := Lib.hid (show r = (ndL 3 (lineS X.l p) n1, upS p1) from (Option.some.inj hr).symm)
        clear hr
        obtain ⟨wa, hwa⟩ : ∃ wa, wa = (w).alloc (.cells #[.int .i64 0, .int .i64 0, .string ⟨#[]⟩, .int .i64 0, .int .i64 0, .string ⟨#[]⟩, .slice none 0 0, .slice none 0 0] 31) := ⟨_, rfl⟩
        have HMa := Lib.hid (show Mvd w wa X p by rw [hwa]; exact ((Mvd.of hst).alloc _))
        have hsa : wa.heap.size = w.heap.size + 1 := by rw [hwa]; simp
        have HZr := Lib.hid (show zN wa w.heap.size by rw [hwa]; exact (zN.new w))
        have HWA := Lib.hid hwa
        clear hwa
        go_enter Tryz.func146, Tryz.ntmps146
        go_wp2_with fail
        rw [← HWA.out]
        refine (line_t HMa.out.st).mono ?_
        rintro e1 w1 ⟨rfl, hm1⟩
        have HM1 := Lib.hid (HMa.out.trans hm1)
        have hs1 := hm1.grown.size
        have HBr1 := Lib.hid (NdB.grown HZr.out hm1.grown (show X.P < w.heap.size by omega))
        clear hm1
        go_wp2_with fail
        refine (is_t HM1.out.st (s := ⟨#[45]⟩) (L := [45]) rfl HB.out).mono ?_
        rintro e2 w2 ⟨rfl, hm2⟩
        have HM2 := Lib.hid (HM1.out.trans hm2)
        have hs2 := hm2.grown.size
        have HBr2 := Lib.hid (NdB.grown HBr1.out hm2.grown (show X.P < w.heap.size by omega))
        clear hm2
        obtain ⟨ev, hP, hE⟩ := HM2.out.st.at_
        have c1 := hP.c1
        clear hP hE
        go_wp2_with fail
        refine (integer_at (p.pos + 1) HM2.out.st HI.out (by omega)).mono ?_
        rintro e3 w3 ⟨rfl, rfl⟩
        clear c1
        go_wp2_with fail
        refine (may_t HM2.out.st (s := ⟨#[45]⟩) (L := [45]) rfl HB.out).mono ?_
        rintro e4 w4 ⟨rfl, hm4⟩
        have HM4 := Lib.hid (HM2.out.trans hm4)
        have hs4 := hm4.grown.size
        have HBr4 := Lib.hid (NdB.grown HBr2.out hm4.grown (show X.P < w.heap.size by omega))
        clear hm4
        obtain ⟨w5, hw5⟩ : ∃ w5, w5 = (w4.alloc (.cells #[.int .i64 3, .int .i64 (lineS X.l p), .string ⟨#[]⟩, .int .i64 0, .int .i64 0, .string ⟨#[]⟩, .slice none 0 0, .slice none 0 0] 31)) := ⟨_, rfl⟩
        have hb5 : Below w4.heap.size w4 w5 := by rw [hw5]; exact ((Below.refl _ _).alloc (Nat.le_refl _) _)
        have HBo5 := Lib.hid (show NdB w5 w4.heap.size (.int .i64 3) (.int .i64 (lineS X.l p)) (.string ⟨#[]⟩) (.int .i64 0) (.int .i64 0) (.string ⟨#[]⟩) (.slice none 0 0) (.slice none 0 0) by rw [hw5]; exact NdB.new _ _ _ _ _ _ _ _ _)
        have hs5 : w5.heap.size = w4.heap.size + 1 := by rw [hw5]; simp
        have HM5 := Lib.hid (HM4.out.below hb5)
        have HBr5 := Lib.hid (HBr4.out.below' hb5)
        have HW5 := Lib.hid hw5
        clear hw5 hb5
        go_wp2_with fail
        rw [← HW5.out]
        have HOo0 := Lib.hid (OwnN.nil w5 (DG w5.heap.size w4.heap.size))
        refine (down_t HM5.out.st (by first | omega | (simp <;> omega)) (by first | omega | (simp <;> omega)) HD.out).mono ?_
        rintro e6 w6 ⟨rfl, hm6⟩
        have HM6 := Lib.hid (HM5.out.trans hm6)
        have hs6 := hm6.grown.size
        have HBr6 := Lib.hid (NdB.grown HBr5.out hm6.grown (show X.P < w.heap.size by omega))
        have HBo6 := Lib.hid (NdB.grown HBo5.out hm6.grown (show X.P < w4.heap.size by omega))
        have HOo6 := Lib.hid (OwnN.grown HOo0.out hm6.grown (DG.not (by omega)))
        clear hm6
        go_upto_region 15 with fail
        go_cut [] (fun wx7 => AppR X w w6 p1 w5.heap.size w4.heap.size (.int .i64 3) (.int .i64 (lineS X.l p)) (.string ⟨#[]⟩) (.int .i64 0) (.int .i64 0) (.string ⟨#[]⟩) (.slice none 0 0) NL.nil n1 1 (p.deep + 1) wx7)
        case first =>
          have c7 := HBo6.out.c7
          have vlt := Lib.hid (fun g (hg : (.slice none 0 0 : Value).ownBlock = some g) => (HOo6.out.ge g hg).2)
          have EXC := Lib.hid (fun W (hW : PSt W X (downS (nextS p))) => IH.out.one F (Nat.le_refl _) W _ _ hW (by first | omega | (simp <;> omega)) (by first | omega | (simp <;> omega)) HQ1.out)
          have HSD := Lib.hid (show PSt w6.drew X (downS (nextS p)) from HM6.out.st.below (Below.drew (Below.refl _ _)))
          have HMD := Lib.hid (show Mvd w w6.drew X (downS (nextS p)) from HM6.out.drew)
          go_region_law
            (first
              | (refine step_app_nodes (by rfl) (.tmp 67) (.tmp 70) 29 (by rfl) Tryz.underlying29 hi0 hz0 hz1 hz2 (by rfl) (by rfl) APP.out.1 (by rfl) (by rfl) APP.out.2 (fun e => by cases e) (by first | (simp only [len_nd]; omega) | (simp only [NL.len_app, len_nd]; omega) | (simp only [len_nd, NL.len]; omega) | (simp only [NL.len_app, len_nd, NL.len]; omega)) (by refine ⟨?_, ?_⟩ <;> (rw [World.size_alloc]; omega)) ?_
                 intro A9 c9 w9 hown9 hg9 hob9
                 have k7 : w9.cell? ⟨w4.heap.size, 7, none⟩ = some (.slice none 0 0) := ((HN.out.alloc _).app hg9 (fun e => (HO.out.ge _ e).1.2 rfl)).c7
                 have j7 : w9.frozen? ⟨w4.heap.size, 7, none⟩ = false := ((HN.out.alloc _).app hg9 (fun e => (HO.out.ge _ e).1.2 rfl)).fr 7)
              | (go_simp; go_at_call 146; refine (EXC.out _ HSD.out).mono ?_
                 rintro e9 w8 ⟨op, ln, t, k, m, u, va, vc, V, sub, hn, rfl, hm, ho, hk, hl, hd⟩
                 obtain ⟨A8, c8, rfl⟩ := ho.form
                 have hn' : n1 = nd op ln t k m u sub := hn
                 have HK := Lib.hid (show okN n1 ∧ (n1).len ≤ 1 from ⟨hk, by rw [hn', len_nd]; exact Nat.le_refl _⟩)
                 have HNN := Lib.hid hn'
                 have HDD := Lib.hid (show p1.deep = p.deep + 1 by have h : p1.deep = (downS (nextS p)).deep := hd; (try simp at h); omega)
                 have HG := Lib.hid (show w6.grownBy w8 (some X.P) from ⟨hm.grown.os, hm.grown.tape, hm.grown.output, hm.grown.size, hm.grown.block⟩)
                 have HM := Lib.hid (HMD.out.trans hm)
                 have hs8 : w6.heap.size ≤ w8.heap.size := hm.grown.size
                 have HN := Lib.hid (NdB.grown (w := w6) HBo6.out HG.out (show X.P < w4.heap.size by omega))
                 have HO := Lib.hid (OwnN.grown (w := w6) HOo6.out HG.out (DG.not (by omega)))
                 have APP := Lib.hid (app_at HO.out ho op ln t k m u va vc (by show _ ≤ w6.heap.size; omega) (by show _ < w6.heap.size; omega) (by show w6.heap.size ≤ _; omega) vlt.out)
                 have c7_8 := HN.out.c7
                 have c7_9 := fun o => cellA c7_8 o
                 clear hn hn' hm ho hk hl hd
                 unfold nd8))
          all_goals
            go_wp2_with fail
            go_meet
            exact app_rel HG.out HM.out HN.out HO.out (by omega) (by omega) (by omega) (by omega) (by rw [HNN.out]; exact hown9) hg9 HK.out.2 HK.out.1 HDD.out
        case rest =>
          obtain ⟨V7, hm7, hd7, hn7, ho7, hx7, hk7, hs7, hf7⟩ := hcut
          replace ho7 : OwnN wc (DG w5.heap.size w4.heap.size) V7 n1 := ho7
          obtain ⟨A7, c7, rfl⟩ := ho7.form
          have HM7 := Lib.hid hm7
          have HBo7 := Lib.hid hn7
          have HOo7 := Lib.hid ho7
          have HX7 := Lib.hid hk7
          have HBr7 := Lib.hid (hf7 _ _ _ _ _ _ _ _ _ (by omega) (by omega) (by omega) HBr6.out)
          clear hm7 hn7 ho7 hk7 hf7
          go_wp2_with fail
          refine (up_c X _ _ HM7.out.st (by first | omega | (simp <;> omega)) (by first | omega | (simp <;> omega))).mono ?_
          rintro e8 w8 ⟨rfl, hm8⟩
          have HM8 := Lib.hid (HM7.out.trans hm8)
          have hs8 := hm8.grown.size
          have HBr8 := Lib.hid (NdB.grown HBr7.out hm8.grown (show X.P < w.heap.size by omega))
          have HBo8 := Lib.hid (NdB.grown HBo7.out hm8.grown (show X.P < w4.heap.size by omega))
          have HOo8 := Lib.hid (OwnN.grown HOo7.out hm8.grown (DG.not (by omega)))
          clear hm8
          have c1_0 := HBo8.out.c0
          have c1_1 := HBo8.out.c1
          have c1_2 := HBo8.out.c2
          have c1_3 := HBo8.out.c3
          have c1_4 := HBo8.out.c4
          have c1_5 := HBo8.out.c5
          have c1_6 := HBo8.out.c6
          have c1_7 := HBo8.out.c7
          have c2_0 := HBr8.out.c0
          have f2_0 := HBr8.out.fr 0
          have c2_1 := HBr8.out.c1
          have f2_1 := HBr8.out.fr 1
          have c2_2 := HBr8.out.c2
          have f2_2 := HBr8.out.fr 2
          have c2_3 := HBr8.out.c3
          have f2_3 := HBr8.out.fr 3
          have c2_4 := HBr8.out.c4
          have f2_4 := HBr8.out.fr 4
          have c2_5 := HBr8.out.c5
          have f2_5 := HBr8.out.fr 5
          have c2_6 := HBr8.out.c6
          have f2_6 := HBr8.out.fr 6
          have c2_7 := HBr8.out.c7
          have f2_7 := HBr8.out.fr 7
          go_wp2_with fail
          refine ret_cell8 Tryz.results146 w.heap.size rfl rfl (HBr8.out.set8 _ _ _ _ _ _ _ _) ?_
          exact PNd.mk 3 (lineS X.l p) ⟨#[]⟩ 0 0 ⟨#[]⟩ none 0 _ n1 _ HRR.out (HM8.out.node HBr8.out (by omega) (by omega) (only_set8 _ _ _ _ _ _ _ _ _ _)) (own_end HOo8.out (by omega) (only_set8 _ _ _ _ _ _ _ _ _ _) (by omega)) (okN_nd HX7.out (fun h => by rcases h with h | h <;> cases h)) (by omega) (by first | omega | (simp <;> omega))
  | false =>
    rw [hb] at hr
    clear hlt0
    have HB := Lib.hid hb
    clear hb
    cases hx : isS X.l p [33] with
    | true =>
      rw [hx] at hr
      have HX := Lib.hid hx
      clear hx
      replace hr : (if (downS (nextS p)).err.isNone then (prsR X.l F .one (downS (nextS p))).bind fun (x, p1) => some (ndL 4 (lineS X.l p) x, upS p1) else some (ndL 4 (lineS X.l p) .nil, upS (downS (nextS p)))) = some r := hr
      cases hd : (downS (nextS p)).err.isNone with
      | false =>
        rw [hd] at hr
        have HD := Lib.hid hd
        clear hd
        replace hr : some (ndL 4 (lineS X.l p) .nil, upS (downS (nextS p))) = some r := hr
        have HRR := Lib.hid (show r = (ndL 4 (lineS X.l p) .nil, upS (downS (nextS p))) from (Option.some.inj hr).symm)
        clear hr
        obtain ⟨wa, hwa⟩ : ∃ wa, wa = (w).alloc (.cells #[.int .i64 0, .int .i64 0, .string ⟨#[]⟩, .int .i64 0, .int .i64 0, .string ⟨#[]⟩, .slice none 0 0, .slice none 0 0] 31) := ⟨_, rfl⟩
        have HMa := Lib.hid (show Mvd w wa X p by rw [hwa]; exact ((Mvd.of hst).alloc _))
        have hsa : wa.heap.size = w.heap.size + 1 := by rw [hwa]; simp
        have HZr := Lib.hid (show zN wa w.heap.size by rw [hwa]; exact (zN.new w))
        have HWA := Lib.hid hwa
        clear hwa
        go_enter Tryz.func146, Tryz.ntmps146
        go_wp2_with fail
        rw [← HWA.out]
        refine (line_t HMa.out.st).mono ?_
        rintro e1 w1 ⟨rfl, hm1⟩
        have HM1 := Lib.hid (HMa.out.trans hm1)
        have hs1 := hm1.grown.size
        have HBr1 := Lib.hid (NdB.grown HZr.out hm1.grown (show X.P < w.heap.size by omega))
        clear hm1
        go_wp2_with fail
        refine (is_f HM1.out.st (s := ⟨#[45]⟩) (L := [45]) rfl HB.out).mono ?_
        rintro e2 w2 ⟨rfl, hm2⟩
        have HM2 := Lib.hid (HM1.out.trans hm2)
        have hs2 := hm2.grown.size
        have HBr2 := Lib.hid (NdB.grown HBr1.out hm2.grown (show X.P < w.heap.size by omega))
        clear hm2
        go_wp2_with fail
        refine (may_f HM2.out.st (s := ⟨#[45]⟩) (L := [45]) rfl HB.out).mono ?_
        rintro e3 w3 ⟨rfl, hm3⟩
        have HM3 := Lib.hid (HM2.out.trans hm3)
        have hs3 := hm3.grown.size
        have HBr3 := Lib.hid (NdB.grown HBr2.out hm3.grown (show X.P < w.heap.size by omega))
        clear hm3
        go_wp2_with fail
        refine (may_t HM3.out.st (s := ⟨#[33]⟩) (L := [33]) rfl HX.out).mono ?_
        rintro e4 w4 ⟨rfl, hm4⟩
        have HM4 := Lib.hid (HM3.out.trans hm4)
        have hs4 := hm4.grown.size
        have HBr4 := Lib.hid (NdB.grown HBr3.out hm4.grown (show X.P < w.heap.size by omega))
        clear hm4
        obtain ⟨w5, hw5⟩ : ∃ w5, w5 = (w4.alloc (.cells #[.int .i64 4, .int .i64 (lineS X.l p), .string ⟨#[]⟩, .int .i64 0, .int .i64 0, .string ⟨#[]⟩, .slice none 0 0, .slice none 0 0] 31)) := ⟨_, rfl⟩
        have hb5 : Below w4.heap.size w4 w5 := by rw [hw5]; exact ((Below.refl _ _).alloc (Nat.le_refl _) _)
        have HBo5 := Lib.hid (show NdB w5 w4.heap.size (.int .i64 4) (.int .i64 (lineS X.l p)) (.string ⟨#[]⟩) (.int .i64 0) (.int .i64 0) (.string ⟨#[]⟩) (.slice none 0 0) (.slice none 0 0) by rw [hw5]; exact NdB.new _ _ _ _ _ _ _ _ _)
        have hs5 : w5.heap.size = w4.heap.size + 1 := by rw [hw5]; simp
        have HM5 := Lib.hid (HM4.out.below hb5)
        have HBr5 := Lib.hid (HBr4.out.below' hb5)
        have HW5 := Lib.hid hw5
        clear hw5 hb5
        go_wp2_with fail
        rw [← HW5.out]
        have HOo0 := Lib.hid (OwnN.nil w5 (DG w5.heap.size w4.heap.size))
        refine (down_f HM5.out.st (by first | omega | (simp <;> omega)) (by first | omega | (simp <;> omega)) HD.out).mono ?_
        rintro e6 w6 ⟨rfl, hm6⟩
        have HM6 := Lib.hid (HM5.out.trans hm6)
        have hs6 := hm6.grown.size
        have HBr6 := Lib.hid (NdB.grown HBr5.out hm6.grown (show X.P < w.heap.size by omega))
        have HBo6 := Lib.hid (NdB.grown HBo5.out hm6.grown (show X.P < w4.heap.size by omega))
        have HOo6 := Lib.hid (OwnN.grown HOo0.out hm6.grown (DG.not (by omega)))
        clear hm6
        go_wp2_with fail
        refine (up_c X _ _ HM6.out.st (by first | omega | (simp <;> omega)) (by first | omega | (simp <;> omega))).mono ?_
        rintro e7 w7 ⟨rfl, hm7⟩
        have HM7 := Lib.hid (HM6.out.trans hm7)
        have hs7 := hm7.grown.size
        have HBr7 := Lib.hid (NdB.grown HBr6.out hm7.grown (show X.P < w.heap.size by omega))
        have HBo7 := Lib.hid (NdB.grown HBo6.out hm7.grown (show X.P < w4.heap.size by omega))
        have HOo7 := Lib.hid (OwnN.grown HOo6.out hm7.grown (DG.not (by omega)))
        clear hm7
        have c1_0 := HBo7.out.c0
        have c1_1 := HBo7.out.c1
        have c1_2 := HBo7.out.c2
        have c1_3 := HBo7.out.c3
        have c1_4 := HBo7.out.c4
        have c1_5 := HBo7.out.c5
        have c1_6 := HBo7.out.c6
        have c1_7 := HBo7.out.c7
        have c2_0 := HBr7.out.c0
        have f2_0 := HBr7.out.fr 0
        have c2_1 := HBr7.out.c1
        have f2_1 := HBr7.out.fr 1
        have c2_2 := HBr7.out.c2
        have f2_2 := HBr7.out.fr 2
        have c2_3 := HBr7.out.c3
        have f2_3 := HBr7.out.fr 3
        have c2_4 := HBr7.out.c4
        have f2_4 := HBr7.out.fr 4
        have c2_5 := HBr7.out.c5
        have f2_5 := HBr7.out.fr 5
        have c2_6 := HBr7.out.c6
        have f2_6 := HBr7.out.fr 6
        have c2_7 := HBr7.out.c7
        have f2_7 := HBr7.out.fr 7
        go_wp2_with fail
        refine ret_cell8 Tryz.results146 w.heap.size rfl rfl (HBr7.out.set8 _ _ _ _ _ _ _ _) ?_
        exact PNd.mk 4 (lineS X.l p) ⟨#[]⟩ 0 0 ⟨#[]⟩ none 0 _ NL.nil _ HRR.out (HM7.out.node HBr7.out (by omega) (by omega) (only_set8 _ _ _ _ _ _ _ _ _ _)) (own_end HOo7.out (by omega) (only_set8 _ _ _ _ _ _ _ _ _ _) (by omega)) (okN_leaf (by decide) (by decide)) (Nat.zero_le _) (by first | omega | (simp <;> omega))
      | true =>
        rw [hd] at hr
        have HD := Lib.hid hd
        have hle := downS_le hd
        simp only [nextS_deep] at hle
        clear hd
        replace hr : ((prsR X.l F .one (downS (nextS p))).bind fun (x, p1) => some (ndL 4 (lineS X.l p) x, upS p1)) = some r := hr
        cases hq1 : prsR X.l F .one (downS (nextS p)) with
        | none => rw [hq1] at hr; cases hr
        | some q1 =>
        obtain ⟨n1, p1⟩ := q1
        rw [hq1] at hr
        replace hr : some (ndL 4 (lineS X.l p) n1, upS p1) = some r := hr
        have HQ1 := Lib.hid hq1
        clear hq1
        have HRR := Lib.hid (show r = (ndL 4 (lineS X.l p) n1, upS p1) from (Option.some.inj hr).symm)
        clear hr
        obtain ⟨wa, hwa⟩ : ∃ wa, wa = (w).alloc (.cells #[.int .i64 0, .int .i64 0, .string ⟨#[]⟩, .int .i64 0, .int .i64 0, .string ⟨#[]⟩, .slice none 0 0, .slice none 0 0] 31) := ⟨_, rfl⟩
        have HMa := Lib.hid (show Mvd w wa X p by rw [hwa]; exact ((Mvd.of hst).alloc _))
        have hsa : wa.heap.size = w.heap.size + 1 := by rw [hwa]; simp
        have HZr := Lib.hid (show zN wa w.heap.size by rw [hwa]; exact (zN.new w))
        have HWA := Lib.hid hwa
        clear hwa
        go_enter Tryz.func146, Tryz.ntmps146
        go_wp2_with fail
        rw [← HWA.out]
        refine (line_t HMa.out.st).mono ?_
        rintro e1 w1 ⟨rfl, hm1⟩
        have HM1 := Lib.hid (HMa.out.trans hm1)
        have hs1 := hm1.grown.size
        have HBr1 := Lib.hid (NdB.grown HZr.out hm1.grown (show X.P < w.heap.size by omega))
        clear hm1
        go_wp2_with fail
        refine (is_f HM1.out.st (s := ⟨#[45]⟩) (L := [45]) rfl HB.out).mono ?_
        rintro e2 w2 ⟨rfl, hm2⟩
        have HM2 := Lib.hid (HM1.out.trans hm2)
        have hs2 := hm2.grown.size
        have HBr2 := Lib.hid (NdB.grown HBr1.out hm2.grown (show X.P < w.heap.size by omega))
        clear hm2
        go_wp2_with fail
        refine (may_f HM2.out.st (s := ⟨#[45]⟩) (L := [45]) rfl HB.out).mono ?_
        rintro e3 w3 ⟨rfl, hm3⟩
        have HM3 := Lib.hid (HM2.out.trans hm3)
        have hs3 := hm3.grown.size
        have HBr3 := Lib.hid (NdB.grown HBr2.out hm3.grown (show X.P < w.heap.size by omega))
        clear hm3
        go_wp2_with fail
        refine (may_t HM3.out.st (s := ⟨#[33]⟩) (L := [33]) rfl HX.out).mono ?_
        rintro e4 w4 ⟨rfl, hm4⟩
        have HM4 := Lib.hid (HM3.out.trans hm4)
        have hs4 := hm4.grown.size
        have HBr4 := Lib.hid (NdB.grown HBr3.out hm4.grown (show X.P < w.heap.size by omega))
        clear hm4
        obtain ⟨w5, hw5⟩ : ∃ w5, w5 = (w4.alloc (.cells #[.int .i64 4, .int .i64 (lineS X.l p), .string ⟨#[]⟩, .int .i64 0, .int .i64 0, .string ⟨#[]⟩, .slice none 0 0, .slice none 0 0] 31)) := ⟨_, rfl⟩
        have hb5 : Below w4.heap.size w4 w5 := by rw [hw5]; exact ((Below.refl _ _).alloc (Nat.le_refl _) _)
        have HBo5 := Lib.hid (show NdB w5 w4.heap.size (.int .i64 4) (.int .i64 (lineS X.l p)) (.string ⟨#[]⟩) (.int .i64 0) (.int .i64 0) (.string ⟨#[]⟩) (.slice none 0 0) (.slice none 0 0) by rw [hw5]; exact NdB.new _ _ _ _ _ _ _ _ _)
        have hs5 : w5.heap.size = w4.heap.size + 1 := by rw [hw5]; simp
        have HM5 := Lib.hid (HM4.out.below hb5)
        have HBr5 := Lib.hid (HBr4.out.below' hb5)
        have HW5 := Lib.hid hw5
        clear hw5 hb5
        go_wp2_with fail
        rw [← HW5.out]
        have HOo0 := Lib.hid (OwnN.nil w5 (DG w5.heap.size w4.heap.size))
        refine (down_t HM5.out.st (by first | omega | (simp <;> omega)) (by first | omega | (simp <;> omega)) HD.out).mono ?_
        rintro e6 w6 ⟨rfl, hm6⟩
        have HM6 := Lib.hid (HM5.out.trans hm6)
        have hs6 := hm6.grown.size
        have HBr6 := Lib.hid (NdB.grown HBr5.out hm6.grown (show X.P < w.heap.size by omega))
        have HBo6 := Lib.hid (NdB.grown HBo5.out hm6.grown (show X.P < w4.heap.size by omega))
        have HOo6 := Lib.hid (OwnN.grown HOo0.out hm6.grown (DG.not (by omega)))
        clear hm6
        go_upto_region 15 with fail
        go_cut [] (fun wx7 => AppR X w w6 p1 w5.heap.size w4.heap.size (.int .i64 4) (.int .i64 (lineS X.l p)) (.string ⟨#[]⟩) (.int .i64 0) (.int .i64 0) (.string ⟨#[]⟩) (.slice none 0 0) NL.nil n1 1 (p.deep + 1) wx7)
        case first =>
          have c7 := HBo6.out.c7
          have vlt := Lib.hid (fun g (hg : (.slice none 0 0 : Value).ownBlock = some g) => (HOo6.out.ge g hg).2)
          have EXC := Lib.hid (fun W (hW : PSt W X (downS (nextS p))) => IH.out.one F (Nat.le_refl _) W _ _ hW (by first | omega | (simp <;> omega)) (by first | omega | (simp <;> omega)) HQ1.out)
          have HSD := Lib.hid (show PSt w6.drew X (downS (nextS p)) from HM6.out.st.below (Below.drew (Below.refl _ _)))
          have HMD := Lib.hid (show Mvd w w6.drew X (downS (nextS p)) from HM6.out.drew)
          go_region_law
            (first
              | (refine step_app_nodes (by rfl) (.tmp 67) (.tmp 70) 29 (by rfl) Tryz.underlying29 hi0 hz0 hz1 hz2 (by rfl) (by rfl) APP.out.1 (by rfl) (by rfl) APP.out.2 (fun e => by cases e) (by first | (simp only [len_nd]; omega) | (simp only [NL.len_app, len_nd]; omega) | (simp only [len_nd, NL.len]; omega) | (simp only [NL.len_app, len_nd, NL.len]; omega)) (by refine ⟨?_, ?_⟩ <;> (rw [World.size_alloc]; omega)) ?_
                 intro A9 c9 w9 hown9 hg9 hob9
                 have k7 : w9.cell? ⟨w4.heap.size, 7, none⟩ = some (.slice none 0 0) := ((HN.out.alloc _).app hg9 (fun e => (HO.out.ge _ e).1.2 rfl)).c7
                 have j7 : w9.frozen? ⟨w4.heap.size, 7, none⟩ = false := ((HN.out.alloc _).app hg9 (fun e => (HO.out.ge _ e).1.2 rfl)).fr 7)
              | (go_simp; go_at_call 146; refine (EXC.out _ HSD.out).mono ?_
                 rintro e9 w8 ⟨op, ln, t, k, m, u, va, vc, V, sub, hn, rfl, hm, ho, hk, hl, hd⟩
                 obtain ⟨A8, c8, rfl⟩ := ho.form
                 have hn' : n1 = nd op ln t k m u sub := hn
                 have HK := Lib.hid (show okN n1 ∧ (n1).len ≤ 1 from ⟨hk, by rw [hn', len_nd]; exact Nat.le_refl _⟩)
                 have HNN := Lib.hid hn'
                 have HDD := Lib.hid (show p1.deep = p.deep + 1 by have h : p1.deep = (downS (nextS p)).deep := hd; (try simp at h); omega)
                 have HG := Lib.hid (show w6.grownBy w8 (some X.P) from ⟨hm.grown.os, hm.grown.tape, hm.grown.output, hm.grown.size, hm.grown.block⟩)
                 have HM := Lib.hid (HMD.out.trans hm)
                 have hs8 : w6.heap.size ≤ w8.heap.size := hm.grown.size
                 have HN := Lib.hid (NdB.grown (w := w6) HBo6.out HG.out (show X.P < w4.heap.size by omega))
                 have HO := Lib.hid (OwnN.grown (w := w6) HOo6.out HG.out (DG.not (by omega)))
                 have APP := Lib.hid (app_at HO.out ho op ln t k m u va vc (by show _ ≤ w6.heap.size; omega) (by show _ < w6.heap.size; omega) (by show w6.heap.size ≤ _; omega) vlt.out)
                 have c7_8 := HN.out.c7
                 have c7_9 := fun o => cellA c7_8 o
                 clear hn hn' hm ho hk hl hd
                 unfold nd8))
          all_goals
            go_wp2_with fail
            go_meet
            exact app_rel HG.out HM.out HN.out HO.out (by omega) (by omega) (by omega) (by omega) (by rw [HNN.out]; exact hown9) hg9 HK.out.2 HK.out.1 HDD.out
        case rest =>
          obtain ⟨V7, hm7, hd7, hn7, ho7, hx7, hk7, hs7, hf7⟩ := hcut
          replace ho7 : OwnN wc (DG w5.heap.size w4.heap.size) V7 n1 := ho7
          obtain ⟨A7, c7, rfl⟩ := ho7.form
          have HM7 := Lib.hid hm7
          have HBo7 := Lib.hid hn7
          have HOo7 := Lib.hid ho7
          have HX7 := Lib.hid hk7
          have HBr7 := Lib.hid (hf7 _ _ _ _ _ _ _ _ _ (by omega) (by omega) (by omega) HBr6.out)
          clear hm7 hn7 ho7 hk7 hf7
          go_wp2_with fail
          refine (up_c X _ _ HM7.out.st (by first | omega | (simp <;> omega)) (by first | omega | (simp <;> omega))).mono ?_
          rintro e8 w8 ⟨rfl, hm8⟩
          have HM8 := Lib.hid (HM7.out.trans hm8)
          have hs8 := hm8.grown.size
          have HBr8 := Lib.hid (NdB.grown HBr7.out hm8.grown (show X.P < w.heap.size by omega))
          have HBo8 := Lib.hid (NdB.grown HBo7.out hm8.grown (show X.P < w4.heap.size by omega))
          have HOo8 := Lib.hid (OwnN.grown HOo7.out hm8.grown (DG.not (by omega)))
          clear hm8
          have c1_0 := HBo8.out.c0
          have c1_1 := HBo8.out.c1
          have c1_2 := HBo8.out.c2
          have c1_3 := HBo8.out.c3
          have c1_4 := HBo8.out.c4
          have c1_5 := HBo8.out.c5
          have c1_6 := HBo8.out.c6
          have c1_7 := HBo8.out.c7
          have c2_0 := HBr8.out.c0
          have f2_0 := HBr8.out.fr 0
          have c2_1 := HBr8.out.c1
          have f2_1 := HBr8.out.fr 1
          have c2_2 := HBr8.out.c2
          have f2_2 := HBr8.out.fr 2
          have c2_3 := HBr8.out.c3
          have f2_3 := HBr8.out.fr 3
          have c2_4 := HBr8.out.c4
          have f2_4 := HBr8.out.fr 4
          have c2_5 := HBr8.out.c5
          have f2_5 := HBr8.out.fr 5
          have c2_6 := HBr8.out.c6
          have f2_6 := HBr8.out.fr 6
          have c2_7 := HBr8.out.c7
          have f2_7 := HBr8.out.fr 7
          go_wp2_with fail
          refine ret_cell8 Tryz.results146 w.heap.size rfl rfl (HBr8.out.set8 _ _ _ _ _ _ _ _) ?_
          exact PNd.mk 4 (lineS X.l p) ⟨#[]⟩ 0 0 ⟨#[]⟩ none 0 _ n1 _ HRR.out (HM8.out.node HBr8.out (by omega) (by omega) (only_set8 _ _ _ _ _ _ _ _ _ _)) (own_end HOo8.out (by omega) (only_set8 _ _ _ _ _ _ _ _ _ _) (by omega)) (okN_nd HX7.out (fun h => by rcases h with h | h <;> cases h)) (by omega) (by first | omega | (simp <;> omega))
    | false =>
      rw [hx] at hr
      have HX := Lib.hid hx
      clear hx
      replace hr : ((prsR X.l F .first p).bind fun (n, p) => prsR X.l F (.behind n) p) = some r := hr
      cases hq1 : prsR X.l F .first p with
      | none => rw [hq1] at hr; cases hr
      | some q1 =>
      obtain ⟨n1, p1⟩ := q1
      rw [hq1] at hr
      replace hr : prsR X.l F (.behind n1) p1 = some r := hr
      have HQ1 := Lib.hid hq1
      clear hq1
      have HQ2 := Lib.hid hr
      clear hr
      obtain ⟨n2, p2⟩ := r
      obtain ⟨wa, hwa⟩ : ∃ wa, wa = (w).alloc (.cells #[.int .i64 0, .int .i64 0, .string ⟨#[]⟩, .int .i64 0, .int .i64 0, .string ⟨#[]⟩, .slice none 0 0, .slice none 0 0] 31) := ⟨_, rfl⟩
      have HMa := Lib.hid (show Mvd w wa X p by rw [hwa]; exact ((Mvd.of hst).alloc _))
      have hsa : wa.heap.size = w.heap.size + 1 := by rw [hwa]; simp
      have HZr := Lib.hid (show zN wa w.heap.size by rw [hwa]; exact (zN.new w))
      have HWA := Lib.hid hwa
      clear hwa
      go_enter Tryz.func146, Tryz.ntmps146
      go_wp2_with fail
      rw [← HWA.out]
      refine (line_t HMa.out.st).mono ?_
      rintro e1 w1 ⟨rfl, hm1⟩
      have HM1 := Lib.hid (HMa.out.trans hm1)
      have hs1 := hm1.grown.size
      have HBr1 := Lib.hid (NdB.grown HZr.out hm1.grown (show X.P < w.heap.size by omega))
      clear hm1
      go_wp2_with fail
      refine (is_f HM1.out.st (s := ⟨#[45]⟩) (L := [45]) rfl HB.out).mono ?_
      rintro e2 w2 ⟨rfl, hm2⟩
      have HM2 := Lib.hid (HM1.out.trans hm2)
      have hs2 := hm2.grown.size
      have HBr2 := Lib.hid (NdB.grown HBr1.out hm2.grown (show X.P < w.heap.size by omega))
      clear hm2
      go_wp2_with fail
      refine (may_f HM2.out.st (s := ⟨#[45]⟩) (L := [45]) rfl HB.out).mono ?_
      rintro e3 w3 ⟨rfl, hm3⟩
      have HM3 := Lib.hid (HM2.out.trans hm3)
      have hs3 := hm3.grown.size
      have HBr3 := Lib.hid (NdB.grown HBr2.out hm3.grown (show X.P < w.heap.size by omega))
      clear hm3
      go_wp2_with fail
      refine (may_f HM3.out.st (s := ⟨#[33]⟩) (L := [33]) rfl HX.out).mono ?_
      rintro e4 w4 ⟨rfl, hm4⟩
      have HM4 := Lib.hid (HM3.out.trans hm4)
      have hs4 := hm4.grown.size
      have HBr4 := Lib.hid (NdB.grown HBr3.out hm4.grown (show X.P < w.heap.size by omega))
      clear hm4
      go_wp2_with fail
      refine (IH.out.first F (Nat.le_refl _) w4 _ _ HM4.out.st (by first | omega | (simp <;> omega)) (by first | omega | (simp <;> omega)) HQ1.out).mono ?_
      rintro e5 w5 ⟨op5, ln5, t5, k5, m5, u5, va5, vc5, V5, sub5, hn5, rfl, hm5, ho5, hk5, hl5, hd5⟩
      obtain ⟨A5, cc5, rfl⟩ := ho5.form
      have hn5 : n1 = nd op5 ln5 t5 k5 m5 u5 sub5 := hn5
      subst hn5
      have hk5 := Lib.hid hk5
      have hd5 : p1.deep = p.deep + 0 := by have h : p1.deep = p.deep := hd5; (try simp at h); omega
      have HM5 := Lib.hid (HM4.out.trans hm5)
      have hs5 := hm5.grown.size
      have HBr5 := Lib.hid (NdB.grown HBr4.out hm5.grown (show X.P < w.heap.size by omega))
      have HO5 := Lib.hid (ho5.wide (D' := DG w4.heap.size 0) (fun k hk hk2 => ⟨hk, by omega⟩))
      clear hm5 ho5
      unfold nd8
      go_wp2_with fail
      refine (IH.out.behind F (Nat.le_refl _) op5 ln5 t5 k5 m5 u5 va5 vc5 (.slice A5 sub5.len cc5) sub5 (DG w4.heap.size 0) w5 _ _ HM5.out.st (by first | omega | (simp <;> omega)) (by first | omega | (simp <;> omega)) HO5.out (fun k hk => by have := hk.1; omega) (fun k hk => ⟨by omega, by omega⟩) hk5.out (by omega) HQ2.out).mono ?_
      rintro e6 w6 ⟨op6, ln6, t6, k6, m6, u6, va6, vc6, V6, sub6, hn6, rfl, hm6, ho6, hk6, hl6, hd6⟩
      obtain ⟨A6, cc6, rfl⟩ := ho6.form
      have hn6 : n2 = nd op6 ln6 t6 k6 m6 u6 sub6 := hn6
      subst hn6
      have hk6 := Lib.hid hk6
      have hd6 : p2.deep = p.deep + 0 := by have h : p2.deep = p1.deep := hd6; (try simp at h); omega
      have HM6 := Lib.hid (HM5.out.trans hm6)
      have hs6 := hm6.grown.size
      have HBr6 := Lib.hid (NdB.grown HBr5.out hm6.grown (show X.P < w.heap.size by omega))
      have HOx56 := Lib.hid (OwnN.grown HO5.out hm6.grown (DG.not (by omega)))
      have HO6 := Lib.hid ho6
      clear hm6 ho6
      unfold nd8
      have c1_0 := HBr6.out.c0
      have f1_0 := HBr6.out.fr 0
      have c1_1 := HBr6.out.c1
      have f1_1 := HBr6.out.fr 1
      have c1_2 := HBr6.out.c2
      have f1_2 := HBr6.out.fr 2
      have c1_3 := HBr6.out.c3
      have f1_3 := HBr6.out.fr 3
      have c1_4 := HBr6.out.c4
      have f1_4 := HBr6.out.fr 4
      have c1_5 := HBr6.out.c5
      have f1_5 := HBr6.out.fr 5
      have c1_6 := HBr6.out.c6
      have f1_6 := HBr6.out.fr 6
      have c1_7 := HBr6.out.c7
      have f1_7 := HBr6.out.fr 7
      go_wp2_with fail
      have HRR := Lib.hid (rfl : (nd op6 ln6 t6 k6 m6 u6 sub6, p2) = (nd op6 ln6 t6 k6 m6 u6 sub6, p2))
      refine ret_cell8 Tryz.results146 w.heap.size rfl rfl (HBr6.out.set8 _ _ _ _ _ _ _ _) ?_
      exact PNd.mk op6 ln6 t6 k6 m6 u6 va6 vc6 _ sub6 _ HRR.out (HM6.out.node HBr6.out (by omega) (by omega) (only_set8 _ _ _ _ _ _ _ _ _ _)) (own_end HO6.out (by omega) (only_set8 _ _ _ _ _ _ _ _ _ _) (by omega)) hk6.out (by omega) (by first | omega | (simp <;> omega))
end Go.Proofs.YtggngahmafbihaaGreatDoor
