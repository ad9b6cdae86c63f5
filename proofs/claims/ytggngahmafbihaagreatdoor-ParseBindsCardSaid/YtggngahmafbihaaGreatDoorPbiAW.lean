/- Contracts of the functions that the statement reaches, and the plain mathematics beneath: several texts joined. -/
import Derived.Test.YtggngahmafbihaaGreatDoorPbiAT
namespace Go.Proofs.YtggngahmafbihaaGreatDoor
open Go.RowKit Go.Lib
set_option linter.unusedVariables false
/-- A word in a block of its own. -/
def TkT (w : World) (g : Nat) (a b c d e f h : Value) : Prop := w.heap[g]? = some (.cells #[a, b, c, d, e, f, h] 55 (0, 0))
section
variable {w w' : World} {g g' P : Nat} {a b c d e f h : Value}
theorem TkT.lt (H : TkT w g a b c d e f h) : g < w.heap.size := heap_lt H
theorem TkT.c0 (H : TkT w g a b c d e f h) : w.cell? ⟨g, 0, none⟩ = some a := cell_of_row w g 0 _ _ _ H
theorem TkT.c1 (H : TkT w g a b c d e f h) : w.cell? ⟨g, 1, none⟩ = some b := cell_of_row w g 1 _ _ _ H
theorem TkT.c2 (H : TkT w g a b c d e f h) : w.cell? ⟨g, 2, none⟩ = some c := cell_of_row w g 2 _ _ _ H
theorem TkT.c3 (H : TkT w g a b c d e f h) : w.cell? ⟨g, 3, none⟩ = some d := cell_of_row w g 3 _ _ _ H
theorem TkT.c4 (H : TkT w g a b c d e f h) : w.cell? ⟨g, 4, none⟩ = some e := cell_of_row w g 4 _ _ _ H
theorem TkT.c5 (H : TkT w g a b c d e f h) : w.cell? ⟨g, 5, none⟩ = some f := cell_of_row w g 5 _ _ _ H
theorem TkT.c6 (H : TkT w g a b c d e f h) : w.cell? ⟨g, 6, none⟩ = some h := cell_of_row w g 6 _ _ _ H
theorem TkT.below' (H : TkT w g a b c d e f h) (hb : Below w.heap.size w w') : TkT w' g a b c d e f h := (hb.block g H.lt).trans H
theorem TkT.apart (H : TkT w g a b c d e f h) (hg : w.grownBy w' (some g')) (hne : g ≠ g') : TkT w' g a b c d e f h := (hg.block g H.lt (fun e => by injection e with e; exact hne e)).trans H
theorem TkT.grown (H : TkT w g a b c d e f h) (hg : w.grownBy w' (some P)) (hP : P < g) : TkT w' g a b c d e f h := H.apart hg (by omega)
end
theorem two_lits (w : World) (S : Nat → Prop) (ln lm : Int) (nm : ByteArray) : NRow w S ((nd 1 ln ⟨#[]⟩ 1 0 ⟨#[]⟩ .nil).app (nd 1 lm ⟨#[]⟩ 2 0 nm .nil)) [.int .i64 1, .int .i64 ln, .string ⟨#[]⟩, .int .i64 1, .int .i64 0, .string ⟨#[]⟩, .slice none 0 0, .slice none 0 0, .int .i64 1, .int .i64 lm, .string ⟨#[]⟩, .int .i64 2, .int .i64 0, .string nm, .slice none 0 0, .slice none 0 0] :=
  ⟨none, 0, none, 0, [.int .i64 1, .int .i64 lm, .string ⟨#[]⟩, .int .i64 2, .int .i64 0, .string nm, .slice none 0 0, .slice none 0 0], rfl, Nat.zero_le _, trivial, Nat.zero_le _, trivial, none, 0, none, 0, [], rfl, Nat.zero_le _, trivial, Nat.zero_le _, trivial, rfl⟩

set_option maxRecDepth 100000 in
set_option maxHeartbeats 8000000 in
theorem first_step (X : PCtx) (F : Nat) (hF : F ≤ 1000000000) (ih : EC X F) : NodeC X 174 #[] .first (F + 1) := by
  intro w p r hst h0 h1 hr
  rw [prsR] at hr
  have hPl := hst.lt
  have hlen := hst.len
  obtain ⟨i0, hi0, hz0, hz1, hz2⟩ := info_parts pnode_info
  have IH := Lib.hid ih
  clear ih
  cases he : p.err with
  | some x =>
    have HE := Lib.hid he
    replace hr : some (nd0, failS X.l p) = some r := by rw [← hr]; simp only [he]
    clear he
    have HRR := Lib.hid (show r = (nd0, failS X.l p) from (Option.some.inj hr).symm)
    clear hr
    obtain ⟨wa, hwa⟩ : ∃ wa, wa = (w).alloc (.cells #[.int .i64 0, .int .i64 0, .string ⟨#[]⟩, .int .i64 0, .int .i64 0, .string ⟨#[]⟩, .slice none 0 0, .slice none 0 0] 31) := ⟨_, rfl⟩
    have HMa := Lib.hid (show Mvd w wa X p by rw [hwa]; exact ((Mvd.of hst).alloc _))
    have hsa : wa.heap.size = w.heap.size + 1 := by rw [hwa]; simp
    have HZr := Lib.hid (show zN wa w.heap.size by rw [hwa]; exact (zN.new w))
    have HWA := Lib.hid hwa
    clear hwa
    go_enter Tryz.func174, Tryz.ntmps174
    go_wp2_with fail
    rw [← HWA.out]
    refine (line_t HMa.out.st).mono ?_
    rintro e1 w1 ⟨rfl, hm1⟩
    have HM1 := Lib.hid (HMa.out.trans hm1)
    have hs1 := hm1.grown.size
    have HBr1 := Lib.hid (NdB.grown HZr.out hm1.grown (show X.P < w.heap.size by omega))
    clear hm1
    obtain ⟨ev, hP, hE⟩ := HM1.out.st.at_
    have c0 := hP.c0
    have c1 := hP.c1
    have c3 := hP.c3
    rw [HE.out] at hE
    obtain ⟨ty, ve, rfl⟩ := errv_some hE
    clear hP hE
    go_wp2_with fail
    go_quiet (fail)
    generalize hw2 : World.drewN _ _ = w2
    have hb2 : Below w1.heap.size w1 w2 := by rw [← hw2]; exact ⟨rfl, rfl, rfl, Nat.le_refl _, fun _ _ => rfl⟩
    clear hw2 c0 c1 c3
    have hs2 := hb2.size
    have HM2 := Lib.hid (HM1.out.below hb2)
    have HBr2 := Lib.hid (HBr1.out.below' hb2)
    clear hb2
    go_wp2_with fail
    refine (fail_c X _ _ HM2.out.st).mono ?_
    rintro e3 w3 ⟨rfl, hm3⟩
    have HM3 := Lib.hid (HM2.out.trans hm3)
    have hs3 := hm3.grown.size
    have HBr3 := Lib.hid (NdB.grown HBr2.out hm3.grown (show X.P < w.heap.size by omega))
    clear hm3
    have c1_0 := HBr3.out.c0
    have f1_0 := HBr3.out.fr 0
    have c1_1 := HBr3.out.c1
    have f1_1 := HBr3.out.fr 1
    have c1_2 := HBr3.out.c2
    have f1_2 := HBr3.out.fr 2
    have c1_3 := HBr3.out.c3
    have f1_3 := HBr3.out.fr 3
    have c1_4 := HBr3.out.c4
    have f1_4 := HBr3.out.fr 4
    have c1_5 := HBr3.out.c5
    have f1_5 := HBr3.out.fr 5
    have c1_6 := HBr3.out.c6
    have f1_6 := HBr3.out.fr 6
    have c1_7 := HBr3.out.c7
    have f1_7 := HBr3.out.fr 7
    go_wp2_with fail
    refine ret_cell8 Tryz.results174 w.heap.size rfl rfl (HBr3.out.set8 _ _ _ _ _ _ _ _) ?_
    exact PNd.mk 0 0 ⟨#[]⟩ 0 0 ⟨#[]⟩ none 0 (.slice none 0 0) .nil _ HRR.out (HM3.out.node HBr3.out (by omega) (by omega) (only_set8 _ _ _ _ _ _ _ _ _ _)) (OwnN.nil _ _) (okN_leaf (by decide) (by decide)) (Nat.zero_le _) (by first | omega | (simp <;> omega))
  | none =>
    have HE := Lib.hid he
    by_cases hp : X.l.length ≤ p.pos
    · have HO := Lib.hid hp
      have hnone : X.l[p.pos]? = none := List.getElem?_eq_none hp
      replace hr : some (nd0, failS X.l p) = some r := by rw [← hr]; simp only [he, hnone]
      clear he hp hnone
      have HRR := Lib.hid (show r = (nd0, failS X.l p) from (Option.some.inj hr).symm)
      clear hr
      obtain ⟨wa, hwa⟩ : ∃ wa, wa = (w).alloc (.cells #[.int .i64 0, .int .i64 0, .string ⟨#[]⟩, .int .i64 0, .int .i64 0, .string ⟨#[]⟩, .slice none 0 0, .slice none 0 0] 31) := ⟨_, rfl⟩
      have HMa := Lib.hid (show Mvd w wa X p by rw [hwa]; exact ((Mvd.of hst).alloc _))
      have hsa : wa.heap.size = w.heap.size + 1 := by rw [hwa]; simp
      have HZr := Lib.hid (show zN wa w.heap.size by rw [hwa]; exact (zN.new w))
      have HWA := Lib.hid hwa
      clear hwa
      go_enter Tryz.func174, Tryz.ntmps174
      go_wp2_with fail
      rw [← HWA.out]
      refine (line_t HMa.out.st).mono ?_
      rintro e1 w1 ⟨rfl, hm1⟩
      have HM1 := Lib.hid (HMa.out.trans hm1)
      have hs1 := hm1.grown.size
      have HBr1 := Lib.hid (NdB.grown HZr.out hm1.grown (show X.P < w.heap.size by omega))
      clear hm1
      obtain ⟨ev, hP, hE⟩ := HM1.out.st.at_
      have c0 := hP.c0
      have c1 := hP.c1
      have c3 := hP.c3
      rw [HE.out] at hE
      obtain rfl : ev = .nilIface := hE
      clear hP
      have b2 : (X.l.length : Int) ≤ (p.pos : Int) := by have := HO.out; omega
      have b3 : decide (X.l.length ≤ p.pos) = true := decide_eq_true HO.out
      go_wp2_with fail
      go_quiet (fail)
      generalize hw2 : World.drewN _ _ = w2
      have hb2 : Below w1.heap.size w1 w2 := by rw [← hw2]; exact ⟨rfl, rfl, rfl, Nat.le_refl _, fun _ _ => rfl⟩
      clear hw2 c0 c1 c3 b2 b3
      have hs2 := hb2.size
      have HM2 := Lib.hid (HM1.out.below hb2)
      have HBr2 := Lib.hid (HBr1.out.below' hb2)
      clear hb2
      go_wp2_with fail
      refine (fail_c X _ _ HM2.out.st).mono ?_
      rintro e3 w3 ⟨rfl, hm3⟩
      have HM3 := Lib.hid (HM2.out.trans hm3)
      have hs3 := hm3.grown.size
      have HBr3 := Lib.hid (NdB.grown HBr2.out hm3.grown (show X.P < w.heap.size by omega))
      clear hm3
      have c1_0 := HBr3.out.c0
      have f1_0 := HBr3.out.fr 0
      have c1_1 := HBr3.out.c1
      have f1_1 := HBr3.out.fr 1
      have c1_2 := HBr3.out.c2
      have f1_2 := HBr3.out.fr 2
      have c1_3 := HBr3.out.c3
      have f1_3 := HBr3.out.fr 3
      have c1_4 := HBr3.out.c4
      have f1_4 := HBr3.out.fr 4
      have c1_5 := HBr3.out.c5
      have f1_5 := HBr3.out.fr 5
      have c1_6 := HBr3.out.c6
      have f1_6 := HBr3.out.fr 6
      have c1_7 := HBr3.out.c7
      have f1_7 := HBr3.out.fr 7
      go_wp2_with fail
      refine ret_cell8 Tryz.results174 w.heap.size rfl rfl (HBr3.out.set8 _ _ _ _ _ _ _ _) ?_
      exact PNd.mk 0 0 ⟨#[]⟩ 0 0 ⟨#[]⟩ none 0 (.slice none 0 0) .nil _ HRR.out (HM3.out.node HBr3.out (by omega) (by omega) (only_set8 _ _ _ _ _ _ _ _ _ _)) (OwnN.nil _ _) (okN_leaf (by decide) (by decide)) (Nat.zero_le _) (by first | omega | (simp <;> omega))
    obtain ⟨tk, htk⟩ := tok_at (l := X.l) (i := p.pos) (by omega)
    have hlt : p.pos < X.l.length := by omega
    clear hp
    have HT := Lib.hid htk
    rw [he, htk] at hr
    clear he htk
    by_cases hk3 : tk.kind = 3
    · have HK := Lib.hid hk3
      replace hr : some (nd 1 (lineS X.l p) ⟨#[]⟩ tk.k tk.n tk.t .nil, nextS p) = some r := by rw [← hr]; simp only [hk3]; rfl
      clear hk3
      have HRR := Lib.hid (show r = (nd 1 (lineS X.l p) ⟨#[]⟩ tk.k tk.n tk.t .nil, nextS p) from (Option.some.inj hr).symm)
      clear hr
      obtain ⟨wa, hwa⟩ : ∃ wa, wa = (w).alloc (.cells #[.int .i64 0, .int .i64 0, .string ⟨#[]⟩, .int .i64 0, .int .i64 0, .string ⟨#[]⟩, .slice none 0 0, .slice none 0 0] 31) := ⟨_, rfl⟩
      have HMa := Lib.hid (show Mvd w wa X p by rw [hwa]; exact ((Mvd.of hst).alloc _))
      have hsa : wa.heap.size = w.heap.size + 1 := by rw [hwa]; simp
      have HZr := Lib.hid (show zN wa w.heap.size by rw [hwa]; exact (zN.new w))
      have HWA := Lib.hid hwa
      clear hwa
      go_enter Tryz.func174, Tryz.ntmps174
      go_wp2_with fail
      rw [← HWA.out]
      refine (line_t HMa.out.st).mono ?_
      rintro e1 w1 ⟨rfl, hm1⟩
      have HM1 := Lib.hid (HMa.out.trans hm1)
      have hs1 := hm1.grown.size
      have HBr1 := Lib.hid (NdB.grown HZr.out hm1.grown (show X.P < w.heap.size by omega))
      clear hm1
      obtain ⟨ev, hP, hE⟩ := HM1.out.st.at_
      obtain ⟨g, sa, sc, hA, hg, t0, t1, t2, t3, t4, t5, t6⟩ := HM1.out.st.tok HT.out
      have c0 := hP.c0
      rw [hA] at c0
      have c1 := hP.c1
      have c3 := hP.c3
      rw [HE.out] at hE
      obtain rfl : ev = .nilIface := hE
      have b0 : (0 : Int) ≤ (p.pos : Int) := by omega
      have b1 : (p.pos : Int) < (X.l.length : Int) := by omega
      have b2 : ¬ (X.l.length : Int) ≤ (p.pos : Int) := by omega
      have b3 : decide (X.l.length ≤ p.pos) = false := decide_eq_false (by omega)
      rw [HK.out] at t0
      clear hP hA
      go_wp2_with fail
      go_quiet (fail)
      go_wp2_with fail
      generalize hwq : World.drewN _ _ = wq
      have hbq : Below w1.heap.size w1 wq := by rw [← hwq]; exact ⟨rfl, rfl, rfl, Nat.le_refl _, fun _ _ => rfl⟩
      have q0 : wq.cell? ⟨X.P, 0, none⟩ = some (.slice (some ⟨g, 0, none⟩) X.l.length X.c) := by rw [← hwq]; exact c0
      have q1 : wq.cell? ⟨X.P, 1, none⟩ = some (.int .i64 p.pos) := by rw [← hwq]; exact c1
      have r0 : wq.cell? ⟨g, p.pos * 7, none⟩ = some (.int .i64 3) := by rw [← hwq]; exact t0
      have r1 : wq.cell? ⟨g, p.pos * 7 + 1, none⟩ = some (.int .i64 tk.line) := by rw [← hwq]; exact t1
      have r2 : wq.cell? ⟨g, p.pos * 7 + 2, none⟩ = some (.string tk.s) := by rw [← hwq]; exact t2
      have r3 : wq.cell? ⟨g, p.pos * 7 + 3, none⟩ = some (.int .i64 tk.k) := by rw [← hwq]; exact t3
      have r4 : wq.cell? ⟨g, p.pos * 7 + 4, none⟩ = some (.int .i64 tk.n) := by rw [← hwq]; exact t4
      have r5 : wq.cell? ⟨g, p.pos * 7 + 5, none⟩ = some (.string tk.t) := by rw [← hwq]; exact t5
      have r6 : wq.cell? ⟨g, p.pos * 7 + 6, none⟩ = some (.slice sa 0 sc) := by rw [← hwq]; exact t6
      clear hwq c0 c1 c3 t0 t1 t2 t3 t4 t5 t6
      go_region_held3 (fun W => W.cell? ⟨X.P, 0, none⟩ = some (.slice (some ⟨g, 0, none⟩) X.l.length X.c) ∧ W.cell? ⟨X.P, 1, none⟩ = some (.int .i64 p.pos) ∧ W.cell? ⟨g, p.pos * 7, none⟩ = some (.int .i64 3) ∧ W.cell? ⟨g, p.pos * 7 + 1, none⟩ = some (.int .i64 tk.line) ∧ W.cell? ⟨g, p.pos * 7 + 2, none⟩ = some (.string tk.s) ∧ W.cell? ⟨g, p.pos * 7 + 3, none⟩ = some (.int .i64 tk.k) ∧ W.cell? ⟨g, p.pos * 7 + 4, none⟩ = some (.int .i64 tk.n) ∧ W.cell? ⟨g, p.pos * 7 + 5, none⟩ = some (.string tk.t) ∧ W.cell? ⟨g, p.pos * 7 + 6, none⟩ = some (.slice sa 0 sc)) (first | assumption | exact ⟨q0, q1, r0, r1, r2, r3, r4, r5, r6⟩ | go_keep) (fail)
      clear q0 q1 r0 r1 r2 r3 r4 r5 r6
      obtain ⟨w2, hw2⟩ : ∃ W, W = (wq.alloc (.cells #[.int .i64 3, .int .i64 tk.line, .string tk.s, .int .i64 tk.k, .int .i64 tk.n, .string tk.t, .slice sa 0 sc] 55)).drew := ⟨_, rfl⟩
      have hb2 : Below w1.heap.size w1 w2 := by rw [hw2]; exact (hbq.alloc hbq.size _).drew
      have hsq := hbq.size
      have HBt := Lib.hid (show TkT w2 wq.heap.size (.int .i64 3) (.int .i64 tk.line) (.string tk.s) (.int .i64 tk.k) (.int .i64 tk.n) (.string tk.t) (.slice sa 0 sc) by rw [hw2]; exact heap_alloc_new wq _)
      have hsw : w2.heap.size = wq.heap.size + 1 := by rw [hw2]; show (wq.alloc _).heap.size = _; simp
      have HW2 := Lib.hid hw2
      clear hw2 hbq b0 b1 b2 b3
      have hs2 := hb2.size
      have HM2 := Lib.hid (HM1.out.below hb2)
      have HBr2 := Lib.hid (HBr1.out.below' hb2)
      clear hb2
      rw [← HW2.out]
      have c1_0 := HBt.out.c0
      have c1_1 := HBt.out.c1
      have c1_2 := HBt.out.c2
      have c1_3 := HBt.out.c3
      have c1_4 := HBt.out.c4
      have c1_5 := HBt.out.c5
      have c1_6 := HBt.out.c6
      obtain ⟨ev, hP, hE⟩ := HM2.out.st.at_
      have c1 := hP.c1
      have f1 := hP.fr 1
      clear hP hE
      have c2_0 := HBr2.out.c0
      have f2_0 := HBr2.out.fr 0
      have c2_1 := HBr2.out.c1
      have f2_1 := HBr2.out.fr 1
      have c2_2 := HBr2.out.c2
      have f2_2 := HBr2.out.fr 2
      have c2_3 := HBr2.out.c3
      have f2_3 := HBr2.out.fr 3
      have c2_4 := HBr2.out.c4
      have f2_4 := HBr2.out.fr 4
      have c2_5 := HBr2.out.c5
      have f2_5 := HBr2.out.fr 5
      have c2_6 := HBr2.out.c6
      have f2_6 := HBr2.out.fr 6
      have c2_7 := HBr2.out.c7
      have f2_7 := HBr2.out.fr 7
      have hne1 : X.P ≠ w.heap.size := by omega
      have hne2 : w.heap.size ≠ X.P := by omega
      have hne3 : wq.heap.size ≠ X.P := by omega
      have hne4 : X.P ≠ wq.heap.size := by omega
      go_wp2_with fail
      have HMn3 := Lib.hid (HM2.out.jump 1 (by omega))
      obtain ⟨w3, hw3⟩ : ∃ W, W = w2.setCell ⟨X.P, 1, none⟩ (.int .i64 ((p.pos : Int) + 1)) := ⟨_, rfl⟩
      have hg3 : w2.grownBy w3 (some X.P) := by rw [hw3]; exact only_set1 _ _ _ _
      have HM3 := Lib.hid (show Mvd w w3 X (nextS p) by rw [hw3]; exact HMn3.out)
      have hs3 := hg3.size
      have HBr3 := Lib.hid (NdB.grown HBr2.out hg3 (show X.P < w.heap.size by omega))
      have HBt3 := Lib.hid (TkT.grown HBt.out hg3 (show X.P < wq.heap.size by omega))
      have HW3 := Lib.hid hw3
      clear hw3 hg3 HMn3
      rw [← HW3.out]
      refine ret_cell8 Tryz.results174 w.heap.size rfl rfl (HBr3.out.set8 _ _ _ _ _ _ _ _) ?_
      exact PNd.mk 1 (lineS X.l p) ⟨#[]⟩ tk.k tk.n tk.t sa sc (.slice none 0 0) .nil _ HRR.out (HM3.out.node HBr3.out (by omega) (by omega) (only_set8 _ _ _ _ _ _ _ _ _ _)) (OwnN.nil _ _) (okN_leaf (by decide) (by decide)) (Nat.zero_le _) (by first | omega | (simp <;> omega))
    · by_cases hk1 : tk.kind = 1
      · have HK := Lib.hid hk1
        cases hb : isS X.l (nextS p) [40] with
        | true =>
          have HB := Lib.hid hb
          replace hr : ((prsR X.l F (.items [41]) (nextS (nextS p))).bind fun (x, p1) => some (nd 24 (lineS X.l p) tk.s 0 0 ⟨#[]⟩ x, p1)) = some r := by rw [← hr]; simp only [hk1, hb]; rfl
          clear hk1 hk3 hb
          cases hq1 : prsR X.l F (.items [41]) (nextS (nextS p)) with
          | none => rw [hq1] at hr; cases hr
          | some q1 =>
          obtain ⟨l1, p1⟩ := q1
          rw [hq1] at hr
          replace hr : some (nd 24 (lineS X.l p) tk.s 0 0 ⟨#[]⟩ l1, p1) = some r := hr
          have HQ1 := Lib.hid hq1
          clear hq1
          have HRR := Lib.hid (show r = (nd 24 (lineS X.l p) tk.s 0 0 ⟨#[]⟩ l1, p1) from (Option.some.inj hr).symm)
          clear hr
          obtain ⟨wa, hwa⟩ : ∃ wa, wa = (w).alloc (.cells #[.int .i64 0, .int .i64 0, .string ⟨#[]⟩, .int .i64 0, .int .i64 0, .string ⟨#[]⟩, .slice none 0 0, .slice none 0 0] 31) := ⟨_, rfl⟩
          have HMa := Lib.hid (show Mvd w wa X p by rw [hwa]; exact ((Mvd.of hst).alloc _))
          have hsa : wa.heap.size = w.heap.size + 1 := by rw [hwa]; simp
          have HZr := Lib.hid (show zN wa w.heap.size by rw [hwa]; exact (zN.new w))
          have HWA := Lib.hid hwa
          clear hwa
          go_enter Tryz.func174, Tryz.ntmps174
          go_wp2_with fail
          rw [← HWA.out]
          refine (line_t HMa.out.st).mono ?_
          rintro e1 w1 ⟨rfl, hm1⟩
          have HM1 := Lib.hid (HMa.out.trans hm1)
          have hs1 := hm1.grown.size
          have HBr1 := Lib.hid (NdB.grown HZr.out hm1.grown (show X.P < w.heap.size by omega))
          clear hm1
          obtain ⟨ev, hP, hE⟩ := HM1.out.st.at_
          obtain ⟨g, sa, sc, hA, hg, t0, t1, t2, t3, t4, t5, t6⟩ := HM1.out.st.tok HT.out
          have c0 := hP.c0
          rw [hA] at c0
          have c1 := hP.c1
          have c3 := hP.c3
          rw [HE.out] at hE
          obtain rfl : ev = .nilIface := hE
          have b0 : (0 : Int) ≤ (p.pos : Int) := by omega
          have b1 : (p.pos : Int) < (X.l.length : Int) := by omega
          have b2 : ¬ (X.l.length : Int) ≤ (p.pos : Int) := by omega
          have b3 : decide (X.l.length ≤ p.pos) = false := decide_eq_false (by omega)
          rw [HK.out] at t0
          clear hP hA
          go_wp2_with fail
          go_quiet (fail)
          go_wp2_with fail
          generalize hwq : World.drewN _ _ = wq
          have hbq : Below w1.heap.size w1 wq := by rw [← hwq]; exact ⟨rfl, rfl, rfl, Nat.le_refl _, fun _ _ => rfl⟩
          have q0 : wq.cell? ⟨X.P, 0, none⟩ = some (.slice (some ⟨g, 0, none⟩) X.l.length X.c) := by rw [← hwq]; exact c0
          have q1 : wq.cell? ⟨X.P, 1, none⟩ = some (.int .i64 p.pos) := by rw [← hwq]; exact c1
          have r0 : wq.cell? ⟨g, p.pos * 7, none⟩ = some (.int .i64 1) := by rw [← hwq]; exact t0
          have r1 : wq.cell? ⟨g, p.pos * 7 + 1, none⟩ = some (.int .i64 tk.line) := by rw [← hwq]; exact t1
          have r2 : wq.cell? ⟨g, p.pos * 7 + 2, none⟩ = some (.string tk.s) := by rw [← hwq]; exact t2
          have r3 : wq.cell? ⟨g, p.pos * 7 + 3, none⟩ = some (.int .i64 tk.k) := by rw [← hwq]; exact t3
          have r4 : wq.cell? ⟨g, p.pos * 7 + 4, none⟩ = some (.int .i64 tk.n) := by rw [← hwq]; exact t4
          have r5 : wq.cell? ⟨g, p.pos * 7 + 5, none⟩ = some (.string tk.t) := by rw [← hwq]; exact t5
          have r6 : wq.cell? ⟨g, p.pos * 7 + 6, none⟩ = some (.slice sa 0 sc) := by rw [← hwq]; exact t6
          clear hwq c0 c1 c3 t0 t1 t2 t3 t4 t5 t6
          go_region_held3 (fun W => W.cell? ⟨X.P, 0, none⟩ = some (.slice (some ⟨g, 0, none⟩) X.l.length X.c) ∧ W.cell? ⟨X.P, 1, none⟩ = some (.int .i64 p.pos) ∧ W.cell? ⟨g, p.pos * 7, none⟩ = some (.int .i64 1) ∧ W.cell? ⟨g, p.pos * 7 + 1, none⟩ = some (.int .i64 tk.line) ∧ W.cell? ⟨g, p.pos * 7 + 2, none⟩ = some (.string tk.s) ∧ W.cell? ⟨g, p.pos * 7 + 3, none⟩ = some (.int .i64 tk.k) ∧ W.cell? ⟨g, p.pos * 7 + 4, none⟩ = some (.int .i64 tk.n) ∧ W.cell? ⟨g, p.pos * 7 + 5, none⟩ = some (.string tk.t) ∧ W.cell? ⟨g, p.pos * 7 + 6, none⟩ = some (.slice sa 0 sc)) (first | assumption | exact ⟨q0, q1, r0, r1, r2, r3, r4, r5, r6⟩ | go_keep) (fail)
          clear q0 q1 r0 r1 r2 r3 r4 r5 r6
          obtain ⟨w2, hw2⟩ : ∃ W, W = (wq.alloc (.cells #[.int .i64 1, .int .i64 tk.line, .string tk.s, .int .i64 tk.k, .int .i64 tk.n, .string tk.t, .slice sa 0 sc] 55)).drew := ⟨_, rfl⟩
          have hb2 : Below w1.heap.size w1 w2 := by rw [hw2]; exact (hbq.alloc hbq.size _).drew
          have hsq := hbq.size
          have HBt := Lib.hid (show TkT w2 wq.heap.size (.int .i64 1) (.int .i64 tk.line) (.string tk.s) (.int .i64 tk.k) (.int .i64 tk.n) (.string tk.t) (.slice sa 0 sc) by rw [hw2]; exact heap_alloc_new wq _)
          have hsw : w2.heap.size = wq.heap.size + 1 := by rw [hw2]; show (wq.alloc _).heap.size = _; simp
          have HW2 := Lib.hid hw2
          clear hw2 hbq b0 b1 b2 b3
          have hs2 := hb2.size
          have HM2 := Lib.hid (HM1.out.below hb2)
          have HBr2 := Lib.hid (HBr1.out.below' hb2)
          clear hb2
          rw [← HW2.out]
          have c1_0 := HBt.out.c0
          have c1_1 := HBt.out.c1
          have c1_2 := HBt.out.c2
          have c1_3 := HBt.out.c3
          have c1_4 := HBt.out.c4
          have c1_5 := HBt.out.c5
          have c1_6 := HBt.out.c6
          obtain ⟨ev, hP, hE⟩ := HM2.out.st.at_
          have c1 := hP.c1
          have f1 := hP.fr 1
          clear hP hE
          go_wp2_with fail
          have HMn3 := Lib.hid (HM2.out.jump 1 (by omega))
          obtain ⟨w3, hw3⟩ : ∃ W, W = w2.setCell ⟨X.P, 1, none⟩ (.int .i64 ((p.pos : Int) + 1)) := ⟨_, rfl⟩
          have hg3 : w2.grownBy w3 (some X.P) := by rw [hw3]; exact only_set1 _ _ _ _
          have HM3 := Lib.hid (show Mvd w w3 X (nextS p) by rw [hw3]; exact HMn3.out)
          have hs3 := hg3.size
          have HBr3 := Lib.hid (NdB.grown HBr2.out hg3 (show X.P < w.heap.size by omega))
          have HBt3 := Lib.hid (TkT.grown HBt.out hg3 (show X.P < wq.heap.size by omega))
          have HW3 := Lib.hid hw3
          clear hw3 hg3 HMn3
          rw [← HW3.out]
          clear c1 f1
          refine (may_t HM3.out.st (s := ⟨#[40]⟩) (L := [40]) rfl HB.out).mono ?_
          rintro e4 w4 ⟨rfl, hm4⟩
          have HM4 := Lib.hid (HM3.out.trans hm4)
          have hs4 := hm4.grown.size
          have HBr4 := Lib.hid (NdB.grown HBr3.out hm4.grown (show X.P < w.heap.size by omega))
          have HBt4 := Lib.hid (TkT.grown HBt3.out hm4.grown (show X.P < wq.heap.size by omega))
          clear hm4
          have c2 := HBt4.out.c2
          have c2d : w4.drew.cell? ⟨wq.heap.size, 2, none⟩ = some (.string tk.s) := c2
          have ITC := Lib.hid (fun W (hW : PSt W X (nextS (nextS p))) => IH.out.items F (Nat.le_refl _) ⟨#[41]⟩ W _ _ hW (by first | omega | (simp <;> omega)) (by first | omega | (simp <;> omega)) HQ1.out)
          have HSD := Lib.hid (show PSt w4.drew X (nextS (nextS p)) from HM4.out.st.below (Below.drew (Below.refl _ _)))
          have HMD := Lib.hid (show Mvd w w4.drew X (nextS (nextS p)) from HM4.out.drew)
          have hne5 : w.heap.size ≠ wq.heap.size := by omega
          have hne6 : wq.heap.size ≠ w.heap.size := by omega
          go_wp2_with fail
          go_region_held3 (fun W => W.cell? ⟨wq.heap.size, 2, none⟩ = some (.string tk.s))
            (first | (with_reducible assumption) | go_keep)
            (first
              | (go_at_call 204; refine (ITC.out _ HSD.out).mono ?_
                 rintro e8 w8 ⟨V8, rfl, hm8, ho8, hk8, hl8, hd8⟩
                 obtain ⟨A8, c8, rfl⟩ := ho8.form
                 have HG8 := Lib.hid (show w4.grownBy w8 (some X.P) from ⟨hm8.grown.os, hm8.grown.tape, hm8.grown.output, hm8.grown.size, hm8.grown.block⟩)
                 have HM8 := Lib.hid (HMD.out.trans hm8)
                 have HT8 := Lib.hid (TkT.grown (w := w4) HBt4.out HG8.out (show X.P < wq.heap.size by omega))
                 have HR8 := Lib.hid (NdB.grown (w := w4) HBr4.out HG8.out (show X.P < w.heap.size by omega))
                 have c2_8 := HT8.out.c2
                 have g0 := HR8.out.c0; have g1 := HR8.out.c1; have g2 := HR8.out.c2; have g3 := HR8.out.c3; have g4 := HR8.out.c4; have g5 := HR8.out.c5; have g6 := HR8.out.c6; have g7 := HR8.out.c7
                 have j0 := HR8.out.fr 0; have j1 := HR8.out.fr 1; have j2 := HR8.out.fr 2; have j3 := HR8.out.fr 3; have j4 := HR8.out.fr 4; have j5 := HR8.out.fr 5; have j6 := HR8.out.fr 6; have j7 := HR8.out.fr 7
                 have HO8 := Lib.hid ho8
                 have HK8 := Lib.hid (show okN l1 from hk8)
                 replace hl8 : l1.len ≤ 2 * F + 2 := hl8
                 have hs8 : w4.heap.size ≤ w8.heap.size := hm8.grown.size
                 have hd8 : p1.deep = p.deep := by have h : p1.deep = (nextS (nextS p)).deep := hd8; (try simp at h); omega
                 clear hm8 ho8 hk8))
          go_wp2_with fail
          refine ret_cell8 Tryz.results174 w.heap.size rfl rfl (HR8.out.set8 _ _ _ _ _ _ _ _) ?_
          exact PNd.mk 24 (lineS X.l p) tk.s 0 0 ⟨#[]⟩ none 0 _ l1 _ HRR.out (HM8.out.node HR8.out (by omega) (by omega) (only_set8 _ _ _ _ _ _ _ _ _ _)) (own_end (HO8.out.wide (D' := DG w4.heap.size 0) (fun k (hk : _ ≤ k) hk2 => ⟨hk, by have : w4.heap.size ≤ k := hk; omega⟩)) (by omega) (only_set8 _ _ _ _ _ _ _ _ _ _) (by omega)) (okN_nd HK8.out (fun h => by rcases h with h | h <;> cases h)) (by omega) (by omega)
        | false =>
          have HB := Lib.hid hb
          replace hr : some (nd 2 (lineS X.l p) tk.s 0 0 ⟨#[]⟩ .nil, nextS p) = some r := by rw [← hr]; simp only [hk1, hb]; rfl
          clear hk1 hk3 hb
          have HRR := Lib.hid (show r = (nd 2 (lineS X.l p) tk.s 0 0 ⟨#[]⟩ .nil, nextS p) from (Option.some.inj hr).symm)
          clear hr
          obtain ⟨wa, hwa⟩ : ∃ wa, wa = (w).alloc (.cells #[.int .i64 0, .int .i64 0, .string ⟨#[]⟩, .int .i64 0, .int .i64 0, .string ⟨#[]⟩, .slice none 0 0, .slice none 0 0] 31) := ⟨_, rfl⟩
          have HMa := Lib.hid (show Mvd w wa X p by rw [hwa]; exact ((Mvd.of hst).alloc _))
          have hsa : wa.heap.size = w.heap.size + 1 := by rw [hwa]; simp
          have HZr := Lib.hid (show zN wa w.heap.size by rw [hwa]; exact (zN.new w))
          have HWA := Lib.hid hwa
          clear hwa
          go_enter Tryz.func174, Tryz.ntmps174
          go_wp2_with fail
          rw [← HWA.out]
          refine (line_t HMa.out.st).mono ?_
          rintro e1 w1 ⟨rfl, hm1⟩
          have HM1 := Lib.hid (HMa.out.trans hm1)
          have hs1 := hm1.grown.size
          have HBr1 := Lib.hid (NdB.grown HZr.out hm1.grown (show X.P < w.heap.size by omega))
          clear hm1
          obtain ⟨ev, hP, hE⟩ := HM1.out.st.at_
          obtain ⟨g, sa, sc, hA, hg, t0, t1, t2, t3, t4, t5, t6⟩ := HM1.out.st.tok HT.out
          have c0 := hP.c0
          rw [hA] at c0
          have c1 := hP.c1
          have c3 := hP.c3
          rw [HE.out] at hE
          obtain rfl : ev = .nilIface := hE
          have b0 : (0 : Int) ≤ (p.pos : Int) := by omega
          have b1 : (p.pos : Int) < (X.l.length : Int) := by omega
          have b2 : ¬ (X.l.length : Int) ≤ (p.pos : Int) := by omega
          have b3 : decide (X.l.length ≤ p.pos) = false := decide_eq_false (by omega)
          rw [HK.out] at t0
          clear hP hA
          go_wp2_with fail
          go_quiet (fail)
          go_wp2_with fail
          generalize hwq : World.drewN _ _ = wq
          have hbq : Below w1.heap.size w1 wq := by rw [← hwq]; exact ⟨rfl, rfl, rfl, Nat.le_refl _, fun _ _ => rfl⟩
          have q0 : wq.cell? ⟨X.P, 0, none⟩ = some (.slice (some ⟨g, 0, none⟩) X.l.length X.c) := by rw [← hwq]; exact c0
          have q1 : wq.cell? ⟨X.P, 1, none⟩ = some (.int .i64 p.pos) := by rw [← hwq]; exact c1
          have r0 : wq.cell? ⟨g, p.pos * 7, none⟩ = some (.int .i64 1) := by rw [← hwq]; exact t0
          have r1 : wq.cell? ⟨g, p.pos * 7 + 1, none⟩ = some (.int .i64 tk.line) := by rw [← hwq]; exact t1
          have r2 : wq.cell? ⟨g, p.pos * 7 + 2, none⟩ = some (.string tk.s) := by rw [← hwq]; exact t2
          have r3 : wq.cell? ⟨g, p.pos * 7 + 3, none⟩ = some (.int .i64 tk.k) := by rw [← hwq]; exact t3
          have r4 : wq.cell? ⟨g, p.pos * 7 + 4, none⟩ = some (.int .i64 tk.n) := by rw [← hwq]; exact t4
          have r5 : wq.cell? ⟨g, p.pos * 7 + 5, none⟩ = some (.string tk.t) := by rw [← hwq]; exact t5
          have r6 : wq.cell? ⟨g, p.pos * 7 + 6, none⟩ = some (.slice sa 0 sc) := by rw [← hwq]; exact t6
          clear hwq c0 c1 c3 t0 t1 t2 t3 t4 t5 t6
          go_region_held3 (fun W => W.cell? ⟨X.P, 0, none⟩ = some (.slice (some ⟨g, 0, none⟩) X.l.length X.c) ∧ W.cell? ⟨X.P, 1, none⟩ = some (.int .i64 p.pos) ∧ W.cell? ⟨g, p.pos * 7, none⟩ = some (.int .i64 1) ∧ W.cell? ⟨g, p.pos * 7 + 1, none⟩ = some (.int .i64 tk.line) ∧ W.cell? ⟨g, p.pos * 7 + 2, none⟩ = some (.string tk.s) ∧ W.cell? ⟨g, p.pos * 7 + 3, none⟩ = some (.int .i64 tk.k) ∧ W.cell? ⟨g, p.pos * 7 + 4, none⟩ = some (.int .i64 tk.n) ∧ W.cell? ⟨g, p.pos * 7 + 5, none⟩ = some (.string tk.t) ∧ W.cell? ⟨g, p.pos * 7 + 6, none⟩ = some (.slice sa 0 sc)) (first | assumption | exact ⟨q0, q1, r0, r1, r2, r3, r4, r5, r6⟩ | go_keep) (fail)
          clear q0 q1 r0 r1 r2 r3 r4 r5 r6
          obtain ⟨w2, hw2⟩ : ∃ W, W = (wq.alloc (.cells #[.int .i64 1, .int .i64 tk.line, .string tk.s, .int .i64 tk.k, .int .i64 tk.n, .string tk.t, .slice sa 0 sc] 55)).drew := ⟨_, rfl⟩
          have hb2 : Below w1.heap.size w1 w2 := by rw [hw2]; exact (hbq.alloc hbq.size _).drew
          have hsq := hbq.size
          have HBt := Lib.hid (show TkT w2 wq.heap.size (.int .i64 1) (.int .i64 tk.line) (.string tk.s) (.int .i64 tk.k) (.int .i64 tk.n) (.string tk.t) (.slice sa 0 sc) by rw [hw2]; exact heap_alloc_new wq _)
          have hsw : w2.heap.size = wq.heap.size + 1 := by rw [hw2]; show (wq.alloc _).heap.size = _; simp
          have HW2 := Lib.hid hw2
          clear hw2 hbq b0 b1 b2 b3
          have hs2 := hb2.size
          have HM2 := Lib.hid (HM1.out.below hb2)
          have HBr2 := Lib.hid (HBr1.out.below' hb2)
          clear hb2
          rw [← HW2.out]
          have c1_0 := HBt.out.c0
          have c1_1 := HBt.out.c1
          have c1_2 := HBt.out.c2
          have c1_3 := HBt.out.c3
          have c1_4 := HBt.out.c4
          have c1_5 := HBt.out.c5
          have c1_6 := HBt.out.c6
          obtain ⟨ev, hP, hE⟩ := HM2.out.st.at_
          have c1 := hP.c1
          have f1 := hP.fr 1
          clear hP hE
          go_wp2_with fail
          have HMn3 := Lib.hid (HM2.out.jump 1 (by omega))
          obtain ⟨w3, hw3⟩ : ∃ W, W = w2.setCell ⟨X.P, 1, none⟩ (.int .i64 ((p.pos : Int) + 1)) := ⟨_, rfl⟩
          have hg3 : w2.grownBy w3 (some X.P) := by rw [hw3]; exact only_set1 _ _ _ _
          have HM3 := Lib.hid (show Mvd w w3 X (nextS p) by rw [hw3]; exact HMn3.out)
          have hs3 := hg3.size
          have HBr3 := Lib.hid (NdB.grown HBr2.out hg3 (show X.P < w.heap.size by omega))
          have HBt3 := Lib.hid (TkT.grown HBt.out hg3 (show X.P < wq.heap.size by omega))
          have HW3 := Lib.hid hw3
          clear hw3 hg3 HMn3
          rw [← HW3.out]
          clear c1 f1
          refine (may_f HM3.out.st (s := ⟨#[40]⟩) (L := [40]) rfl HB.out).mono ?_
          rintro e4 w4 ⟨rfl, hm4⟩
          have HM4 := Lib.hid (HM3.out.trans hm4)
          have hs4 := hm4.grown.size
          have HBr4 := Lib.hid (NdB.grown HBr3.out hm4.grown (show X.P < w.heap.size by omega))
          have HBt4 := Lib.hid (TkT.grown HBt3.out hm4.grown (show X.P < wq.heap.size by omega))
          clear hm4
          have c2_0 := HBt4.out.c0
          have c2_1 := HBt4.out.c1
          have c2_2 := HBt4.out.c2
          have c2_3 := HBt4.out.c3
          have c2_4 := HBt4.out.c4
          have c2_5 := HBt4.out.c5
          have c2_6 := HBt4.out.c6
          have c3_0 := HBr4.out.c0
          have f3_0 := HBr4.out.fr 0
          have c3_1 := HBr4.out.c1
          have f3_1 := HBr4.out.fr 1
          have c3_2 := HBr4.out.c2
          have f3_2 := HBr4.out.fr 2
          have c3_3 := HBr4.out.c3
          have f3_3 := HBr4.out.fr 3
          have c3_4 := HBr4.out.c4
          have f3_4 := HBr4.out.fr 4
          have c3_5 := HBr4.out.c5
          have f3_5 := HBr4.out.fr 5
          have c3_6 := HBr4.out.c6
          have f3_6 := HBr4.out.fr 6
          have c3_7 := HBr4.out.c7
          have f3_7 := HBr4.out.fr 7
          go_wp2_with fail
          refine ret_cell8 Tryz.results174 w.heap.size rfl rfl (HBr4.out.set8 _ _ _ _ _ _ _ _) ?_
          exact PNd.mk 2 (lineS X.l p) tk.s 0 0 ⟨#[]⟩ none 0 (.slice none 0 0) .nil _ HRR.out (HM4.out.node HBr4.out (by omega) (by omega) (only_set8 _ _ _ _ _ _ _ _ _ _)) (OwnN.nil _ _) (okN_leaf (by decide) (by decide)) (Nat.zero_le _) (by first | omega | (simp <;> omega))
      · obtain ⟨kd, hkd⟩ : ∃ kd, kd = tk.kind := ⟨_, rfl⟩
        have HK := Lib.hid hkd
        have n3 : (kd == 3) = false := beq_eq_false_iff_ne.2 (by rw [hkd]; exact hk3)
        have n1 : (kd == 1) = false := beq_eq_false_iff_ne.2 (by rw [hkd]; exact hk1)
        replace hr : (if isS X.l p [123] then (prsR X.l F (.items [125]) (nextS p)).bind fun (x, p1) => some (ndL 25 (lineS X.l p) x, p1)
          else if isS X.l p [40] then prsR X.l F (.within [41]) (nextS p)
          else if isS X.l p [36] then some (ndL 22 (lineS X.l p) ((nd 1 (lineS X.l p) ⟨#[]⟩ 1 0 ⟨#[]⟩ .nil).app (nd 1 (lineS X.l (nextS p)) ⟨#[]⟩ 2 0 (nameS X.l (nextS p)).1 .nil)), (nameS X.l (nextS p)).2)
          else if isS X.l p [96] then prsR X.l F (.caught (lineS X.l p)) (nextS p) else some (nd0, failS X.l p)) = some r := by
          rw [hkd] at n3 n1
          rw [← hr]; simp only [n3, n1]; rfl
        clear hk1 hk3 hkd
        cases hb : isS X.l p [123] with
        | true =>
          rw [hb] at hr
          have H123 := Lib.hid hb
          clear hb
          replace hr : ((prsR X.l F (.items [125]) (nextS p)).bind fun (x, p1) => some (ndL 25 (lineS X.l p) x, p1)) = some r := hr
          cases hq1 : prsR X.l F (.items [125]) (nextS p) with
          | none => rw [hq1] at hr; cases hr
          | some q1 =>
          obtain ⟨l1, p1⟩ := q1
          rw [hq1] at hr
          replace hr : some (ndL 25 (lineS X.l p) l1, p1) = some r := hr
          have HQ1 := Lib.hid hq1
          clear hq1
          have HRR := Lib.hid (show r = (ndL 25 (lineS X.l p) l1, p1) from (Option.some.inj hr).symm)
          clear hr
          obtain ⟨wa, hwa⟩ : ∃ wa, wa = (w).alloc (.cells #[.int .i64 0, .int .i64 0, .string ⟨#[]⟩, .int .i64 0, .int .i64 0, .string ⟨#[]⟩, .slice none 0 0, .slice none 0 0] 31) := ⟨_, rfl⟩
          have HMa := Lib.hid (show Mvd w wa X p by rw [hwa]; exact ((Mvd.of hst).alloc _))
          have hsa : wa.heap.size = w.heap.size + 1 := by rw [hwa]; simp
          have HZr := Lib.hid (show zN wa w.heap.size by rw [hwa]; exact (zN.new w))
          have HWA := Lib.hid hwa
          clear hwa
          go_enter Tryz.func174, Tryz.ntmps174
          go_wp2_with fail
          rw [← HWA.out]
          refine (line_t HMa.out.st).mono ?_
          rintro e1 w1 ⟨rfl, hm1⟩
          have HM1 := Lib.hid (HMa.out.trans hm1)
          have hs1 := hm1.grown.size
          have HBr1 := Lib.hid (NdB.grown HZr.out hm1.grown (show X.P < w.heap.size by omega))
          clear hm1
          obtain ⟨ev, hP, hE⟩ := HM1.out.st.at_
          obtain ⟨g, sa, sc, hA, hg, t0, t1, t2, t3, t4, t5, t6⟩ := HM1.out.st.tok HT.out
          have c0 := hP.c0
          rw [hA] at c0
          have c1 := hP.c1
          have c3 := hP.c3
          rw [HE.out] at hE
          obtain rfl : ev = .nilIface := hE
          have b0 : (0 : Int) ≤ (p.pos : Int) := by omega
          have b1 : (p.pos : Int) < (X.l.length : Int) := by omega
          have b2 : ¬ (X.l.length : Int) ≤ (p.pos : Int) := by omega
          have b3 : decide (X.l.length ≤ p.pos) = false := decide_eq_false (by omega)
          rw [← HK.out] at t0
          clear hP hA
          go_wp2_with fail
          go_quiet (fail)
          go_wp2_with fail
          generalize hwq : World.drewN _ _ = wq
          have hbq : Below w1.heap.size w1 wq := by rw [← hwq]; exact ⟨rfl, rfl, rfl, Nat.le_refl _, fun _ _ => rfl⟩
          have q0 : wq.cell? ⟨X.P, 0, none⟩ = some (.slice (some ⟨g, 0, none⟩) X.l.length X.c) := by rw [← hwq]; exact c0
          have q1 : wq.cell? ⟨X.P, 1, none⟩ = some (.int .i64 p.pos) := by rw [← hwq]; exact c1
          have r0 : wq.cell? ⟨g, p.pos * 7, none⟩ = some (.int .i64 kd) := by rw [← hwq]; exact t0
          have r1 : wq.cell? ⟨g, p.pos * 7 + 1, none⟩ = some (.int .i64 tk.line) := by rw [← hwq]; exact t1
          have r2 : wq.cell? ⟨g, p.pos * 7 + 2, none⟩ = some (.string tk.s) := by rw [← hwq]; exact t2
          have r3 : wq.cell? ⟨g, p.pos * 7 + 3, none⟩ = some (.int .i64 tk.k) := by rw [← hwq]; exact t3
          have r4 : wq.cell? ⟨g, p.pos * 7 + 4, none⟩ = some (.int .i64 tk.n) := by rw [← hwq]; exact t4
          have r5 : wq.cell? ⟨g, p.pos * 7 + 5, none⟩ = some (.string tk.t) := by rw [← hwq]; exact t5
          have r6 : wq.cell? ⟨g, p.pos * 7 + 6, none⟩ = some (.slice sa 0 sc) := by rw [← hwq]; exact t6
          clear hwq c0 c1 c3 t0 t1 t2 t3 t4 t5 t6
          go_region_held3 (fun W => W.cell? ⟨X.P, 0, none⟩ = some (.slice (some ⟨g, 0, none⟩) X.l.length X.c) ∧ W.cell? ⟨X.P, 1, none⟩ = some (.int .i64 p.pos) ∧ W.cell? ⟨g, p.pos * 7, none⟩ = some (.int .i64 kd) ∧ W.cell? ⟨g, p.pos * 7 + 1, none⟩ = some (.int .i64 tk.line) ∧ W.cell? ⟨g, p.pos * 7 + 2, none⟩ = some (.string tk.s) ∧ W.cell? ⟨g, p.pos * 7 + 3, none⟩ = some (.int .i64 tk.k) ∧ W.cell? ⟨g, p.pos * 7 + 4, none⟩ = some (.int .i64 tk.n) ∧ W.cell? ⟨g, p.pos * 7 + 5, none⟩ = some (.string tk.t) ∧ W.cell? ⟨g, p.pos * 7 + 6, none⟩ = some (.slice sa 0 sc)) (first | assumption | exact ⟨q0, q1, r0, r1, r2, r3, r4, r5, r6⟩ | go_keep) (fail)
          clear q0 q1 r0 r1 r2 r3 r4 r5 r6
          obtain ⟨w2, hw2⟩ : ∃ W, W = (wq.alloc (.cells #[.int .i64 kd, .int .i64 tk.line, .string tk.s, .int .i64 tk.k, .int .i64 tk.n, .string tk.t, .slice sa 0 sc] 55)).drew := ⟨_, rfl⟩
          have hb2 : Below w1.heap.size w1 w2 := by rw [hw2]; exact (hbq.alloc hbq.size _).drew
          have hsq := hbq.size
          have HBt := Lib.hid (show TkT w2 wq.heap.size (.int .i64 kd) (.int .i64 tk.line) (.string tk.s) (.int .i64 tk.k) (.int .i64 tk.n) (.string tk.t) (.slice sa 0 sc) by rw [hw2]; exact heap_alloc_new wq _)
          have hsw : w2.heap.size = wq.heap.size + 1 := by rw [hw2]; show (wq.alloc _).heap.size = _; simp
          have HW2 := Lib.hid hw2
          clear hw2 hbq b0 b1 b2 b3
          have hs2 := hb2.size
          have HM2 := Lib.hid (HM1.out.below hb2)
          have HBr2 := Lib.hid (HBr1.out.below' hb2)
          clear hb2
          rw [← HW2.out]
          have c1_0 := HBt.out.c0
          have c1_1 := HBt.out.c1
          have c1_2 := HBt.out.c2
          have c1_3 := HBt.out.c3
          have c1_4 := HBt.out.c4
          have c1_5 := HBt.out.c5
          have c1_6 := HBt.out.c6
          go_wp2_with fail
          refine (may_t HM2.out.st (s := ⟨#[123]⟩) (L := [123]) rfl H123.out).mono ?_
          rintro e3 w3 ⟨rfl, hm3⟩
          have HM3 := Lib.hid (HM2.out.trans hm3)
          have hs3 := hm3.grown.size
          have HBr3 := Lib.hid (NdB.grown HBr2.out hm3.grown (show X.P < w.heap.size by omega))
          have HBt3 := Lib.hid (TkT.grown HBt.out hm3.grown (show X.P < wq.heap.size by omega))
          clear hm3
          go_wp2_with fail
          refine (IH.out.items F (Nat.le_refl _) ⟨#[125]⟩ w3 _ _ HM3.out.st (by first | omega | (simp <;> omega)) (by first | omega | (simp <;> omega)) HQ1.out).mono ?_
          rintro e4 w4 ⟨V4, rfl, hm4, ho4, hk4, hl4, hd4⟩
          obtain ⟨A4, cc4, rfl⟩ := ho4.form
          have hk4 := Lib.hid (show okN l1 from hk4)
          replace hl4 : l1.len ≤ 2 * _ + 2 := hl4
          have hd4 : p1.deep = p.deep + 0 := by have h : p1.deep = (nextS p).deep := hd4; (try simp at h); omega
          have HM4 := Lib.hid (HM3.out.trans hm4)
          have hs4 := hm4.grown.size
          have HBr4 := Lib.hid (NdB.grown HBr3.out hm4.grown (show X.P < w.heap.size by omega))
          have HO4 := Lib.hid (ho4.wide (D' := DG w3.heap.size 0) (fun k hk hk2 => ⟨hk, by omega⟩))
          clear hm4 ho4
          have c2_0 := HBr4.out.c0
          have f2_0 := HBr4.out.fr 0
          have c2_1 := HBr4.out.c1
          have f2_1 := HBr4.out.fr 1
          have c2_2 := HBr4.out.c2
          have f2_2 := HBr4.out.fr 2
          have c2_3 := HBr4.out.c3
          have f2_3 := HBr4.out.fr 3
          have c2_4 := HBr4.out.c4
          have f2_4 := HBr4.out.fr 4
          have c2_5 := HBr4.out.c5
          have f2_5 := HBr4.out.fr 5
          have c2_6 := HBr4.out.c6
          have f2_6 := HBr4.out.fr 6
          have c2_7 := HBr4.out.c7
          have f2_7 := HBr4.out.fr 7
          go_wp2_with fail
          refine ret_cell8 Tryz.results174 w.heap.size rfl rfl (HBr4.out.set8 _ _ _ _ _ _ _ _) ?_
          exact PNd.mk 25 (lineS X.l p) ⟨#[]⟩ 0 0 ⟨#[]⟩ none 0 _ l1 _ HRR.out (HM4.out.node HBr4.out (by omega) (by omega) (only_set8 _ _ _ _ _ _ _ _ _ _)) (own_end (w0 := w.heap.size) (g := w.heap.size) HO4.out (by omega) (only_set8 _ _ _ _ _ _ _ _ _ _) (by omega)) (okN_nd hk4.out (fun h => by rcases h with h | h <;> cases h)) (by omega) (by first | omega | (simp <;> omega))
        | false =>
          rw [hb] at hr
          have H123 := Lib.hid hb
          clear hb
          cases hb : isS X.l p [40] with
          | true =>
            rw [hb] at hr
            have H40 := Lib.hid hb
            clear hb
            have HQ1 := Lib.hid (show prsR X.l F (.within [41]) (nextS p) = some r from hr)
            clear hr
            obtain ⟨n1, p1⟩ := r
            obtain ⟨wa, hwa⟩ : ∃ wa, wa = (w).alloc (.cells #[.int .i64 0, .int .i64 0, .string ⟨#[]⟩, .int .i64 0, .int .i64 0, .string ⟨#[]⟩, .slice none 0 0, .slice none 0 0] 31) := ⟨_, rfl⟩
            have HMa := Lib.hid (show Mvd w wa X p by rw [hwa]; exact ((Mvd.of hst).alloc _))
            have hsa : wa.heap.size = w.heap.size + 1 := by rw [hwa]; simp
            have HZr := Lib.hid (show zN wa w.heap.size by rw [hwa]; exact (zN.new w))
            have HWA := Lib.hid hwa
            clear hwa
            go_enter Tryz.func174, Tryz.ntmps174
            go_wp2_with fail
            rw [← HWA.out]
            refine (line_t HMa.out.st).mono ?_
            rintro e1 w1 ⟨rfl, hm1⟩
            have HM1 := Lib.hid (HMa.out.trans hm1)
            have hs1 := hm1.grown.size
            have HBr1 := Lib.hid (NdB.grown HZr.out hm1.grown (show X.P < w.heap.size by omega))
            clear hm1
            obtain ⟨ev, hP, hE⟩ := HM1.out.st.at_
            obtain ⟨g, sa, sc, hA, hg, t0, t1, t2, t3, t4, t5, t6⟩ := HM1.out.st.tok HT.out
            have c0 := hP.c0
            rw [hA] at c0
            have c1 := hP.c1
            have c3 := hP.c3
            rw [HE.out] at hE
            obtain rfl : ev = .nilIface := hE
            have b0 : (0 : Int) ≤ (p.pos : Int) := by omega
            have b1 : (p.pos : Int) < (X.l.length : Int) := by omega
            have b2 : ¬ (X.l.length : Int) ≤ (p.pos : Int) := by omega
            have b3 : decide (X.l.length ≤ p.pos) = false := decide_eq_false (by omega)
            rw [← HK.out] at t0
            clear hP hA
            go_wp2_with fail
            go_quiet (fail)
            go_wp2_with fail
            generalize hwq : World.drewN _ _ = wq
            have hbq : Below w1.heap.size w1 wq := by rw [← hwq]; exact ⟨rfl, rfl, rfl, Nat.le_refl _, fun _ _ => rfl⟩
            have q0 : wq.cell? ⟨X.P, 0, none⟩ = some (.slice (some ⟨g, 0, none⟩) X.l.length X.c) := by rw [← hwq]; exact c0
            have q1 : wq.cell? ⟨X.P, 1, none⟩ = some (.int .i64 p.pos) := by rw [← hwq]; exact c1
            have r0 : wq.cell? ⟨g, p.pos * 7, none⟩ = some (.int .i64 kd) := by rw [← hwq]; exact t0
            have r1 : wq.cell? ⟨g, p.pos * 7 + 1, none⟩ = some (.int .i64 tk.line) := by rw [← hwq]; exact t1
            have r2 : wq.cell? ⟨g, p.pos * 7 + 2, none⟩ = some (.string tk.s) := by rw [← hwq]; exact t2
            have r3 : wq.cell? ⟨g, p.pos * 7 + 3, none⟩ = some (.int .i64 tk.k) := by rw [← hwq]; exact t3
            have r4 : wq.cell? ⟨g, p.pos * 7 + 4, none⟩ = some (.int .i64 tk.n) := by rw [← hwq]; exact t4
            have r5 : wq.cell? ⟨g, p.pos * 7 + 5, none⟩ = some (.string tk.t) := by rw [← hwq]; exact t5
            have r6 : wq.cell? ⟨g, p.pos * 7 + 6, none⟩ = some (.slice sa 0 sc) := by rw [← hwq]; exact t6
            clear hwq c0 c1 c3 t0 t1 t2 t3 t4 t5 t6
            go_region_held3 (fun W => W.cell? ⟨X.P, 0, none⟩ = some (.slice (some ⟨g, 0, none⟩) X.l.length X.c) ∧ W.cell? ⟨X.P, 1, none⟩ = some (.int .i64 p.pos) ∧ W.cell? ⟨g, p.pos * 7, none⟩ = some (.int .i64 kd) ∧ W.cell? ⟨g, p.pos * 7 + 1, none⟩ = some (.int .i64 tk.line) ∧ W.cell? ⟨g, p.pos * 7 + 2, none⟩ = some (.string tk.s) ∧ W.cell? ⟨g, p.pos * 7 + 3, none⟩ = some (.int .i64 tk.k) ∧ W.cell? ⟨g, p.pos * 7 + 4, none⟩ = some (.int .i64 tk.n) ∧ W.cell? ⟨g, p.pos * 7 + 5, none⟩ = some (.string tk.t) ∧ W.cell? ⟨g, p.pos * 7 + 6, none⟩ = some (.slice sa 0 sc)) (first | assumption | exact ⟨q0, q1, r0, r1, r2, r3, r4, r5, r6⟩ | go_keep) (fail)
            clear q0 q1 r0 r1 r2 r3 r4 r5 r6
            obtain ⟨w2, hw2⟩ : ∃ W, W = (wq.alloc (.cells #[.int .i64 kd, .int .i64 tk.line, .string tk.s, .int .i64 tk.k, .int .i64 tk.n, .string tk.t, .slice sa 0 sc] 55)).drew := ⟨_, rfl⟩
            have hb2 : Below w1.heap.size w1 w2 := by rw [hw2]; exact (hbq.alloc hbq.size _).drew
            have hsq := hbq.size
            have HBt := Lib.hid (show TkT w2 wq.heap.size (.int .i64 kd) (.int .i64 tk.line) (.string tk.s) (.int .i64 tk.k) (.int .i64 tk.n) (.string tk.t) (.slice sa 0 sc) by rw [hw2]; exact heap_alloc_new wq _)
            have hsw : w2.heap.size = wq.heap.size + 1 := by rw [hw2]; show (wq.alloc _).heap.size = _; simp
            have HW2 := Lib.hid hw2
            clear hw2 hbq b0 b1 b2 b3
            have hs2 := hb2.size
            have HM2 := Lib.hid (HM1.out.below hb2)
            have HBr2 := Lib.hid (HBr1.out.below' hb2)
            clear hb2
            rw [← HW2.out]
            have c1_0 := HBt.out.c0
            have c1_1 := HBt.out.c1
            have c1_2 := HBt.out.c2
            have c1_3 := HBt.out.c3
            have c1_4 := HBt.out.c4
            have c1_5 := HBt.out.c5
            have c1_6 := HBt.out.c6
            go_wp2_with fail
            refine (may_f HM2.out.st (s := ⟨#[123]⟩) (L := [123]) rfl H123.out).mono ?_
            rintro e3 w3 ⟨rfl, hm3⟩
            have HM3 := Lib.hid (HM2.out.trans hm3)
            have hs3 := hm3.grown.size
            have HBr3 := Lib.hid (NdB.grown HBr2.out hm3.grown (show X.P < w.heap.size by omega))
            have HBt3 := Lib.hid (TkT.grown HBt.out hm3.grown (show X.P < wq.heap.size by omega))
            clear hm3
            go_wp2_with fail
            refine (may_t HM3.out.st (s := ⟨#[40]⟩) (L := [40]) rfl H40.out).mono ?_
            rintro e4 w4 ⟨rfl, hm4⟩
            have HM4 := Lib.hid (HM3.out.trans hm4)
            have hs4 := hm4.grown.size
            have HBr4 := Lib.hid (NdB.grown HBr3.out hm4.grown (show X.P < w.heap.size by omega))
            have HBt4 := Lib.hid (TkT.grown HBt3.out hm4.grown (show X.P < wq.heap.size by omega))
            clear hm4
            go_wp2_with fail
            refine (IH.out.within F (Nat.le_refl _) ⟨#[41]⟩ w4 _ _ HM4.out.st (by first | omega | (simp <;> omega)) (by first | omega | (simp <;> omega)) HQ1.out).mono ?_
            rintro e5 w5 ⟨op5, ln5, t5, k5, m5, u5, va5, vc5, V5, sub5, hn5, rfl, hm5, ho5, hk5, hl5, hd5⟩
            obtain ⟨A5, cc5, rfl⟩ := ho5.form
            have hn5 : n1 = nd op5 ln5 t5 k5 m5 u5 sub5 := hn5
            subst hn5
            have hk5 := Lib.hid hk5
            have hd5 : p1.deep = p.deep + 0 := by have h : p1.deep = (nextS p).deep := hd5; (try simp at h); omega
            have HM5 := Lib.hid (HM4.out.trans hm5)
            have hs5 := hm5.grown.size
            have HBr5 := Lib.hid (NdB.grown HBr4.out hm5.grown (show X.P < w.heap.size by omega))
            have HO5 := Lib.hid (ho5.wide (D' := DG w4.heap.size 0) (fun k hk hk2 => ⟨hk, by omega⟩))
            clear hm5 ho5
            unfold nd8
            have c2_0 := HBr5.out.c0
            have f2_0 := HBr5.out.fr 0
            have c2_1 := HBr5.out.c1
            have f2_1 := HBr5.out.fr 1
            have c2_2 := HBr5.out.c2
            have f2_2 := HBr5.out.fr 2
            have c2_3 := HBr5.out.c3
            have f2_3 := HBr5.out.fr 3
            have c2_4 := HBr5.out.c4
            have f2_4 := HBr5.out.fr 4
            have c2_5 := HBr5.out.c5
            have f2_5 := HBr5.out.fr 5
            have c2_6 := HBr5.out.c6
            have f2_6 := HBr5.out.fr 6
            have c2_7 := HBr5.out.c7
            have f2_7 := HBr5.out.fr 7
            go_wp2_with fail
            have HRR := Lib.hid (rfl : (nd op5 ln5 t5 k5 m5 u5 sub5, p1) = (nd op5 ln5 t5 k5 m5 u5 sub5, p1))
            refine ret_cell8 Tryz.results174 w.heap.size rfl rfl (HBr5.out.set8 _ _ _ _ _ _ _ _) ?_
            exact PNd.mk op5 ln5 t5 k5 m5 u5 va5 vc5 _ sub5 _ HRR.out (HM5.out.node HBr5.out (by omega) (by omega) (only_set8 _ _ _ _ _ _ _ _ _ _)) (own_end (w0 := w.heap.size) (g := w.heap.size) HO5.out (by omega) (only_set8 _ _ _ _ _ _ _ _ _ _) (by omega)) hk5.out (by omega) (by first | omega | (simp <;> omega))
          | false =>
            rw [hb] at hr
            have H40 := Lib.hid hb
            clear hb
            cases hb : isS X.l p [36] with
            | true =>
              rw [hb] at hr
              have H36 := Lib.hid hb
              clear hb
              have HRR := Lib.hid (show r = (ndL 22 (lineS X.l p) ((nd 1 (lineS X.l p) ⟨#[]⟩ 1 0 ⟨#[]⟩ .nil).app (nd 1 (lineS X.l (nextS p)) ⟨#[]⟩ 2 0 (nameS X.l (nextS p)).1 .nil)), (nameS X.l (nextS p)).2) from (Option.some.inj hr).symm)
              clear hr
              obtain ⟨wa, hwa⟩ : ∃ wa, wa = (w).alloc (.cells #[.int .i64 0, .int .i64 0, .string ⟨#[]⟩, .int .i64 0, .int .i64 0, .string ⟨#[]⟩, .slice none 0 0, .slice none 0 0] 31) := ⟨_, rfl⟩
              have HMa := Lib.hid (show Mvd w wa X p by rw [hwa]; exact ((Mvd.of hst).alloc _))
              have hsa : wa.heap.size = w.heap.size + 1 := by rw [hwa]; simp
              have HZr := Lib.hid (show zN wa w.heap.size by rw [hwa]; exact (zN.new w))
              have HWA := Lib.hid hwa
              clear hwa
              go_enter Tryz.func174, Tryz.ntmps174
              go_wp2_with fail
              rw [← HWA.out]
              refine (line_t HMa.out.st).mono ?_
              rintro e1 w1 ⟨rfl, hm1⟩
              have HM1 := Lib.hid (HMa.out.trans hm1)
              have hs1 := hm1.grown.size
              have HBr1 := Lib.hid (NdB.grown HZr.out hm1.grown (show X.P < w.heap.size by omega))
              clear hm1
              obtain ⟨ev, hP, hE⟩ := HM1.out.st.at_
              obtain ⟨g, sa, sc, hA, hg, t0, t1, t2, t3, t4, t5, t6⟩ := HM1.out.st.tok HT.out
              have c0 := hP.c0
              rw [hA] at c0
              have c1 := hP.c1
              have c3 := hP.c3
              rw [HE.out] at hE
              obtain rfl : ev = .nilIface := hE
              have b0 : (0 : Int) ≤ (p.pos : Int) := by omega
              have b1 : (p.pos : Int) < (X.l.length : Int) := by omega
              have b2 : ¬ (X.l.length : Int) ≤ (p.pos : Int) := by omega
              have b3 : decide (X.l.length ≤ p.pos) = false := decide_eq_false (by omega)
              rw [← HK.out] at t0
              clear hP hA
              go_wp2_with fail
              go_quiet (fail)
              go_wp2_with fail
              generalize hwq : World.drewN _ _ = wq
              have hbq : Below w1.heap.size w1 wq := by rw [← hwq]; exact ⟨rfl, rfl, rfl, Nat.le_refl _, fun _ _ => rfl⟩
              have q0 : wq.cell? ⟨X.P, 0, none⟩ = some (.slice (some ⟨g, 0, none⟩) X.l.length X.c) := by rw [← hwq]; exact c0
              have q1 : wq.cell? ⟨X.P, 1, none⟩ = some (.int .i64 p.pos) := by rw [← hwq]; exact c1
              have r0 : wq.cell? ⟨g, p.pos * 7, none⟩ = some (.int .i64 kd) := by rw [← hwq]; exact t0
              have r1 : wq.cell? ⟨g, p.pos * 7 + 1, none⟩ = some (.int .i64 tk.line) := by rw [← hwq]; exact t1
              have r2 : wq.cell? ⟨g, p.pos * 7 + 2, none⟩ = some (.string tk.s) := by rw [← hwq]; exact t2
              have r3 : wq.cell? ⟨g, p.pos * 7 + 3, none⟩ = some (.int .i64 tk.k) := by rw [← hwq]; exact t3
              have r4 : wq.cell? ⟨g, p.pos * 7 + 4, none⟩ = some (.int .i64 tk.n) := by rw [← hwq]; exact t4
              have r5 : wq.cell? ⟨g, p.pos * 7 + 5, none⟩ = some (.string tk.t) := by rw [← hwq]; exact t5
              have r6 : wq.cell? ⟨g, p.pos * 7 + 6, none⟩ = some (.slice sa 0 sc) := by rw [← hwq]; exact t6
              clear hwq c0 c1 c3 t0 t1 t2 t3 t4 t5 t6
              go_region_held3 (fun W => W.cell? ⟨X.P, 0, none⟩ = some (.slice (some ⟨g, 0, none⟩) X.l.length X.c) ∧ W.cell? ⟨X.P, 1, none⟩ = some (.int .i64 p.pos) ∧ W.cell? ⟨g, p.pos * 7, none⟩ = some (.int .i64 kd) ∧ W.cell? ⟨g, p.pos * 7 + 1, none⟩ = some (.int .i64 tk.line) ∧ W.cell? ⟨g, p.pos * 7 + 2, none⟩ = some (.string tk.s) ∧ W.cell? ⟨g, p.pos * 7 + 3, none⟩ = some (.int .i64 tk.k) ∧ W.cell? ⟨g, p.pos * 7 + 4, none⟩ = some (.int .i64 tk.n) ∧ W.cell? ⟨g, p.pos * 7 + 5, none⟩ = some (.string tk.t) ∧ W.cell? ⟨g, p.pos * 7 + 6, none⟩ = some (.slice sa 0 sc)) (first | assumption | exact ⟨q0, q1, r0, r1, r2, r3, r4, r5, r6⟩ | go_keep) (fail)
              clear q0 q1 r0 r1 r2 r3 r4 r5 r6
              obtain ⟨w2, hw2⟩ : ∃ W, W = (wq.alloc (.cells #[.int .i64 kd, .int .i64 tk.line, .string tk.s, .int .i64 tk.k, .int .i64 tk.n, .string tk.t, .slice sa 0 sc] 55)).drew := ⟨_, rfl⟩
              have hb2 : Below w1.heap.size w1 w2 := by rw [hw2]; exact (hbq.alloc hbq.size _).drew
              have hsq := hbq.size
              have HBt := Lib.hid (show TkT w2 wq.heap.size (.int .i64 kd) (.int .i64 tk.line) (.string tk.s) (.int .i64 tk.k) (.int .i64 tk.n) (.string tk.t) (.slice sa 0 sc) by rw [hw2]; exact heap_alloc_new wq _)
              have hsw : w2.heap.size = wq.heap.size + 1 := by rw [hw2]; show (wq.alloc _).heap.size = _; simp
              have HW2 := Lib.hid hw2
              clear hw2 hbq b0 b1 b2 b3
              have hs2 := hb2.size
              have HM2 := Lib.hid (HM1.out.below hb2)
              have HBr2 := Lib.hid (HBr1.out.below' hb2)
              clear hb2
              rw [← HW2.out]
              have c1_0 := HBt.out.c0
              have c1_1 := HBt.out.c1
              have c1_2 := HBt.out.c2
              have c1_3 := HBt.out.c3
              have c1_4 := HBt.out.c4
              have c1_5 := HBt.out.c5
              have c1_6 := HBt.out.c6
              go_wp2_with fail
              refine (may_f HM2.out.st (s := ⟨#[123]⟩) (L := [123]) rfl H123.out).mono ?_
              rintro e3 w3 ⟨rfl, hm3⟩
              have HM3 := Lib.hid (HM2.out.trans hm3)
              have hs3 := hm3.grown.size
              have HBr3 := Lib.hid (NdB.grown HBr2.out hm3.grown (show X.P < w.heap.size by omega))
              have HBt3 := Lib.hid (TkT.grown HBt.out hm3.grown (show X.P < wq.heap.size by omega))
              clear hm3
              go_wp2_with fail
              refine (may_f HM3.out.st (s := ⟨#[40]⟩) (L := [40]) rfl H40.out).mono ?_
              rintro e4 w4 ⟨rfl, hm4⟩
              have HM4 := Lib.hid (HM3.out.trans hm4)
              have hs4 := hm4.grown.size
              have HBr4 := Lib.hid (NdB.grown HBr3.out hm4.grown (show X.P < w.heap.size by omega))
              have HBt4 := Lib.hid (TkT.grown HBt3.out hm4.grown (show X.P < wq.heap.size by omega))
              clear hm4
              go_wp2_with fail
              refine (may_t HM4.out.st (s := ⟨#[36]⟩) (L := [36]) rfl H36.out).mono ?_
              rintro e5 w5 ⟨rfl, hm5⟩
              have HM5 := Lib.hid (HM4.out.trans hm5)
              have hs5 := hm5.grown.size
              have HBr5 := Lib.hid (NdB.grown HBr4.out hm5.grown (show X.P < w.heap.size by omega))
              have HBt5 := Lib.hid (TkT.grown HBt4.out hm5.grown (show X.P < wq.heap.size by omega))
              clear hm5
              go_wp2_with fail
              refine (line_t HM5.out.st).mono ?_
              rintro e6 w6 ⟨rfl, hm6⟩
              have HM6 := Lib.hid (HM5.out.trans hm6)
              have hs6 := hm6.grown.size
              have HBr6 := Lib.hid (NdB.grown HBr5.out hm6.grown (show X.P < w.heap.size by omega))
              clear hm6
              go_wp2_with fail
              refine (name_pc X _ _ HM6.out.st).mono ?_
              rintro e7 w7 ⟨rfl, hm7⟩
              have HM7 := Lib.hid (HM6.out.trans hm7)
              have hs7 := hm7.grown.size
              have HBr7 := Lib.hid (NdB.grown HBr6.out hm7.grown (show X.P < w.heap.size by omega))
              clear hm7
              obtain ⟨nm, hnm⟩ : ∃ nm, nm = (nameS X.l (nextS p)).1 := ⟨_, rfl⟩
              obtain ⟨lm, hlm⟩ : ∃ lm, lm = lineS X.l (nextS p) := ⟨_, rfl⟩
              rw [← hnm, ← hlm] at HRR
              rw [← hnm, ← hlm]
              clear hnm hlm
              go_upto_region 21 with fail
              obtain ⟨w8, hw8⟩ : ∃ w8, w8 = (w7.alloc (.cells #[.int .i64 1, .int .i64 lm, .string ⟨#[]⟩, .int .i64 2, .int .i64 0, .string nm, .slice none 0 0, .slice none 0 0] 31)) := ⟨_, rfl⟩
              have hb8 : Below w7.heap.size w7 w8 := by rw [hw8]; exact ((Below.refl _ _).alloc (Nat.le_refl _) _)
              have HBnn8 := Lib.hid (show NdB w8 w7.heap.size (.int .i64 1) (.int .i64 lm) (.string ⟨#[]⟩) (.int .i64 2) (.int .i64 0) (.string nm) (.slice none 0 0) (.slice none 0 0) by rw [hw8]; exact NdB.new _ _ _ _ _ _ _ _ _)
              have hs8 : w8.heap.size = w7.heap.size + 1 := by rw [hw8]; simp
              have HM8 := Lib.hid (HM7.out.below hb8)
              have HBr8 := Lib.hid (HBr7.out.below' hb8)
              have HW8 := Lib.hid hw8
              clear hw8 hb8
              rw [← HW8.out]
              have c2_0 := HBnn8.out.c0
              have c2_1 := HBnn8.out.c1
              have c2_2 := HBnn8.out.c2
              have c2_3 := HBnn8.out.c3
              have c2_4 := HBnn8.out.c4
              have c2_5 := HBnn8.out.c5
              have c2_6 := HBnn8.out.c6
              have c2_7 := HBnn8.out.c7
              have rc0 := fun o => (NdB.alloc HBr8.out o).c0
              have rf0 := fun o => (NdB.alloc HBr8.out o).fr 0
              have rc1 := fun o => (NdB.alloc HBr8.out o).c1
              have rf1 := fun o => (NdB.alloc HBr8.out o).fr 1
              have rc2 := fun o => (NdB.alloc HBr8.out o).c2
              have rf2 := fun o => (NdB.alloc HBr8.out o).fr 2
              have rc3 := fun o => (NdB.alloc HBr8.out o).c3
              have rf3 := fun o => (NdB.alloc HBr8.out o).fr 3
              have rc4 := fun o => (NdB.alloc HBr8.out o).c4
              have rf4 := fun o => (NdB.alloc HBr8.out o).fr 4
              have rc5 := fun o => (NdB.alloc HBr8.out o).c5
              have rf5 := fun o => (NdB.alloc HBr8.out o).fr 5
              have rc6 := fun o => (NdB.alloc HBr8.out o).c6
              have rf6 := fun o => (NdB.alloc HBr8.out o).fr 6
              have rc7 := fun o => (NdB.alloc HBr8.out o).c7
              have rf7 := fun o => (NdB.alloc HBr8.out o).fr 7
              go_wp2_with fail
              obtain ⟨w9, hw9⟩ : ∃ W, W = w8.alloc (.cells #[.int .i64 1, .int .i64 (lineS X.l p), .string ⟨#[]⟩, .int .i64 1, .int .i64 0, .string ⟨#[]⟩, .slice none 0 0, .slice none 0 0, .int .i64 1, .int .i64 lm, .string ⟨#[]⟩, .int .i64 2, .int .i64 0, .string nm, .slice none 0 0, .slice none 0 0] 31) := ⟨_, rfl⟩
              have hb9 : Below w8.heap.size w8 w9 := by rw [hw9]; exact (Below.refl _ _).alloc (Nat.le_refl _) _
              have HOD := Lib.hid (show OwnN w9 (DG wa.heap.size 0) (.slice (some ⟨w7.heap.size + 1, 0, none⟩) 2 2) ((nd 1 (lineS X.l p) ⟨#[]⟩ 1 0 ⟨#[]⟩ .nil).app (nd 1 lm ⟨#[]⟩ 2 0 nm .nil)) by rw [hw9, ← hs8]; exact OwnN.lit (D := DG wa.heap.size 0) (two_lits w8 _ _ lm nm) ⟨by omega, by omega⟩ (by show 2 ≤ _; decide))
              have HW9 := Lib.hid hw9
              clear hw9
              have hs9 := hb9.size
              have HM9 := Lib.hid (HM8.out.below hb9)
              have HBr9 := Lib.hid (HBr8.out.below' hb9)
              have HBnn9 := Lib.hid (HBnn8.out.below' hb9)
              clear hb9
              rw [← HW9.out]
              refine ret_cell8 Tryz.results174 w.heap.size rfl rfl (HBr9.out.set8 _ _ _ _ _ _ _ _) ?_
              exact PNd.mk 22 (lineS X.l p) ⟨#[]⟩ 0 0 ⟨#[]⟩ none 0 (.slice (some ⟨w7.heap.size + 1, 0, none⟩) 2 2) ((nd 1 (lineS X.l p) ⟨#[]⟩ 1 0 ⟨#[]⟩ .nil).app (nd 1 lm ⟨#[]⟩ 2 0 nm .nil)) _ HRR.out (HM9.out.node HBr9.out (by omega) (by omega) (only_set8 _ _ _ _ _ _ _ _ _ _)) (own_end (w0 := w.heap.size) (g := w.heap.size) HOD.out (by omega) (only_set8 _ _ _ _ _ _ _ _ _ _) (by omega)) (okN_nd (okN_app _ _ (okN_leaf (by decide) (by decide)) (okN_leaf (by decide) (by decide))) (fun h => by rcases h with h | h <;> cases h)) (by rw [NL.len_app, len_nd, len_nd]; omega) (show (nameS X.l (nextS p)).2.deep = p.deep by rw [nameS_deep]; rfl)
            | false =>
              rw [hb] at hr
              have H36 := Lib.hid hb
              clear hb
              cases hb : isS X.l p [96] with
              | true =>
                rw [hb] at hr
                have H96 := Lib.hid hb
                clear hb
                have HQ1 := Lib.hid (show prsR X.l F (.caught (lineS X.l p)) (nextS p) = some r from hr)
                clear hr
                obtain ⟨n1, p1⟩ := r
                obtain ⟨wa, hwa⟩ : ∃ wa, wa = (w).alloc (.cells #[.int .i64 0, .int .i64 0, .string ⟨#[]⟩, .int .i64 0, .int .i64 0, .string ⟨#[]⟩, .slice none 0 0, .slice none 0 0] 31) := ⟨_, rfl⟩
                have HMa := Lib.hid (show Mvd w wa X p by rw [hwa]; exact ((Mvd.of hst).alloc _))
                have hsa : wa.heap.size = w.heap.size + 1 := by rw [hwa]; simp
                have HZr := Lib.hid (show zN wa w.heap.size by rw [hwa]; exact (zN.new w))
                have HWA := Lib.hid hwa
                clear hwa
                go_enter Tryz.func174, Tryz.ntmps174
                go_wp2_with fail
                rw [← HWA.out]
                refine (line_t HMa.out.st).mono ?_
                rintro e1 w1 ⟨rfl, hm1⟩
                have HM1 := Lib.hid (HMa.out.trans hm1)
                have hs1 := hm1.grown.size
                have HBr1 := Lib.hid (NdB.grown HZr.out hm1.grown (show X.P < w.heap.size by omega))
                clear hm1
                obtain ⟨ev, hP, hE⟩ := HM1.out.st.at_
                obtain ⟨g, sa, sc, hA, hg, t0, t1, t2, t3, t4, t5, t6⟩ := HM1.out.st.tok HT.out
                have c0 := hP.c0
                rw [hA] at c0
                have c1 := hP.c1
                have c3 := hP.c3
                rw [HE.out] at hE
                obtain rfl : ev = .nilIface := hE
                have b0 : (0 : Int) ≤ (p.pos : Int) := by omega
                have b1 : (p.pos : Int) < (X.l.length : Int) := by omega
                have b2 : ¬ (X.l.length : Int) ≤ (p.pos : Int) := by omega
                have b3 : decide (X.l.length ≤ p.pos) = false := decide_eq_false (by omega)
                rw [← HK.out] at t0
                clear hP hA
                go_wp2_with fail
                go_quiet (fail)
                go_wp2_with fail
                generalize hwq : World.drewN _ _ = wq
                have hbq : Below w1.heap.size w1 wq := by rw [← hwq]; exact ⟨rfl, rfl, rfl, Nat.le_refl _, fun _ _ => rfl⟩
                have q0 : wq.cell? ⟨X.P, 0, none⟩ = some (.slice (some ⟨g, 0, none⟩) X.l.length X.c) := by rw [← hwq]; exact c0
                have q1 : wq.cell? ⟨X.P, 1, none⟩ = some (.int .i64 p.pos) := by rw [← hwq]; exact c1
                have r0 : wq.cell? ⟨g, p.pos * 7, none⟩ = some (.int .i64 kd) := by rw [← hwq]; exact t0
                have r1 : wq.cell? ⟨g, p.pos * 7 + 1, none⟩ = some (.int .i64 tk.line) := by rw [← hwq]; exact t1
                have r2 : wq.cell? ⟨g, p.pos * 7 + 2, none⟩ = some (.string tk.s) := by rw [← hwq]; exact t2
                have r3 : wq.cell? ⟨g, p.pos * 7 + 3, none⟩ = some (.int .i64 tk.k) := by rw [← hwq]; exact t3
                have r4 : wq.cell? ⟨g, p.pos * 7 + 4, none⟩ = some (.int .i64 tk.n) := by rw [← hwq]; exact t4
                have r5 : wq.cell? ⟨g, p.pos * 7 + 5, none⟩ = some (.string tk.t) := by rw [← hwq]; exact t5
                have r6 : wq.cell? ⟨g, p.pos * 7 + 6, none⟩ = some (.slice sa 0 sc) := by rw [← hwq]; exact t6
                clear hwq c0 c1 c3 t0 t1 t2 t3 t4 t5 t6
                go_region_held3 (fun W => W.cell? ⟨X.P, 0, none⟩ = some (.slice (some ⟨g, 0, none⟩) X.l.length X.c) ∧ W.cell? ⟨X.P, 1, none⟩ = some (.int .i64 p.pos) ∧ W.cell? ⟨g, p.pos * 7, none⟩ = some (.int .i64 kd) ∧ W.cell? ⟨g, p.pos * 7 + 1, none⟩ = some (.int .i64 tk.line) ∧ W.cell? ⟨g, p.pos * 7 + 2, none⟩ = some (.string tk.s) ∧ W.cell? ⟨g, p.pos * 7 + 3, none⟩ = some (.int .i64 tk.k) ∧ W.cell? ⟨g, p.pos * 7 + 4, none⟩ = some (.int .i64 tk.n) ∧ W.cell? ⟨g, p.pos * 7 + 5, none⟩ = some (.string tk.t) ∧ W.cell? ⟨g, p.pos * 7 + 6, none⟩ = some (.slice sa 0 sc)) (first | assumption | exact ⟨q0, q1, r0, r1, r2, r3, r4, r5, r6⟩ | go_keep) (fail)
                clear q0 q1 r0 r1 r2 r3 r4 r5 r6
                obtain ⟨w2, hw2⟩ : ∃ W, W = (wq.alloc (.cells #[.int .i64 kd, .int .i64 tk.line, .string tk.s, .int .i64 tk.k, .int .i64 tk.n, .string tk.t, .slice sa 0 sc] 55)).drew := ⟨_, rfl⟩
                have hb2 : Below w1.heap.size w1 w2 := by rw [hw2]; exact (hbq.alloc hbq.size _).drew
                have hsq := hbq.size
                have HBt := Lib.hid (show TkT w2 wq.heap.size (.int .i64 kd) (.int .i64 tk.line) (.string tk.s) (.int .i64 tk.k) (.int .i64 tk.n) (.string tk.t) (.slice sa 0 sc) by rw [hw2]; exact heap_alloc_new wq _)
                have hsw : w2.heap.size = wq.heap.size + 1 := by rw [hw2]; show (wq.alloc _).heap.size = _; simp
                have HW2 := Lib.hid hw2
                clear hw2 hbq b0 b1 b2 b3
                have hs2 := hb2.size
                have HM2 := Lib.hid (HM1.out.below hb2)
                have HBr2 := Lib.hid (HBr1.out.below' hb2)
                clear hb2
                rw [← HW2.out]
                have c1_0 := HBt.out.c0
                have c1_1 := HBt.out.c1
                have c1_2 := HBt.out.c2
                have c1_3 := HBt.out.c3
                have c1_4 := HBt.out.c4
                have c1_5 := HBt.out.c5
                have c1_6 := HBt.out.c6
                go_wp2_with fail
                refine (may_f HM2.out.st (s := ⟨#[123]⟩) (L := [123]) rfl H123.out).mono ?_
                rintro e3 w3 ⟨rfl, hm3⟩
                have HM3 := Lib.hid (HM2.out.trans hm3)
                have hs3 := hm3.grown.size
                have HBr3 := Lib.hid (NdB.grown HBr2.out hm3.grown (show X.P < w.heap.size by omega))
                have HBt3 := Lib.hid (TkT.grown HBt.out hm3.grown (show X.P < wq.heap.size by omega))
                clear hm3
                go_wp2_with fail
                refine (may_f HM3.out.st (s := ⟨#[40]⟩) (L := [40]) rfl H40.out).mono ?_
                rintro e4 w4 ⟨rfl, hm4⟩
                have HM4 := Lib.hid (HM3.out.trans hm4)
                have hs4 := hm4.grown.size
                have HBr4 := Lib.hid (NdB.grown HBr3.out hm4.grown (show X.P < w.heap.size by omega))
                have HBt4 := Lib.hid (TkT.grown HBt3.out hm4.grown (show X.P < wq.heap.size by omega))
                clear hm4
                go_wp2_with fail
                refine (may_f HM4.out.st (s := ⟨#[36]⟩) (L := [36]) rfl H36.out).mono ?_
                rintro e5 w5 ⟨rfl, hm5⟩
                have HM5 := Lib.hid (HM4.out.trans hm5)
                have hs5 := hm5.grown.size
                have HBr5 := Lib.hid (NdB.grown HBr4.out hm5.grown (show X.P < w.heap.size by omega))
                have HBt5 := Lib.hid (TkT.grown HBt4.out hm5.grown (show X.P < wq.heap.size by omega))
                clear hm5
                go_wp2_with fail
                refine (may_t HM5.out.st (s := ⟨#[96]⟩) (L := [96]) rfl H96.out).mono ?_
                rintro e6 w6 ⟨rfl, hm6⟩
                have HM6 := Lib.hid (HM5.out.trans hm6)
                have hs6 := hm6.grown.size
                have HBr6 := Lib.hid (NdB.grown HBr5.out hm6.grown (show X.P < w.heap.size by omega))
                have HBt6 := Lib.hid (TkT.grown HBt5.out hm6.grown (show X.P < wq.heap.size by omega))
                clear hm6
                go_wp2_with fail
                refine (IH.out.caught F (Nat.le_refl _) (lineS X.l p) w6 _ _ HM6.out.st (by first | omega | (simp <;> omega)) (by first | omega | (simp <;> omega)) HQ1.out).mono ?_
                rintro e7 w7 ⟨op7, ln7, t7, k7, m7, u7, va7, vc7, V7, sub7, hn7, rfl, hm7, ho7, hk7, hl7, hd7⟩
                obtain ⟨A7, cc7, rfl⟩ := ho7.form
                have hn7 : n1 = nd op7 ln7 t7 k7 m7 u7 sub7 := hn7
                subst hn7
                have hk7 := Lib.hid hk7
                have hd7 : p1.deep = p.deep + 0 := by have h : p1.deep = (nextS p).deep := hd7; (try simp at h); omega
                have HM7 := Lib.hid (HM6.out.trans hm7)
                have hs7 := hm7.grown.size
                have HBr7 := Lib.hid (NdB.grown HBr6.out hm7.grown (show X.P < w.heap.size by omega))
                have HO7 := Lib.hid (ho7.wide (D' := DG w6.heap.size 0) (fun k hk hk2 => ⟨hk, by omega⟩))
                clear hm7 ho7
                unfold nd8
                have c2_0 := HBr7.out.c0
                have f2_0 := HBr7.out.fr 0
                have c2_1 := HBr7.out.c1
                have f2_1 := HBr7.out.fr 1
                have c2_2 := HBr7.out.c2
                have f2_2 := HBr7.out.fr 2
                have c2_3 := HBr7.out.c3
                have f2_3 := HBr7.out.fr 3
                have c2_4 := HBr7.out.c4
                have f2_4 := HBr7.out.fr 4
                have c2_5 := HBr7.out.c5
                have f2_5 := HBr7.out.fr 5
                have c2_6 := HBr7.out.c6
                have f2_6 := HBr7.out.fr 6
                have c2_7 := HBr7.out.c7
                have f2_7 := HBr7.out.fr 7
                go_wp2_with fail
                have HRR := Lib.hid (rfl : (nd op7 ln7 t7 k7 m7 u7 sub7, p1) = (nd op7 ln7 t7 k7 m7 u7 sub7, p1))
                refine ret_cell8 Tryz.results174 w.heap.size rfl rfl (HBr7.out.set8 _ _ _ _ _ _ _ _) ?_
                exact PNd.mk op7 ln7 t7 k7 m7 u7 va7 vc7 _ sub7 _ HRR.out (HM7.out.node HBr7.out (by omega) (by omega) (only_set8 _ _ _ _ _ _ _ _ _ _)) (own_end (w0 := w.heap.size) (g := w.heap.size) HO7.out (by omega) (only_set8 _ _ _ _ _ _ _ _ _ _) (by omega)) hk7.out (by omega) (by first | omega | (simp <;> omega))
              | false =>
                rw [hb] at hr
                have H96 := Lib.hid hb
                clear hb
                replace hr : some (nd0, failS X.l p) = some r := hr
                have HRR := Lib.hid (show r = (nd0, failS X.l p) from (Option.some.inj hr).symm)
                clear hr
                obtain ⟨wa, hwa⟩ : ∃ wa, wa = (w).alloc (.cells #[.int .i64 0, .int .i64 0, .string ⟨#[]⟩, .int .i64 0, .int .i64 0, .string ⟨#[]⟩, .slice none 0 0, .slice none 0 0] 31) := ⟨_, rfl⟩
                have HMa := Lib.hid (show Mvd w wa X p by rw [hwa]; exact ((Mvd.of hst).alloc _))
                have hsa : wa.heap.size = w.heap.size + 1 := by rw [hwa]; simp
                have HZr := Lib.hid (show zN wa w.heap.size by rw [hwa]; exact (zN.new w))
                have HWA := Lib.hid hwa
                clear hwa
                go_enter Tryz.func174, Tryz.ntmps174
                go_wp2_with fail
                rw [← HWA.out]
                refine (line_t HMa.out.st).mono ?_
                rintro e1 w1 ⟨rfl, hm1⟩
                have HM1 := Lib.hid (HMa.out.trans hm1)
                have hs1 := hm1.grown.size
                have HBr1 := Lib.hid (NdB.grown HZr.out hm1.grown (show X.P < w.heap.size by omega))
                clear hm1
                obtain ⟨ev, hP, hE⟩ := HM1.out.st.at_
                obtain ⟨g, sa, sc, hA, hg, t0, t1, t2, t3, t4, t5, t6⟩ := HM1.out.st.tok HT.out
                have c0 := hP.c0
                rw [hA] at c0
                have c1 := hP.c1
                have c3 := hP.c3
                rw [HE.out] at hE
                obtain rfl : ev = .nilIface := hE
                have b0 : (0 : Int) ≤ (p.pos : Int) := by omega
                have b1 : (p.pos : Int) < (X.l.length : Int) := by omega
                have b2 : ¬ (X.l.length : Int) ≤ (p.pos : Int) := by omega
                have b3 : decide (X.l.length ≤ p.pos) = false := decide_eq_false (by omega)
                rw [← HK.out] at t0
                clear hP hA
                go_wp2_with fail
                go_quiet (fail)
                go_wp2_with fail
                generalize hwq : World.drewN _ _ = wq
                have hbq : Below w1.heap.size w1 wq := by rw [← hwq]; exact ⟨rfl, rfl, rfl, Nat.le_refl _, fun _ _ => rfl⟩
                have q0 : wq.cell? ⟨X.P, 0, none⟩ = some (.slice (some ⟨g, 0, none⟩) X.l.length X.c) := by rw [← hwq]; exact c0
                have q1 : wq.cell? ⟨X.P, 1, none⟩ = some (.int .i64 p.pos) := by rw [← hwq]; exact c1
                have r0 : wq.cell? ⟨g, p.pos * 7, none⟩ = some (.int .i64 kd) := by rw [← hwq]; exact t0
                have r1 : wq.cell? ⟨g, p.pos * 7 + 1, none⟩ = some (.int .i64 tk.line) := by rw [← hwq]; exact t1
                have r2 : wq.cell? ⟨g, p.pos * 7 + 2, none⟩ = some (.string tk.s) := by rw [← hwq]; exact t2
                have r3 : wq.cell? ⟨g, p.pos * 7 + 3, none⟩ = some (.int .i64 tk.k) := by rw [← hwq]; exact t3
                have r4 : wq.cell? ⟨g, p.pos * 7 + 4, none⟩ = some (.int .i64 tk.n) := by rw [← hwq]; exact t4
                have r5 : wq.cell? ⟨g, p.pos * 7 + 5, none⟩ = some (.string tk.t) := by rw [← hwq]; exact t5
                have r6 : wq.cell? ⟨g, p.pos * 7 + 6, none⟩ = some (.slice sa 0 sc) := by rw [← hwq]; exact t6
                clear hwq c0 c1 c3 t0 t1 t2 t3 t4 t5 t6
                go_region_held3 (fun W => W.cell? ⟨X.P, 0, none⟩ = some (.slice (some ⟨g, 0, none⟩) X.l.length X.c) ∧ W.cell? ⟨X.P, 1, none⟩ = some (.int .i64 p.pos) ∧ W.cell? ⟨g, p.pos * 7, none⟩ = some (.int .i64 kd) ∧ W.cell? ⟨g, p.pos * 7 + 1, none⟩ = some (.int .i64 tk.line) ∧ W.cell? ⟨g, p.pos * 7 + 2, none⟩ = some (.string tk.s) ∧ W.cell? ⟨g, p.pos * 7 + 3, none⟩ = some (.int .i64 tk.k) ∧ W.cell? ⟨g, p.pos * 7 + 4, none⟩ = some (.int .i64 tk.n) ∧ W.cell? ⟨g, p.pos * 7 + 5, none⟩ = some (.string tk.t) ∧ W.cell? ⟨g, p.pos * 7 + 6, none⟩ = some (.slice sa 0 sc)) (first | assumption | exact ⟨q0, q1, r0, r1, r2, r3, r4, r5, r6⟩ | go_keep) (fail)
                clear q0 q1 r0 r1 r2 r3 r4 r5 r6
                obtain ⟨w2, hw2⟩ : ∃ W, W = (wq.alloc (.cells #[.int .i64 kd, .int .i64 tk.line, .string tk.s, .int .i64 tk.k, .int .i64 tk.n, .string tk.t, .slice sa 0 sc] 55)).drew := ⟨_, rfl⟩
                have hb2 : Below w1.heap.size w1 w2 := by rw [hw2]; exact (hbq.alloc hbq.size _).drew
                have hsq := hbq.size
                have HBt := Lib.hid (show TkT w2 wq.heap.size (.int .i64 kd) (.int .i64 tk.line) (.string tk.s) (.int .i64 tk.k) (.int .i64 tk.n) (.string tk.t) (.slice sa 0 sc) by rw [hw2]; exact heap_alloc_new wq _)
                have hsw : w2.heap.size = wq.heap.size + 1 := by rw [hw2]; show (wq.alloc _).heap.size = _; simp
                have HW2 := Lib.hid hw2
                clear hw2 hbq b0 b1 b2 b3
                have hs2 := hb2.size
                have HM2 := Lib.hid (HM1.out.below hb2)
                have HBr2 := Lib.hid (HBr1.out.below' hb2)
                clear hb2
                rw [← HW2.out]
                have c1_0 := HBt.out.c0
                have c1_1 := HBt.out.c1
                have c1_2 := HBt.out.c2
                have c1_3 := HBt.out.c3
                have c1_4 := HBt.out.c4
                have c1_5 := HBt.out.c5
                have c1_6 := HBt.out.c6
                go_wp2_with fail
                refine (may_f HM2.out.st (s := ⟨#[123]⟩) (L := [123]) rfl H123.out).mono ?_
                rintro e3 w3 ⟨rfl, hm3⟩
                have HM3 := Lib.hid (HM2.out.trans hm3)
                have hs3 := hm3.grown.size
                have HBr3 := Lib.hid (NdB.grown HBr2.out hm3.grown (show X.P < w.heap.size by omega))
                have HBt3 := Lib.hid (TkT.grown HBt.out hm3.grown (show X.P < wq.heap.size by omega))
                clear hm3
                go_wp2_with fail
                refine (may_f HM3.out.st (s := ⟨#[40]⟩) (L := [40]) rfl H40.out).mono ?_
                rintro e4 w4 ⟨rfl, hm4⟩
                have HM4 := Lib.hid (HM3.out.trans hm4)
                have hs4 := hm4.grown.size
                have HBr4 := Lib.hid (NdB.grown HBr3.out hm4.grown (show X.P < w.heap.size by omega))
                have HBt4 := Lib.hid (TkT.grown HBt3.out hm4.grown (show X.P < wq.heap.size by omega))
                clear hm4
                go_wp2_with fail
                refine (may_f HM4.out.st (s := ⟨#[36]⟩) (L := [36]) rfl H36.out).mono ?_
                rintro e5 w5 ⟨rfl, hm5⟩
                have HM5 := Lib.hid (HM4.out.trans hm5)
                have hs5 := hm5.grown.size
                have HBr5 := Lib.hid (NdB.grown HBr4.out hm5.grown (show X.P < w.heap.size by omega))
                have HBt5 := Lib.hid (TkT.grown HBt4.out hm5.grown (show X.P < wq.heap.size by omega))
                clear hm5
                go_wp2_with fail
                refine (may_f HM5.out.st (s := ⟨#[96]⟩) (L := [96]) rfl H96.out).mono ?_
                rintro e6 w6 ⟨rfl, hm6⟩
                have HM6 := Lib.hid (HM5.out.trans hm6)
                have hs6 := hm6.grown.size
                have HBr6 := Lib.hid (NdB.grown HBr5.out hm6.grown (show X.P < w.heap.size by omega))
                have HBt6 := Lib.hid (TkT.grown HBt5.out hm6.grown (show X.P < wq.heap.size by omega))
                clear hm6
                go_wp2_with fail
                refine (fail_c X _ _ HM6.out.st).mono ?_
                rintro e7 w7 ⟨rfl, hm7⟩
                have HM7 := Lib.hid (HM6.out.trans hm7)
                have hs7 := hm7.grown.size
                have HBr7 := Lib.hid (NdB.grown HBr6.out hm7.grown (show X.P < w.heap.size by omega))
                clear hm7
                have c2_0 := HBr7.out.c0
                have f2_0 := HBr7.out.fr 0
                have c2_1 := HBr7.out.c1
                have f2_1 := HBr7.out.fr 1
                have c2_2 := HBr7.out.c2
                have f2_2 := HBr7.out.fr 2
                have c2_3 := HBr7.out.c3
                have f2_3 := HBr7.out.fr 3
                have c2_4 := HBr7.out.c4
                have f2_4 := HBr7.out.fr 4
                have c2_5 := HBr7.out.c5
                have f2_5 := HBr7.out.fr 5
                have c2_6 := HBr7.out.c6
                have f2_6 := HBr7.out.fr 6
                have c2_7 := HBr7.out.c7
                have f2_7 := HBr7.out.fr 7
                go_wp2_with fail
                refine ret_cell8 Tryz.results174 w.heap.size rfl rfl (HBr7.out.set8 _ _ _ _ _ _ _ _) ?_
                exact PNd.mk 0 0 ⟨#[]⟩ 0 0 ⟨#[]⟩ none 0 (.slice none 0 0) .nil _ HRR.out (HM7.out.node HBr7.out (by omega) (by omega) (only_set8 _ _ _ _ _ _ _ _ _ _)) (OwnN.nil _ _) (okN_leaf (by decide) (by decide)) (Nat.zero_le _) (by first | omega | (simp <;> omega))
end Go.Proofs.YtggngahmafbihaaGreatDoor
