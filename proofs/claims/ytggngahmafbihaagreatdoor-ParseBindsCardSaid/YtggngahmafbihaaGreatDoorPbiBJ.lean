/- Contracts of the functions that the statement reaches, and the plain mathematics beneath: several texts joined. -/
import Derived.Test.YtggngahmafbihaaGreatDoorPbiBI
import Derived.Test.YtggngahmafbihaaGreatDoorPbiBB
import Derived.Test.YtggngahmafbihaaGreatDoorPbiBG
import Derived.Test.YtggngahmafbihaaGreatDoorPbiAM
namespace Go.Proofs.YtggngahmafbihaaGreatDoor
open Go.RowKit Go.Lib
set_option linter.unusedVariables false

/-- What is read of a whole text's words: the node, and where the parser stands then. -/
def exprS (l : List Tok) (p : PS) : PS := if p.pos < l.length then failS l p else p
/-- .. of one that is. -/
def PxGood (n : NL) (w : World) (e : Ending) (w' : World) : Prop :=
  ∃ (op ln : Int) (s : ByteArray) (k m : Int) (t : ByteArray) (va : Option Addr) (vc : Nat) (V : Value) (sub : NL), n = nd op ln s k m t sub ∧ e = .returned (.tuple #[.agg (nd8 op ln s k m t va vc V), .nilIface]) ∧ OwnN w' (fun k => w.heap.size < k) V sub ∧ Below w.heap.size w w'

theorem ret_cell8_tmp {fn : Func} {p u : Tmp} {Q : Ending → World → Prop} {act : Act} {w : World} (h : fn.results = #[.cell p 31, .tmp u]) (g : Nat) (hp : act.tmps.getD p undef = .pointer (some ⟨g, 0, none⟩)) (hd : act.defers = [])
    {a b c d e f k i : Value} (hS : NdB w g a b c d e f k i) (hQ : Q (.returned (.tuple #[.agg #[a, b, c, d, e, f, k, i], act.tmps.getD u undef])) w) : bodyPost Tryz.prog fn Q .ret act w := by
  refine bodyPost_ret (v := .tuple #[.agg #[a, b, c, d, e, f, k, i], act.tmps.getD u undef]) ?_ hd hQ
  have c0 := hS.c0; have c1 := hS.c1; have c2 := hS.c2; have c3 := hS.c3; have c4 := hS.c4; have c5 := hS.c5; have c6 := hS.c6; have c7 := hS.c7
  have hp' : (act.tmps[p]?).getD undef = .pointer (some ⟨g, 0, none⟩) := by simpa using hp
  simp [results, h, hp', go_sem, c0, c1, c2, c3, c4, c5, c6, c7]
theorem mvd_below {a w w' : World} {X : PCtx} {p : PS} (h : Mvd w w' X p) (hP : a.heap.size ≤ X.P) (hb : Below a.heap.size a w) : Below a.heap.size a w' :=
  hb.trans ⟨h.grown.os, h.grown.tape, h.grown.output, h.grown.size, fun k hk => h.grown.block k (by have := hb.size; omega) (fun e => by injection e with e; omega)⟩
theorem parser_new {w1 : World} {g cap : Nat} {l : List Tok} {ea : Nat → Addr} (he : ErrsAt w1 ea) (hg : g < w1.heap.size) (hl : l.length ≤ 1000000) (ht : ∀ j t, l[j]? = some t → ∃ sa sc, TkIn w1 g (7 * j) t sa sc) :
    PSt (w1.alloc (.cells #[.slice (some ⟨g, 0, none⟩) l.length cap, .int .i64 0, .int .i64 0, .nilIface] 65)) ⟨w1.heap.size, some ⟨g, 0, none⟩, cap, l, ea⟩ ⟨0, 0, none⟩ := by
  have hb : Below w1.heap.size w1 (w1.alloc (.cells #[.slice (some ⟨g, 0, none⟩) l.length cap, .int .i64 0, .int .i64 0, .nilIface] 65)) := (Below.refl _ _).alloc (Nat.le_refl _) _
  refine ⟨⟨.nilIface, heap_alloc_new w1 _, rfl⟩, fun j t hj => ?_, he.below hb (Nat.le_of_lt he.room), he.room, Nat.zero_le _, hl⟩
  obtain ⟨sa, sc, h⟩ := ht j t hj
  exact ⟨g, sa, sc, rfl, hg, h.below hb hg⟩

set_option maxRecDepth 100000 in
set_option maxHeartbeats 4000000 in
theorem pexpr_good (s : ByteArray) (l : List Tok) (F : Nat) (n : NL) (p1 : PS) (ea : Nat → Addr) (w : World) (he : LxEnv w ea) (hsz : s.size ≤ 32768) (hall : allW s = .inr l) (hl0 : 0 < l.length) (hl : l.length ≤ 1000000) (hF : F ≤ 1000000000) (hr : prsR l F .expr ⟨0, 0, none⟩ = some (n, p1)) (hE0 : (exprS l p1).err = none) (hright : rightN n 0 = true) (hfit : n.fit) :
    Calls Tryz.prog 11 #[.string s] w (PxGood n w) := by
  obtain ⟨wa, hwa⟩ : ∃ wa, wa = w.alloc (.cells #[.int .i64 0, .int .i64 0, .string ⟨#[]⟩, .int .i64 0, .int .i64 0, .string ⟨#[]⟩, .slice none 0 0, .slice none 0 0] 31) := ⟨_, rfl⟩
  have hba : Below w.heap.size w wa := by rw [hwa]; exact (Below.refl _ _).alloc (Nat.le_refl _) _
  have hsa : wa.heap.size = w.heap.size + 1 := by rw [hwa]; simp
  have HZ := Lib.hid (show zN wa w.heap.size by rw [hwa]; exact zN.new w)
  have hea := he.below hba (Nat.le_of_lt he.err.room)
  have AC := Lib.hid (all_some ea wa hea hsz hall hl0)
  have HEA := Lib.hid hea
  have HBA := Lib.hid hba
  have HWA := Lib.hid hwa
  have HPR := Lib.hid hr
  have HLL := Lib.hid hl
  have hpos0 : ¬ p1.pos < l.length := by
    intro h
    unfold exprS at hE0
    rw [if_pos h] at hE0
    cases he1 : p1.err with
    | none => rw [failS_none he1] at hE0; cases hE0
    | some x => rw [failS_some he1, he1] at hE0; cases hE0
  have hE1 : p1.err = none := by
    unfold exprS at hE0
    rw [if_neg hpos0] at hE0; exact hE0
  have HE1 := Lib.hid hE1
  have HRI := Lib.hid hright
  have HFI := Lib.hid hfit
  have hlt : ¬ (p1.pos : Int) < (l.length : Int) := by omega
  clear hE0 hE1 hright hfit
  clear hba hwa hea he hall hr
  go_enter Tryz.func11, Tryz.ntmps11
  go_wp2_with fail
  rw [← HWA.out]
  refine AC.out.mono ?_
  rintro e w1 ⟨g, cap, rfl, hg1, hg2, hb1, hcap, ht⟩
  have hz1 := hb1.size
  have HB1 := Lib.hid (HBA.out.trans (below_le' hb1 HBA.out.size))
  have HZ1 := Lib.hid (HZ.out.below' hb1)
  have hst := parser_new (cap := cap) (ea := ea) ((HEA.out.below hb1 (by have := HEA.out.err.room; omega)).err) hg2 hl ht
  obtain ⟨X, hX⟩ : ∃ X : PCtx, X = ⟨w1.heap.size, some ⟨g, 0, none⟩, cap, l, ea⟩ := ⟨_, rfl⟩
  have hXP : X.P = w1.heap.size := by rw [hX]
  have hXl : X.l = l := by rw [hX]
  have hXe : X.ea = ea := by rw [hX]
  rw [← hX] at hst
  obtain ⟨w2, hw2⟩ : ∃ w2, w2 = w1.alloc (.cells #[.slice (some ⟨g, 0, none⟩) l.length cap, .int .i64 0, .int .i64 0, .nilIface] 65) := ⟨_, rfl⟩
  rw [← hw2] at hst
  have hb2 : Below w1.heap.size w1 w2 := by rw [hw2]; exact (Below.refl _ _).alloc (Nat.le_refl _) _
  have hs2 : w2.heap.size = w1.heap.size + 1 := by rw [hw2]; simp
  have HZ2 := Lib.hid (HZ1.out.below' hb2)
  have HB2 := Lib.hid (HB1.out.trans (below_le' hb2 HB1.out.size))
  have EXC := Lib.hid (expr_all X F hF w2 ⟨0, 0, none⟩ (n, p1) hst (by decide) (by decide) (by rw [hXl]; exact HPR.out))
  rw [hXP] at EXC
  have HST := Lib.hid hst
  have HW2 := Lib.hid hw2
  have HXl := Lib.hid hXl
  have HXe := Lib.hid hXe
  have HXP := Lib.hid hXP
  clear hst hw2 hb1 hb2 ht hcap hX hXl hXe hXP
  go_wp2_with fail
  rw [← HW2.out]
  refine EXC.out.mono ?_
  rintro e w3 ⟨op, ln, t, k, m, u, va, vc, V, sub, hn, rfl, hm, ho, hk, hln, hd⟩
  obtain ⟨AV, CV, rfl⟩ := ho.form
  have hn' : n = nd op ln t k m u sub := hn
  unfold nd8
  subst hn'
  have hXP := HXP.out
  have hz3 := hm.grown.size
  have hPw : w.heap.size < X.P := by omega
  have HZ3 := Lib.hid (show zN w3 w.heap.size from (hm.grown.block _ (by have := HZ2.out.lt; omega) (fun e => by injection e with e; omega)).trans HZ2.out)
  have HB3 := Lib.hid (mvd_below hm (Nat.le_of_lt hPw) HB2.out)
  obtain ⟨w4, hw4⟩ : ∃ w4, w4 = w3.alloc (.cells #[.int .i64 op, .int .i64 ln, .string t, .int .i64 k, .int .i64 m, .string u, .slice va 0 vc, .slice AV sub.len CV] 31) := ⟨_, rfl⟩
  have hb4 : Below w3.heap.size w3 w4 := by rw [hw4]; exact (Below.refl _ _).alloc (Nat.le_refl _) _
  have HM4 := Lib.hid (hm.below hb4)
  have HZ4 := Lib.hid (show zN w4 w.heap.size from HZ3.out.below' hb4)
  have HB4 := Lib.hid (HB3.out.trans (below_le' hb4 HB3.out.size))
  have HN4 := Lib.hid (show NdB w4 w3.heap.size (.int .i64 op) (.int .i64 ln) (.string t) (.int .i64 k) (.int .i64 m) (.string u) (.slice va 0 vc) (.slice AV sub.len CV) by rw [hw4]; exact NdB.new _ _ _ _ _ _ _ _ _)
  have hs4 := hb4.size
  have HO4 := Lib.hid (ho.below hb4)
  have HW4 := Lib.hid hw4
  have HKK := Lib.hid hk
  have HHD := Lib.hid hd
  clear hn hm ho hk hd hw4 hb4
  obtain ⟨ev, hP, hE⟩ := HM4.out.st.at_
  have c1 := hP.c1; have c3 := hP.c3
  rw [hXP] at c1 c3
  have c3w := c3
  rw [HW4.out] at c1 c3
  rw [HE1.out] at hE
  obtain rfl : ev = .nilIface := hE
  have he4 := HM4.out.st.er
  rw [HXe.out] at he4
  obtain ⟨A9, c9, hV9, hc9, _, hr9⟩ := HO4.out.kids
  simp only [Value.slice.injEq, true_and] at hV9
  obtain ⟨e1, e2⟩ := hV9
  subst e1
  subst e2
  have TC := Lib.hid (expr_tc op ln t k m u .nil va vc sub AV CV ea w4 he4 HFI.out (Nat.zero_le _) hc9 trivial (hr9.wide (fun b hb => hb.2)))
  have q0 := HN4.out.c0; have q1 := HN4.out.c1; have q2 := HN4.out.c2; have q3 := HN4.out.c3; have q4 := HN4.out.c4; have q5 := HN4.out.c5; have q6 := HN4.out.c6; have q7 := HN4.out.c7
  clear hP he4 hr9
  go_wp2_with fail
  rw [← HW4.out]
  refine TC.out.mono ?_
  intro e w5 hpv
  obtain ⟨hb5, rfl⟩ := hpv.right HRI.out
  have HB5 := Lib.hid (HB4.out.trans (below_le' hb5 HB4.out.size))
  have HZ5 := Lib.hid (show zN w5 w.heap.size from HZ4.out.below' hb5)
  have HN5 := Lib.hid (HN4.out.below' hb5)
  have HO5 := Lib.hid (HO4.out.below hb5)
  have hz5 := hb5.size
  clear hb5 hpv q0 q1 q2 q3 q4 q5 q6 q7 c1 c3
  have q0 := HN5.out.c0; have q1 := HN5.out.c1; have q2 := HN5.out.c2; have q3 := HN5.out.c3; have q4 := HN5.out.c4; have q5 := HN5.out.c5; have q6 := HN5.out.c6; have q7 := HN5.out.c7
  have g0 := HZ5.out.c0; have g1 := HZ5.out.c1; have g2 := HZ5.out.c2; have g3 := HZ5.out.c3; have g4 := HZ5.out.c4; have g5 := HZ5.out.c5; have g6 := HZ5.out.c6; have g7 := HZ5.out.c7
  have j0 := HZ5.out.fr 0; have j1 := HZ5.out.fr 1; have j2 := HZ5.out.fr 2; have j3 := HZ5.out.fr 3; have j4 := HZ5.out.fr 4; have j5 := HZ5.out.fr 5; have j6 := HZ5.out.fr 6; have j7 := HZ5.out.fr 7
  go_wp2_with fail
  refine ret_cell8_tmp Tryz.results11 w.heap.size rfl rfl (HZ5.out.set8 _ _ _ _ _ _ _ _) ?_
  have hkb := only_set8 w5 w.heap.size (.int .i64 op) (.int .i64 ln) (.string t) (.int .i64 k) (.int .i64 m) (.string u) (.slice va 0 vc) (.slice AV sub.len CV)
  refine ⟨op, ln, t, k, m, u, va, vc, _, sub, rfl, rfl, (HO5.out.keep (fun b hb hb2 => hkb.block b hb2 (fun e => by injection e with e; have : w2.heap.size ≤ b := hb; have := HB2.out.size; omega)) hkb.size).wide (fun b hb _ => by have : w2.heap.size ≤ b := hb; omega), below_st8 HB5.out (Nat.le_refl _) _ _ _ _ _ _ _ _⟩
end Go.Proofs.YtggngahmafbihaaGreatDoor
namespace Go.Proofs.YtggngahmafbihaaGreatDoor
open Go.RowKit Go.Lib
set_option linter.unusedVariables false
end Go.Proofs.YtggngahmafbihaaGreatDoor
namespace Go.Proofs.YtggngahmafbihaaGreatDoor
open Go.RowKit Go.Lib
set_option linter.unusedVariables false

def dollarL : List Tok := [⟨4, 1, ⟨#[36]⟩, 0, 0, ⟨#[]⟩⟩, ⟨1, 1, ⟨#[120]⟩, 0, 0, ⟨#[]⟩⟩]
set_option maxRecDepth 100000 in
theorem dollar_chk : (match allW ⟨#[36, 120]⟩ with | .inr l => toksB l dollarL | _ => false) = true := by decide +kernel
theorem dollar_all : allW ⟨#[36, 120]⟩ = .inr dollarL := by
  have h := dollar_chk
  split at h
  · rename_i l e; rw [e, toksB_eq _ _ h]
  · cases h
def dollarK : NL := (nd 1 1 ⟨#[]⟩ 1 0 ⟨#[]⟩ .nil).app (nd 1 1 ⟨#[]⟩ 2 0 ⟨#[120]⟩ .nil)
def dollarN : NL := ndL 22 1 dollarK
set_option maxRecDepth 100000 in
theorem dollar_prs : prsR dollarL 60 .expr ⟨0, 0, none⟩ = some (dollarN, ⟨2, 0, none⟩) := by kernel_rfl
theorem dollar_right : rightN dollarN 0 = true := by decide +kernel
theorem dollar_fit : dollarN.fit := by
  simp [dollarN, dollarK, ndL, nd, NL.app, NL.fit, NL.len, VL.len, VL.fit, ByteArray.size]

set_option maxRecDepth 100000 in
set_option maxHeartbeats 4000000 in
theorem pfirst_c (ea : Nat → Addr) (w : World) (he : LxEnv w ea) : Calls Tryz.prog 9 #[] w fun e w' => e = .returned (.bool true) ∧ Below w.heap.size w w' := by
  have PG := Lib.hid (pexpr_good ⟨#[36, 120]⟩ dollarL 60 dollarN ⟨2, 0, none⟩ ea w he (by decide) dollar_all (by decide) (by decide) (by decide) dollar_prs rfl dollar_right dollar_fit)
  clear he
  go_enter Tryz.func9, Tryz.ntmps9
  go_wp2_with fail
  refine PG.out.mono ?_
  rintro e w1 ⟨op, ln, s, k, m, t, va, vc, V, sub, hn, rfl, ho, hb⟩
  unfold dollarN ndL nd at hn
  simp only [NL.cons.injEq, and_true, true_and] at hn
  obtain ⟨rfl, rfl, rfl, rfl, rfl, rfl, rfl⟩ := hn
  obtain ⟨A, c, rfl, hc, _, hr⟩ := ho.kids
  obtain ⟨b, o, op0, ln0, s0, k0, n0, t0, v0, sub0, va0, vc0, sa0, sc0, hA, hS0, hd0, a00, a01, a02, a03, a04, a05, a06, _, _, a07, _, _⟩ := hr.nth (i := 0) (by decide)
  obtain ⟨b', o', op1, ln1, s1, k1, n1, t1, v1, sub1, va1, vc1, sa1, sc1, hA1, hS1, hd1, a10, a11, a12, a13, a14, a15, a16, _, _, a17, _, _⟩ := hr.nth (i := 1) (by decide)
  rw [hA] at hA1
  injection hA1 with hA1
  injection hA1 with e1 e2
  subst e1
  subst e2
  unfold dollarK nd at hd0 hd1
  simp only [NL.app, NL.drop, NL.cons.injEq, and_true] at hd0 hd1
  obtain ⟨rfl, rfl, rfl, rfl, rfl, rfl, rfl, rfl⟩ := hd0
  obtain ⟨rfl, rfl, rfl, rfl, rfl, rfl, rfl, rfl⟩ := hd1
  subst hA
  rw [Nat.zero_mul, Nat.add_zero] at a00 a03
  have x0 := fun o => cellA a00 o; have x3 := fun o => cellA a03 o; have x5 := fun o => cellA a15 o
  have HB := Lib.hid hb
  rw [show dollarK.len = 2 from rfl]
  unfold nd8
  clear ho hr hb a01 a02 a04 a05 a06 a07 a10 a11 a12 a13 a14 a16 a17 hc hS0 hS1
  go_wp2_with fail
  go_ret
  exact ⟨rfl, HB.out.alloc HB.out.size _⟩
end Go.Proofs.YtggngahmafbihaaGreatDoor
