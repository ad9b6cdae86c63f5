/- Contracts of the functions that the statement reaches, and the plain mathematics beneath: several texts joined. -/
import Derived.Deep.RegionLaw
import Derived.Deep.Cut
import Derived.Deep.CutBlock
import Derived.Deep.DeepCutAuto
import Derived.Test.YtggngahmafbihaaGreatDoorPbiAH
namespace Go.Proofs.YtggngahmafbihaaGreatDoor
open Go.RowKit Go.Lib
set_option linter.unusedVariables false

theorem nameS_bad {l : List Tok} {p : PS} {e : Option Int} (h : p.err = some e) : nameS l p = (⟨#[]⟩, failS l p) := by unfold nameS; rw [h]
theorem nameS_out {l : List Tok} {p : PS} (h : l[p.pos]? = none) : nameS l p = (⟨#[]⟩, failS l p) := by
  unfold nameS; rw [h]; cases p.err <;> rfl
theorem nameS_not {l : List Tok} {p : PS} {t : Tok} (he : p.err = none) (h : l[p.pos]? = some t) (hk : t.kind ≠ 1) : nameS l p = (⟨#[]⟩, failS l p) := by
  unfold nameS; rw [he, h]; simp only; rw [if_neg (by simpa using hk)]
theorem nameS_ok {l : List Tok} {p : PS} {t : Tok} (he : p.err = none) (h : l[p.pos]? = some t) (hk : t.kind = 1) : nameS l p = (t.s, nextS p) := by
  unfold nameS; rw [he, h]; simp only; rw [if_pos (by simpa using hk)]

set_option maxRecDepth 100000 in
set_option maxHeartbeats 2000000 in
theorem name_pc (X : PCtx) (p : PS) (w : World) (h : PSt w X p) :
    Calls Tryz.prog 108 #[.pointer (some ⟨X.P, 0, none⟩)] w fun e w' => e = .returned (.string (nameS X.l p).1) ∧ Mvd w w' X (nameS X.l p).2 := by
  have hpl := h.lt
  have HM := Lib.hid (Mvd.of h)
  obtain ⟨ev, hP, hE⟩ := h.at_
  have c0 := hP.c0; have c1 := hP.c1; have c3 := hP.c3; have f1 := hP.fr 1
  have HL := Lib.hid h.len
  have FC := Lib.hid (fun W (hb : Below w.heap.size w W) => fail_c X p W (h.below hb))
  cases he : p.err with
  | some x =>
    rw [he] at hE
    obtain ⟨t, v, rfl⟩ := errv_some hE
    rw [nameS_bad he]
    clear h hP hE he
    go_enter Tryz.func108, Tryz.ntmps108
    go_wp2_with fail
    go_quiet (fail)
    go_wp2_with fail
    refine (FC.out (World.drewN w _) ⟨rfl, rfl, rfl, Nat.le_refl _, fun _ _ => rfl⟩).mono ?_
    rintro e w1 ⟨rfl, hm⟩
    have HM1 := Lib.hid ((HM.out.below (c := World.drewN w _) ⟨rfl, rfl, rfl, Nat.le_refl _, fun _ _ => rfl⟩).trans hm)
    clear hm
    go_wp2_with fail
    go_ret
    exact ⟨rfl, HM1.out⟩
  | none =>
    rw [he] at hE
    obtain rfl : ev = .nilIface := hE
    by_cases hp : p.pos < X.l.length
    · obtain ⟨t, ht⟩ := tok_at hp
      obtain ⟨g, sa, sc, hA, hg, t0, t1, t2, t3, t4, t5, t6⟩ := h.tok ht
      have b0 : (0 : Int) ≤ (p.pos : Int) := by omega
      have b1 : (p.pos : Int) < (X.l.length : Int) := by omega
      have b2 : decide (X.l.length ≤ p.pos) = false := decide_eq_false (by omega)
      have b5 : IntKind.i64.wrap ((p.pos : Int) + 1 - 1) = (p.pos : Int) := by
        have := h.len
        rw [show ((p.pos : Int) + 1 - 1) = (p.pos : Int) by omega]
        exact IntWalk.i64_in _ ⟨by omega, by omega⟩
      rw [hA] at c0
      by_cases hk : t.kind = 1
      · rw [nameS_ok he ht hk]
        rw [hk] at t0
        have HN := Lib.hid (HM.out.next hp)
        have HNn := Lib.hid (fun (j : Nat) => (HM.out.below (c := w.drewN j) ⟨rfl, rfl, rfl, Nat.le_refl _, fun _ _ => rfl⟩).next hp)
        obtain ⟨n, hn⟩ : ∃ n, n = X.l.length := ⟨_, rfl⟩
        obtain ⟨q, hq⟩ : ∃ q, q = p.pos := ⟨_, rfl⟩
        rw [← hn] at c0 b1 b2
        rw [← hq] at c1 b0 b1 b2 t0 t2 b5 HN HNn
        have hbig : q ≤ 1000000 := by have := HL.out; omega
        have hgP : ¬ g = X.P := by omega
        clear h hP he ht hp hq t1 t3 t4 t5 t6 hk FC hn
        go_enter Tryz.func108, Tryz.ntmps108
        go_wp2_with fail
        go_quiet (fail)
        go_wp2_with fail
        go_quiet (fail)
        go_wp2_with fail
        go_ret
        exact ⟨rfl, ((HNn.out _).below ⟨rfl, rfl, rfl, Nat.le_refl _, fun _ _ => rfl⟩)⟩
      · rw [nameS_not he ht hk]
        have nk : (t.kind == 1) = false := beq_eq_false_iff_ne.2 hk
        have nk2 : (t.kind != 1) = true := by rw [bne, nk]; rfl
        obtain ⟨kd, hkd⟩ : ∃ kd, kd = t.kind := ⟨_, rfl⟩
        rw [← hkd] at t0 nk nk2
        obtain ⟨n, hn⟩ : ∃ n, n = X.l.length := ⟨_, rfl⟩
        obtain ⟨q, hq⟩ : ∃ q, q = p.pos := ⟨_, rfl⟩
        rw [← hn] at c0 b1 b2
        rw [← hq] at c1 b0 b1 b2 t0
        clear h hP he ht hp hn hq t1 t2 t3 t4 t5 t6 hk hkd
        go_enter Tryz.func108, Tryz.ntmps108
        go_wp2_with fail
        go_quiet (fail)
        go_wp2_with fail
        refine (FC.out (World.drewN w _) ⟨rfl, rfl, rfl, Nat.le_refl _, fun _ _ => rfl⟩).mono ?_
        rintro e w1 ⟨rfl, hm⟩
        have HM1 := Lib.hid ((HM.out.below (c := World.drewN w _) ⟨rfl, rfl, rfl, Nat.le_refl _, fun _ _ => rfl⟩).trans hm)
        clear hm
        go_wp2_with fail
        go_ret
        exact ⟨rfl, HM1.out⟩
    · have hout : X.l[p.pos]? = none := List.getElem?_eq_none (by omega)
      rw [nameS_out hout]
      have b2 : (X.l.length : Int) ≤ (p.pos : Int) := by omega
      clear h hP he hp hout
      go_enter Tryz.func108, Tryz.ntmps108
      go_wp2_with fail
      go_quiet (fail)
      go_wp2_with fail
      refine (FC.out (World.drewN w _) ⟨rfl, rfl, rfl, Nat.le_refl _, fun _ _ => rfl⟩).mono ?_
      rintro e w1 ⟨rfl, hm⟩
      have HM1 := Lib.hid ((HM.out.below (c := World.drewN w _) ⟨rfl, rfl, rfl, Nat.le_refl _, fun _ _ => rfl⟩).trans hm)
      clear hm
      go_wp2_with fail
      go_ret
      exact ⟨rfl, HM1.out⟩

theorem atInt_at {l : List Tok} {i : Nat} {t : Tok} (h : l[i]? = some t) : atInt l i = (t.kind == 3 && t.k == 0) := by unfold atInt; rw [h]
theorem atInt_out {l : List Tok} {i : Nat} (h : l[i]? = none) : atInt l i = false := by unfold atInt; rw [h]
set_option maxRecDepth 100000 in
set_option maxHeartbeats 2000000 in
theorem integer_pc (X : PCtx) (p : PS) (i : Nat) (w : World) (h : PSt w X p) :
    Calls Tryz.prog 172 #[.pointer (some ⟨X.P, 0, none⟩), .int .i64 i] w fun e w' => e = .returned (.bool (atInt X.l i)) ∧ w = w' := by
  obtain ⟨ev, hP, hE⟩ := h.at_
  have c0 := hP.c0
  by_cases hp : i < X.l.length
  · obtain ⟨t, ht⟩ := tok_at hp
    obtain ⟨g, sa, sc, hA, hg, t0, t1, t2, t3, t4, t5, t6⟩ := h.tok ht
    have b0 : (0 : Int) ≤ (i : Int) := by omega
    have b1 : (i : Int) < (X.l.length : Int) := by omega
    rw [hA] at c0
    rw [atInt_at ht]
    by_cases k3 : t.kind = 3
    · rw [k3] at t0 ⊢
      obtain ⟨n, hn⟩ : ∃ n, n = X.l.length := ⟨_, rfl⟩
      rw [← hn] at c0 b1
      obtain ⟨kk, hkk⟩ : ∃ kk, kk = t.k := ⟨_, rfl⟩
      rw [← hkk] at t3 ⊢
      clear h hP hE ht hp hn t1 t2 t4 t5 t6 k3 hkk
      go_enter Tryz.func172, Tryz.ntmps172
      go_wp2_with fail
      go_ret
      exact ⟨rfl, rfl⟩
    · have n3 : (t.kind == 3) = false := beq_eq_false_iff_ne.2 k3
      rw [n3]
      obtain ⟨n, hn⟩ : ∃ n, n = X.l.length := ⟨_, rfl⟩
      rw [← hn] at c0 b1
      obtain ⟨kk, hkk⟩ : ∃ kk, kk = t.kind := ⟨_, rfl⟩
      rw [← hkk] at t0 n3
      obtain ⟨kq, hkq⟩ : ∃ kk, kk = t.k := ⟨_, rfl⟩
      rw [← hkq]
      clear h hP hE ht hp hn t1 t2 t3 t4 t5 t6 k3 hkk hkq
      go_enter Tryz.func172, Tryz.ntmps172
      go_wp2_with fail
      go_ret
      exact ⟨rfl, rfl⟩
  · have hout : X.l[i]? = none := List.getElem?_eq_none (by omega)
    have b2 : ¬ (i : Int) < (X.l.length : Int) := by omega
    rw [atInt_out hout]
    clear h hP hE hp hout
    go_enter Tryz.func172, Tryz.ntmps172
    go_wp2_with fail
    go_ret
    exact ⟨rfl, rfl⟩
end Go.Proofs.YtggngahmafbihaaGreatDoor
namespace Go.Proofs.YtggngahmafbihaaGreatDoor
open Go.RowKit Go.Lib
set_option linter.unusedVariables false

/-- Each Index and each Splice has something. -/
def okN : NL → Prop
  | .nil => True
  | .cons op _ _ _ _ _ _ sub r => (op = 20 ∨ op = 26 → sub.len ≠ 0) ∧ okN sub ∧ okN r
theorem okN_app : ∀ a b : NL, okN a → okN b → okN (a.app b)
  | .nil, _, _, h => h
  | .cons _ _ _ _ _ _ _ _ r, b, h, hb => ⟨h.1, h.2.1, okN_app r b h.2.2 hb⟩
theorem okN_drop : ∀ (i : Nat) (l : NL), okN l → okN (l.drop i)
  | 0, l, h => by rw [NL.drop]; exact h
  | i + 1, .nil, h => h
  | i + 1, .cons _ _ _ _ _ _ _ _ r, h => okN_drop i r h.2.2
theorem NdB.set8 {w : World} {g : Nat} {a b c d e f h i : Value} (H : NdB w g a b c d e f h i) (a' b' c' d' e' f' h' i' : Value) :
    NdB ((((((((w.setCell ⟨g, 0, none⟩ a').setCell ⟨g, 1, none⟩ b').setCell ⟨g, 2, none⟩ c').setCell ⟨g, 3, none⟩ d').setCell ⟨g, 4, none⟩ e').setCell ⟨g, 5, none⟩ f').setCell ⟨g, 6, none⟩ h').setCell ⟨g, 7, none⟩ i') g a' b' c' d' e' f' h' i' := by
  unfold NdB at H ⊢; simp [World.setCell, Array.getElem?_modify, H]
theorem below_st8 {w w' : World} {B : Nat} (h : Below B w w') {g : Nat} (hg : B ≤ g) (a b c d e f k m : Value) :
    Below B w ((((((((w'.setCell ⟨g, 0, none⟩ a).setCell ⟨g, 1, none⟩ b).setCell ⟨g, 2, none⟩ c).setCell ⟨g, 3, none⟩ d).setCell ⟨g, 4, none⟩ e).setCell ⟨g, 5, none⟩ f).setCell ⟨g, 6, none⟩ k).setCell ⟨g, 7, none⟩ m) :=
  Below.setCell (Below.setCell (Below.setCell (Below.setCell (Below.setCell (Below.setCell (Below.setCell (Below.setCell h hg _) hg _) hg _) hg _) hg _) hg _) hg _) hg _

/-- A node that may be set, or that has what may be: as told of one node. -/
def setB (op : Int) (sub : NL) : Bool := if op = 20 then settableS sub else op == 2 || op == 22
theorem settableS_nd (op ln : Int) (s : ByteArray) (k n : Int) (t : ByteArray) (sub : NL) : settableS (nd op ln s k n t sub) = setB op sub := rfl

set_option maxRecDepth 100000 in
set_option maxHeartbeats 2000000 in
theorem settable_pc (op ln : Int) (s : ByteArray) (k n : Int) (t : ByteArray) (va : Option Addr) (vc : Nat) (sub : NL) (sa : Option Addr) (sc : Nat) (w : World) (hok : okN (nd op ln s k n t sub)) (hc : sub.len ≤ sc) (hr : RpN w (fun b => b < w.heap.size) sub sa) :
    Calls Tryz.prog 102 #[.agg (nd8 op ln s k n t va vc (.slice sa sub.len sc))] w fun e w' => e = .returned (.bool (setB op sub)) ∧ Below w.heap.size w w' := by
  obtain ⟨wa, hwa⟩ : ∃ wa, wa = w.alloc (.cells #[.int .i64 op, .int .i64 ln, .string s, .int .i64 k, .int .i64 n, .string t, .slice va 0 vc, .slice sa sub.len sc] 31) := ⟨_, rfl⟩
  have hba : Below w.heap.size w wa := by rw [hwa]; exact (Below.refl _ _).alloc (Nat.le_refl _) _
  have hN : NdB wa w.heap.size (.int .i64 op) (.int .i64 ln) (.string s) (.int .i64 k) (.int .i64 n) (.string t) (.slice va 0 vc) (.slice sa sub.len sc) := by rw [hwa]; exact NdB.new _ _ _ _ _ _ _ _ _
  obtain ⟨r, hr0⟩ : ∃ r, r = setB op sub := ⟨_, rfl⟩
  rw [← hr0]
  have HR := Lib.hid hr0
  have HBA := Lib.hid hba
  have HNN := Lib.hid hN
  have HWA := Lib.hid hwa
  have HRP := Lib.hid hr
  have HOK := Lib.hid hok
  clear hba hN hr0 hwa hr hok
  unfold nd8
  go_enter Tryz.func102, Tryz.ntmps102
  go_wp2_with fail
  rw [← HWA.out]
  go_loopg [] (sub.tot) (fun kk wr => ∃ (op' ln' : Int) (s' : ByteArray) (k' n' : Int) (t' : ByteArray) (v' : VL) (va' : Option Addr) (vc' : Nat) (sub' : NL) (sa' : Option Addr) (sc' : Nat), sub'.tot ≤ kk ∧ sub'.len ≤ sc' ∧ Hid (NdB wr w.heap.size (.int .i64 op') (.int .i64 ln') (.string s') (.int .i64 k') (.int .i64 n') (.string t') (.slice va' v'.len vc') (.slice sa' sub'.len sc')) ∧ Hid (Below w.heap.size w wr) ∧ Hid (RpN w (fun b => b < w.heap.size) sub' sa') ∧ Hid ((op' = 20 ∨ op' = 26 → sub'.len ≠ 0) ∧ okN sub') ∧ Hid (r = setB op' sub'))
  case atStart => exact ⟨op, ln, s, k, n, t, .nil, va, vc, sub, sa, sc, Nat.le_refl _, hc, HNN, HBA, HRP, ⟨HOK.out.1, HOK.out.2.1⟩, HR⟩
  case round =>
    obtain ⟨op', ln', s', k', n', t', v', va', vc', sub', sa', sc', hk, hc', HN, HB, HP, HO, HQ⟩ := hrel
    have c0 := HN.out.c0
    have c7 := HN.out.c7
    by_cases h20 : op' = 20
    · subst h20
      have hlen := HO.out.1 (.inl rfl)
      obtain ⟨b, o, op2, ln2, s2, k2, n2, t2, v2, sub2, va2, vc2, sa2, sc2, hA, hS, hd, a0, a1, a2, a3, a4, a5, a6, hvc, hv, a7, hsc, hs⟩ := HP.out.nth (i := 0) (by omega)
      rw [Nat.zero_mul, Nat.add_zero] at a0 a1 a2 a3 a4 a5 a6 a7
      rw [NL.drop] at hd
      have HQ2 := Lib.hid (show r = setB op2 sub2 by rw [HQ.out, hd]; rfl)
      have htot : sub'.tot = 1 + sub2.tot + (sub'.drop (0 + 1)).tot := by rw [hd]; rfl
      have HO2 := Lib.hid (show (op2 = 20 ∨ op2 = 26 → sub2.len ≠ 0) ∧ okN sub2 by have := HO.out.2; rw [hd] at this; exact ⟨this.1, this.2.1⟩)
      have hbl : ∀ j, wr.cell? ⟨b, j, none⟩ = w.cell? ⟨b, j, none⟩ := fun j => HB.out.cell (p := ⟨b, j, none⟩) hS
      have q0 := (hbl _).trans a0; have q1 := (hbl _).trans a1; have q2 := (hbl _).trans a2; have q3 := (hbl _).trans a3; have q4 := (hbl _).trans a4; have q5 := (hbl _).trans a5; have q6 := (hbl _).trans a6; have q7 := (hbl _).trans a7
      have f0 := HN.out.fr 0; have f1 := HN.out.fr 1; have f2 := HN.out.fr 2; have f3 := HN.out.fr 3; have f4 := HN.out.fr 4; have f5 := HN.out.fr 5; have f6 := HN.out.fr 6; have f7 := HN.out.fr 7
      have c1 := HN.out.c1; have c2 := HN.out.c2; have c3 := HN.out.c3; have c4 := HN.out.c4; have c5 := HN.out.c5; have c6 := HN.out.c6
      have hlp : (0 : Int) < (sub'.len : Int) := by omega
      have HS2 := Lib.hid hs
      subst hA
      clear hd hv hbl a0 a1 a2 a3 a4 a5 a6 a7 hs
      go_wp2_with fail
      go_roundg (sub2.tot)
      case measure => omega
      case rel => exact ⟨op2, ln2, s2, k2, n2, t2, v2, va2, vc2, sub2, sa2, sc2, Nat.le_refl _, hsc, Lib.hid (HN.out.set8 _ _ _ _ _ _ _ _), Lib.hid (below_st8 HB.out (Nat.le_refl _) _ _ _ _ _ _ _ _), HS2, HO2, HQ2⟩
    · have n20 : (op' == 20) = false := beq_eq_false_iff_ne.2 h20
      have HQ2 := Lib.hid (show r = (op' == 2 || op' == 22) by rw [HQ.out]; unfold setB; rw [if_neg h20])
      clear h20
      by_cases h2 : op' = 2
      · subst h2
        go_wp2_with fail
        go_ret
        exact ⟨by rw [HQ2.out]; rfl, HB.out⟩
      · have n2 : (op' == 2) = false := beq_eq_false_iff_ne.2 h2
        rw [n2, Bool.false_or] at HQ2
        clear h2
        go_wp2_with fail
        go_ret
        exact ⟨by rw [HQ2.out]; rfl, HB.out⟩

theorem varsS_drop {sub : NL} {i : Nat} {op ln : Int} {s : ByteArray} {k n : Int} {t : ByteArray} {v : VL} {sub' : NL} (hi : i < sub.len) (hd : sub.drop i = .cons op ln s k n t v sub' (sub.drop (i + 1))) :
    varsS (sub.drop i) = ((if i + 1 = sub.len ∧ op = 26 then sub'.op == 2 else op == 2) && varsS (sub.drop (i + 1))) := by
  rw [hd]
  have hl := NL.len_drop (i + 1) sub
  cases hq : sub.drop (i + 1) with
  | nil =>
    rw [hq] at hl
    simp only [NL.len] at hl
    simp only [varsS]
    by_cases h26 : op = 26
    · rw [if_pos h26, if_pos ⟨by omega, h26⟩]
    · rw [if_neg h26, if_neg (fun h => h26 h.2)]
  | cons =>
    rw [hq] at hl
    simp only [NL.len] at hl
    rw [if_neg (fun h => by omega)]
    simp only [varsS]
theorem cellA {w : World} {a : Addr} {v : Value} (h : w.cell? a = some v) (o : Obj) : (w.alloc o).cell? a = some v := by
  have hlt : a.block < w.heap.size := by
    unfold World.cell? at h
    rcases Nat.lt_or_ge a.block w.heap.size with hlt | hge
    · exact hlt
    · rw [Array.getElem?_eq_none hge] at h; cases h
  exact (World.cell?_of_block (w := w) (Below.heap_alloc _ _ _ hlt)).trans h
/-- What a call of target shows. -/
def TgOut (D : Nat → Prop) (r : Option (Int × NL)) (e : Ending) (w' : World) : Prop := match r with
  | none => e = .returned (.tuple #[.int .i64 0, .slice none 0 0])
  | some (o, tl) => ∃ V, e = .returned (.tuple #[.int .i64 o, V]) ∧ OwnN w' D V tl
theorem TgOut.none_ (D : Nat → Prop) (w' : World) : TgOut D none (.returned (.tuple #[.int .i64 0, .slice none 0 0])) w' := rfl
theorem TgOut.some_ {D : Nat → Prop} {o : Int} {tl : NL} {V : Value} {w' : World} (h : OwnN w' D V tl) : TgOut D (some (o, tl)) (.returned (.tuple #[.int .i64 o, V])) w' := ⟨V, rfl, h⟩

set_option maxRecDepth 100000 in
set_option maxHeartbeats 4000000 in
theorem target_pc (op ln : Int) (s : ByteArray) (k n : Int) (t : ByteArray) (va : Option Addr) (vc : Nat) (V : Value) (sub : NL) (D : Nat → Prop) (w : World) (hok : okN (nd op ln s k n t sub)) (hV : OwnN w D V sub) (hD : ∀ k, w.heap.size ≤ k → D k) (hlen : sub.len ≤ 100000000000) :
    Calls Tryz.prog 58 #[.agg (nd8 op ln s k n t va vc V)] w fun e w' => TgOut D (targetS (nd op ln s k n t sub)) e w' ∧ Below w.heap.size w w' := by
  obtain ⟨sa, sc, rfl, hsc, hnone, hrp⟩ := hV.kids
  obtain ⟨wa, hwa⟩ : ∃ wa, wa = w.alloc (.cells #[.int .i64 op, .int .i64 ln, .string s, .int .i64 k, .int .i64 n, .string t, .slice va 0 vc, .slice sa sub.len sc] 31) := ⟨_, rfl⟩
  have hba : Below w.heap.size w wa := by rw [hwa]; exact (Below.refl _ _).alloc (Nat.le_refl _) _
  have hN : NdB wa w.heap.size (.int .i64 op) (.int .i64 ln) (.string s) (.int .i64 k) (.int .i64 n) (.string t) (.slice va 0 vc) (.slice sa sub.len sc) := by rw [hwa]; exact NdB.new _ _ _ _ _ _ _ _ _
  have c0 := hN.c0; have c1 := hN.c1; have c2 := hN.c2; have c3 := hN.c3; have c4 := hN.c4; have c5 := hN.c5; have c6 := hN.c6; have c7 := hN.c7
  have hz : wa.heap.size = w.heap.size + 1 := by rw [hwa]; simp
  have SC := Lib.hid (settable_pc op ln s k n t va vc sub sa sc wa hok hsc (hrp.keep (fun b hb => hba.block b hb.2) (fun b hb => by omega)))
  have HRP := Lib.hid hrp
  have HV := Lib.hid hV
  have HBA := Lib.hid hba
  have HNN := Lib.hid hN
  have HWA := Lib.hid hwa
  have HOK := Lib.hid hok.2.1
  rw [hwa] at c0 c1 c2 c3 c4 c5 c6 c7
  unfold nd8 at SC ⊢
  cases hs : setB op sub with
  | true =>
    rw [hs] at SC
    have HT : targetS (nd op ln s k n t sub) = some (27, nd op ln s k n t sub) := by
      unfold targetS; rw [settableS_nd, hs]; rfl
    rw [HT]
    clear hba hN hwa hok hV hrp hs HT
    go_enter Tryz.func58, Tryz.ntmps58
    go_wp2_with fail
    rw [← HWA.out]
    refine SC.out.mono ?_
    rintro e w1 ⟨rfl, hb1⟩
    have hn1 := HNN.out.below' hb1
    have d0 := hn1.c0; have d1 := hn1.c1; have d2 := hn1.c2; have d3 := hn1.c3; have d4 := hn1.c4; have d5 := hn1.c5; have d6 := hn1.c6; have d7 := hn1.c7
    have hb := HBA.out.trans (below_le' hb1 HBA.out.size)
    have HB := Lib.hid hb
    have HO := Lib.hid (OwnN.lit (cs := nd8 op ln s k n t va vc (.slice sa sub.len sc)) ((HV.out.below hb).row1 op ln s k n t va vc) (hD _ hb.size) (by show 1 ≤ _; decide))
    clear hb1 hn1 hb c0 c1 c2 c3 c4 c5 c6 c7
    go_wp2_with fail
    go_region
    go_wp2_with fail
    go_ret2
    exact ⟨TgOut.some_ (HO.out.below (Below.drew (Below.refl _ _))), (HB.out.alloc HB.out.size _).drew⟩
  | false =>
    rw [hs] at SC
    have HS := Lib.hid hs
    by_cases h25 : op = 25
    · subst h25
      by_cases hl0 : sub.len = 0
      · have HT : targetS (nd 25 ln s k n t sub) = none := by
          unfold targetS; rw [settableS_nd, HS.out]
          simp [nd, NL.op, NL.kids, hl0]
        rw [HT, hl0]
        rw [hl0] at SC HWA HNN c7
        clear hba hN hwa hok hV hrp hs HT HS hl0
        go_enter Tryz.func58, Tryz.ntmps58
        go_wp2_with fail
        rw [← HWA.out]
        refine SC.out.mono ?_
        rintro e w1 ⟨rfl, hb1⟩
        have hn1 := HNN.out.below' hb1
        have d0 := hn1.c0; have d7 := hn1.c7
        have HB := Lib.hid (HBA.out.trans (below_le' hb1 HBA.out.size))
        clear hb1 hn1 c0 c1 c2 c3 c4 c5 c6 c7
        go_wp2_with fail
        go_ret2
        exact ⟨TgOut.none_ _ _, HB.out⟩
      · obtain ⟨r, hr⟩ : ∃ r, r = varsS sub := ⟨_, rfl⟩
        have HR := Lib.hid hr
        have HT : targetS (nd 25 ln s k n t sub) = if r = true then some (28, sub) else none := by
          unfold targetS; rw [settableS_nd, HS.out, hr]
          simp [nd, NL.op, NL.kids, hl0]
        rw [HT]
        obtain ⟨R, hR⟩ : ∃ R, R = (if r = true then some (28, sub) else none : Option (Int × NL)) := ⟨_, rfl⟩
        rw [← hR]
        have HRR := Lib.hid hR
        have hlp : ¬ (sub.len : Int) = 0 := by omega
        have hlb : ((sub.len : Int) == 0) = false := beq_eq_false_iff_ne.2 hlp
        have hwrap : IntKind.i64.wrap ((sub.len : Int) - 1) = (sub.len : Int) - 1 := IntWalk.i64_in _ ⟨by omega, by omega⟩
        clear hba hN hwa hok hV hrp hs HT HS hr hR
        go_enter Tryz.func58, Tryz.ntmps58
        go_wp2_with fail
        rw [← HWA.out]
        refine SC.out.mono ?_
        rintro e w1 ⟨rfl, hb1⟩
        have hn1 := HNN.out.below' hb1
        have d0 := hn1.c0; have d7 := hn1.c7
        have HN1 := Lib.hid hn1
        have HB := Lib.hid (HBA.out.trans (below_le' hb1 HBA.out.size))
        have hz1 := hb1.size
        clear hb1 hn1 c0 c1 c2 c3 c4 c5 c6 c7
        go_wp2_with fail
        go_loopg [22] sub.len (fun kk iv wr => ∃ i : Nat, iv = .int .i64 i ∧ i + kk = sub.len ∧ Hid (Below w1.heap.size w1 wr) ∧ Hid (r = varsS (sub.drop i)))
        case atStart => exact ⟨0, rfl, by omega, Below.refl _ _, by rw [NL.drop]; exact HR.out⟩
        case round =>
          obtain ⟨i, rfl, hk, HBR, HQ⟩ := hrel
          have hnr := HN1.out.below' HBR.out
          have e0 := hnr.c0
          have e7 := hnr.c7
          by_cases hi : i < sub.len
          · have hwr := HB.out.trans (below_le' HBR.out (by have := HB.out.size; omega))
            obtain ⟨b, o, op2, ln2, s2, k2, n2, t2, v2, sub2, va2, vc2, sa2, sc2, hA, hS, hd, a0, a1, a2, a3, a4, a5, a6, hvc, hv, a7, hsc2, hs2⟩ := (HRP.out.keep (w' := wr) (S' := fun b => b < w.heap.size) (fun b hb => hwr.block b hb.2) (fun b hb => hb.2)).nth hi
            have htk := varsS_drop hi hd
            have htk := varsS_drop hi hd
            obtain ⟨kk, rfl⟩ : ∃ kk, gk = kk + 1 := ⟨gk - 1, by omega⟩
            have b0 : (0 : Int) ≤ (i : Int) := by omega
            have b1 : (i : Int) < (sub.len : Int) := by omega
            have E7 := fun o => cellA e7 o
            have hwz := hwr.size
            have HWR := Lib.hid hwr
            subst hA
            by_cases hlast : i + 1 = sub.len ∧ op2 = 26
            · obtain ⟨hlast, h26⟩ := hlast
              have blast : ((i : Int) == (sub.len : Int) - 1) = true := beq_iff_eq.2 (by omega)
              subst h26
              rw [if_pos ⟨hlast, rfl⟩] at htk
              have hok2 : sub2.len ≠ 0 := by have := okN_drop i sub HOK.out; rw [hd] at this; exact this.1 (.inr rfl)
              obtain ⟨b', o', op3, ln3, s3, k3, n3, t3, v3, sub3, va3, vc3, sa3, sc3, hA3, hS3, hd3, x0, x1, x2, x3, x4, x5, x6, hvc3, hv3, x7, hsc3, hs3⟩ := hs2.nth (i := 0) (by omega)
              rw [Nat.zero_mul, Nat.add_zero] at x0 x1 x2 x3 x4 x5 x6 x7
              rw [NL.drop] at hd3
              have hop3 : sub2.op = op3 := by rw [hd3]; rfl
              rw [hop3] at htk
              subst hA3
              have hlp2 : (0 : Int) < (sub2.len : Int) := by omega
              have X0 := fun o => cellA x0 o; have X1 := fun o => cellA x1 o; have X2 := fun o => cellA x2 o; have X3 := fun o => cellA x3 o
              have X4 := fun o => cellA x4 o; have X5 := fun o => cellA x5 o; have X6 := fun o => cellA x6 o; have X7 := fun o => cellA x7 o
              have HTK := Lib.hid (HQ.out.trans htk)
              have HBN := Lib.hid (fun o => HBR.out.alloc HBR.out.size o)
              have HWA2 := Lib.hid (fun o => HWR.out.alloc HWR.out.size o)
              clear hd hd3 htk hv hs2 hv3 hs3 HQ x0 x1 x2 x3 x4 x5 x6 x7 hwr
              by_cases hv2 : op3 = 2
              · subst hv2
                go_wp2_with fail
                go_roundg kk
                case measure => omega
                case rel => exact ⟨i + 1, by go_num, by omega, Lib.hid (HBN.out _), Lib.hid (HTK.out.trans (by rfl))⟩
              · have m2 : (op3 == 2) = false := beq_eq_false_iff_ne.2 hv2
                have m3 : (op3 != 2) = true := by rw [bne, m2]; rfl
                rw [m2] at HTK
                have HTN := Lib.hid (show R = none by rw [HRR.out, show r = false from HTK.out]; rfl)
                clear hv2
                go_wp2_with fail
                go_ret2
                rw [HTN.out]
                exact ⟨TgOut.none_ _ _, HWA2.out _⟩
            · rw [if_neg hlast] at htk
              have blast : ((i : Int) == (sub.len : Int) - 1) = false ∨ (((i : Int) == (sub.len : Int) - 1) = true ∧ (op2 == 26) = false) := by
                by_cases hl : i + 1 = sub.len
                · exact .inr ⟨beq_iff_eq.2 (by omega), beq_eq_false_iff_ne.2 (fun h => hlast ⟨hl, h⟩)⟩
                · exact .inl (beq_eq_false_iff_ne.2 (by omega))
              have HTK := Lib.hid (HQ.out.trans htk)
              have HBN := Lib.hid (fun o => HBR.out.alloc HBR.out.size o)
              have HWA2 := Lib.hid (fun o => HWR.out.alloc HWR.out.size o)
              clear hd htk hv hs2 HQ hwr hlast
              rcases blast with blast | ⟨blast, b26⟩
              all_goals
                by_cases hv2 : op2 = 2
                · subst hv2
                  go_wp2_with fail
                  go_roundg kk
                  case measure => omega
                  case rel => exact ⟨i + 1, by go_num, by omega, Lib.hid (HBN.out _), Lib.hid (HTK.out.trans (by rfl))⟩
                · have m2 : (op2 == 2) = false := beq_eq_false_iff_ne.2 hv2
                  have m3 : (op2 != 2) = true := by rw [bne, m2]; rfl
                  rw [m2] at HTK
                  have HTN := Lib.hid (show R = none by rw [HRR.out, show r = false from HTK.out]; rfl)
                  clear hv2
                  go_wp2_with fail
                  go_ret2
                  rw [HTN.out]
                  exact ⟨TgOut.none_ _ _, HWA2.out _⟩
          · obtain rfl : i = sub.len := by omega
            have hrt : r = true := by rw [HQ.out, NL.drop_len]; rfl
            have HTN := Lib.hid (show R = some (28, sub) by rw [HRR.out, hrt]; rfl)
            have HOF := Lib.hid ((HV.out.below HB.out).below HBR.out)
            have HBF := Lib.hid (HB.out.trans (below_le' HBR.out (by have := HB.out.size; omega)))
            go_wp2_with fail
            go_quiet (fail)
            go_wp2_with fail
            go_ret2
            rw [HTN.out]
            exact ⟨TgOut.some_ (HOF.out.below ⟨rfl, rfl, rfl, Nat.le_refl _, fun _ _ => rfl⟩), HBF.out.trans ⟨rfl, rfl, rfl, Nat.le_refl _, fun _ _ => rfl⟩⟩
    · have HT : targetS (nd op ln s k n t sub) = none := by
        unfold targetS; rw [settableS_nd, HS.out]
        simp [nd, NL.op, h25]
      rw [HT]
      have n25 : (op == 25) = false := beq_eq_false_iff_ne.2 h25
      have m25 : (op != 25) = true := by rw [bne, n25]; rfl
      clear hba hN hwa hok hV hrp hs HT HS h25
      go_enter Tryz.func58, Tryz.ntmps58
      go_wp2_with fail
      rw [← HWA.out]
      refine SC.out.mono ?_
      rintro e w1 ⟨rfl, hb1⟩
      have hn1 := HNN.out.below' hb1
      have d0 := hn1.c0; have d7 := hn1.c7
      have HB := Lib.hid (HBA.out.trans (below_le' hb1 HBA.out.size))
      clear hb1 hn1 c0 c1 c2 c3 c4 c5 c6 c7
      go_wp2_with fail
      go_ret2
      exact ⟨TgOut.none_ _ _, HB.out⟩
end Go.Proofs.YtggngahmafbihaaGreatDoor
namespace Go.Proofs.YtggngahmafbihaaGreatDoor
open Go.RowKit Go.Lib
set_option linter.unusedVariables false

/-- A struct of eight cells handed back. -/
theorem ret_cell8 {fn : Func} {p : Tmp} {Q : Ending → World → Prop} {act : Act} {w : World} (hr : fn.results = #[.cell p 31]) (g : Nat) (hp : act.tmps.getD p undef = .pointer (some ⟨g, 0, none⟩)) (hd : act.defers = [])
    {a b c d e f h i : Value} (hS : NdB w g a b c d e f h i) (hQ : Q (.returned (.agg #[a, b, c, d, e, f, h, i])) w) : bodyPost Tryz.prog fn Q .ret act w := by
  refine bodyPost_ret (v := .agg #[a, b, c, d, e, f, h, i]) ?_ hd hQ
  have c0 := hS.c0; have c1 := hS.c1; have c2 := hS.c2; have c3 := hS.c3; have c4 := hS.c4; have c5 := hS.c5; have c6 := hS.c6; have c7 := hS.c7
  have hp' : (act.tmps[p]?).getD undef = .pointer (some ⟨g, 0, none⟩) := by simpa using hp
  simp [results, hr, hp', go_sem, c0, c1, c2, c3, c4, c5, c6, c7]

/-- A call that gives a node. -/
def PNd (X : PCtx) (D : Nat → Prop) (w : World) (p : PS) (f : Nat) (r : NL × PS) (e : Ending) (w' : World) : Prop :=
  ∃ (op ln : Int) (s : ByteArray) (k n : Int) (t : ByteArray) (va : Option Addr) (vc : Nat) (V : Value) (sub : NL), r.1 = nd op ln s k n t sub ∧ e = .returned (.agg (nd8 op ln s k n t va vc V)) ∧
    Mvd w w' X r.2 ∧ OwnN w' D V sub ∧ okN r.1 ∧ sub.len ≤ 2 * f + 10 ∧ r.2.deep = p.deep
/-- A call that gives a row of nodes. -/
def PNl (X : PCtx) (D : Nat → Prop) (w : World) (p : PS) (f : Nat) (r : NL × PS) (e : Ending) (w' : World) : Prop :=
  ∃ (V : Value), e = .returned V ∧ Mvd w w' X r.2 ∧ OwnN w' D V r.1 ∧ okN r.1 ∧ r.1.len ≤ 2 * f + 2 ∧ r.2.deep = p.deep
def NodeC (X : PCtx) (fn : Nat) (args : Array Value) (rq : Req) (f : Nat) : Prop := ∀ (w : World) (p : PS) (r : NL × PS), PSt w X p → 0 ≤ p.deep → p.deep ≤ 160 → prsR X.l f rq p = some r →
  Calls Tryz.prog fn (#[.pointer (some ⟨X.P, 0, none⟩)] ++ args) w (PNd X (fun k => w.heap.size ≤ k) w p f r)
def ListC (X : PCtx) (fn : Nat) (args : Array Value) (rq : Req) (f : Nat) : Prop := ∀ (w : World) (p : PS) (r : NL × PS), PSt w X p → 0 ≤ p.deep → p.deep ≤ 160 → prsR X.l f rq p = some r →
  Calls Tryz.prog fn (#[.pointer (some ⟨X.P, 0, none⟩)] ++ args) w (PNl X (fun k => w.heap.size ≤ k) w p f r)
/-- behind: a node handed in. -/
def BehC (X : PCtx) (f : Nat) : Prop := ∀ (op ln : Int) (s : ByteArray) (k n : Int) (t : ByteArray) (va : Option Addr) (vc : Nat) (V : Value) (sub : NL) (D : Nat → Prop) (w : World) (p : PS) (r : NL × PS), PSt w X p → 0 ≤ p.deep → p.deep ≤ 160 →
  OwnN w D V sub → (∀ k, D k → X.P < k) → (∀ k, w.heap.size ≤ k → D k) → okN (nd op ln s k n t sub) → sub.len ≤ 2 * f + 10 → prsR X.l f (.behind (nd op ln s k n t sub)) p = some r →
  Calls Tryz.prog 173 #[.pointer (some ⟨X.P, 0, none⟩), .agg (nd8 op ln s k n t va vc V)] w (PNd X D w p f r)
/-- All that reads an expression, up to a fuel. -/
structure EC (X : PCtx) (F : Nat) : Prop where
  expr : ∀ f, f ≤ F → NodeC X 26 #[] .expr f
  cond : ∀ f, f ≤ F → NodeC X 56 #[] .cond f
  two : ∀ f, f ≤ F → ∀ k : Nat, k ≤ 5 → NodeC X 101 #[.int .i64 k] (.two k) f
  one : ∀ f, f ≤ F → NodeC X 146 #[] .one f
  part : ∀ f, f ≤ F → NodeC X 203 #[] .part f
  behind : ∀ f, f ≤ F → BehC X f
  items : ∀ f, f ≤ F → ∀ e : ByteArray, ListC X 204 #[.string e] (.items e.data.toList) f
  row : ∀ f, f ≤ F → ListC X 231 #[] (.row .nil) f
  codes : ∀ f, f ≤ F → NodeC X 111 #[] .codes f
  first : ∀ f, f ≤ F → NodeC X 174 #[] .first f
  within : ∀ f, f ≤ F → ∀ e : ByteArray, NodeC X 109 #[.string e] (.within e.data.toList) f
  caught : ∀ f, f ≤ F → ∀ ln : Int, NodeC X 205 #[.int .i64 ln] (.caught ln) f

@[simp] theorem failS_deep (l : List Tok) (p : PS) : (failS l p).deep = p.deep := by unfold failS; split <;> rfl
@[simp] theorem nextS_deep (p : PS) : (nextS p).deep = p.deep := rfl
@[simp] theorem mustS_deep (l : List Tok) (p : PS) (s : List UInt8) : (mustS l p s).deep = p.deep := by unfold mustS; split <;> simp
@[simp] theorem nameS_deep (l : List Tok) (p : PS) : (nameS l p).2.deep = p.deep := by
  unfold nameS; split
  · split <;> simp
  · simp
@[simp] theorem downS_deep (p : PS) : (downS p).deep = p.deep + 1 := by unfold downS; split <;> rfl
@[simp] theorem upS_deep (p : PS) : (upS p).deep = p.deep - 1 := rfl
theorem downS_le {p : PS} (h : (downS p).err.isNone = true) : p.deep + 1 ≤ 160 := by
  unfold downS at h
  split at h
  · cases h
  · rename_i hc
    have : ¬ 160 < p.deep + 1 := fun hd => hc ⟨hd, h⟩
    omega

theorem only_keeps {w w' : World} {P g : Nat} (hg : w.grownBy w' (some P)) (h : g < w.heap.size) (hP : P ≠ g) : w'.heap[g]? = w.heap[g]? := hg.block g h (fun e => by injection e with e; exact hP e.symm)
theorem NdB.grown {w w' : World} {P g : Nat} {a b c d e f h i : Value} (H : NdB w g a b c d e f h i) (hg : w.grownBy w' (some P)) (hP : P < g) : NdB w' g a b c d e f h i := (only_keeps hg H.lt (by omega)).trans H
theorem NdB.far {w : World} {g : Nat} {a b c d e f h i : Value} (H : NdB w g a b c d e f h i) {p : Addr} (hp : g ≠ p.block) (u : Value) : NdB (w.setCell p u) g a b c d e f h i := (Below.heap_setCell _ _ _ _ hp).trans H
theorem NdB.set0 {w : World} {g : Nat} {a b c d e f h i : Value} (H : NdB w g a b c d e f h i) (u : Value) : NdB (w.setCell ⟨g, 0, none⟩ u) g u b c d e f h i := by unfold NdB at H ⊢; simp [World.setCell, Array.getElem?_modify, H]
theorem NdB.set1 {w : World} {g : Nat} {a b c d e f h i : Value} (H : NdB w g a b c d e f h i) (u : Value) : NdB (w.setCell ⟨g, 1, none⟩ u) g a u c d e f h i := by unfold NdB at H ⊢; simp [World.setCell, Array.getElem?_modify, H]
theorem NdB.set2 {w : World} {g : Nat} {a b c d e f h i : Value} (H : NdB w g a b c d e f h i) (u : Value) : NdB (w.setCell ⟨g, 2, none⟩ u) g a b u d e f h i := by unfold NdB at H ⊢; simp [World.setCell, Array.getElem?_modify, H]
theorem NdB.set7 {w : World} {g : Nat} {a b c d e f h i : Value} (H : NdB w g a b c d e f h i) (u : Value) : NdB (w.setCell ⟨g, 7, none⟩ u) g a b c d e f h u := by unfold NdB at H ⊢; simp [World.setCell, Array.getElem?_modify, H]
/-- Behind an append to a row whose block is another. -/
theorem NdB.app {w w' : World} {V : Value} {g : Nat} {a b c d e f h i : Value} (H : NdB w g a b c d e f h i) (hg : w.grownBy w' V.ownBlock) (hne : V.ownBlock ≠ some g) : NdB w' g a b c d e f h i := (hg.block g H.lt (fun e => hne e.symm)).trans H
/-- An untouched node's block, one that holds what is being made, and its row. -/
def zN (w : World) (g : Nat) : Prop := NdB w g (.int .i64 0) (.int .i64 0) (.string ⟨#[]⟩) (.int .i64 0) (.int .i64 0) (.string ⟨#[]⟩) (.slice none 0 0) (.slice none 0 0)

section
variable {P : Program} {ops : Array Oper} {o : Oper} {a : Act} {K : Act → World → Prop} {Q : Exit → Act → World → Prop} {E : Prop}
/-- append of nodes at a step of a region that draws. -/
theorem step_app_nodes {w : World} (hgd : o.guard = none) (s x : Operand) (T : TypeId)
    (ho : o.op = .call { callee := .builtin .append, args := #[s, x], argTypes := #[T, T] }) {i : TypeInfo} {z : Value}
    (ht : P.underlying T = some (.slice 31)) (hi : P.info? 31 = some i) (hz : i.zero = some z) (hsize : i.size = 8) (hby : i.bytes = 112) (hzs : z.cells.size = 8)
    {D : Nat → Prop} {V : Value} {l b : NL} (hs : a.eval s = V) (hV : OwnN w D V l) {A : Option Addr} {c m : Nat} (hx : a.eval x = .slice A m c) (hm : m = b.len) (hb : RpN w (SN w D V) b A) (hA : A = none → c = 0) (hl : l.len + b.len ≤ 1000000000000) (hn : D w.heap.size)
    (h : ∀ A' c' w', OwnN w' D (.slice A' (l.len + b.len) c') (l.app b) → w.grownBy w' V.ownBlock → ((Value.slice A' (l.len + b.len) c').ownBlock = V.ownBlock ∨ (Value.slice A' (l.len + b.len) c').ownBlock = some w.heap.size) → K (a.put o.dst (.slice A' (l.len + b.len) c')) w') :
    if Region.wanted o (yielded ops a.tmps) = true then Oper.wp P o a w K Q else E := by
  have hw : Region.wanted o (yielded ops a.tmps) = true := by simp [Region.wanted, hgd]
  rw [if_pos hw]
  subst hm
  obtain ⟨A', c', w', hrun, h2, h3, h4⟩ := run_app_nodes (ty := o.type) w ht hi hz hsize hby hzs hV hb hA hl hn
  unfold Oper.wp
  simp [execOp, ho, resolve, invoke, builtin, hs, hx, hrun, Result.andThen]
  exact h A' c' w' h2 h3 h4
/-- .. in a region that does not. -/
theorem wpList_app_nodes {w : World} {rest : List Oper} (hgd : o.guard = none) (s x : Operand) (T : TypeId)
    (ho : o.op = .call { callee := .builtin .append, args := #[s, x], argTypes := #[T, T] }) {i : TypeInfo} {z : Value}
    (ht : P.underlying T = some (.slice 31)) (hi : P.info? 31 = some i) (hz : i.zero = some z) (hsize : i.size = 8) (hby : i.bytes = 112) (hzs : z.cells.size = 8)
    {D : Nat → Prop} {V : Value} {l b : NL} (hs : a.eval s = V) (hV : OwnN w D V l) {A : Option Addr} {c m : Nat} (hx : a.eval x = .slice A m c) (hm : m = b.len) (hb : RpN w (SN w D V) b A) (hA : A = none → c = 0) (hl : l.len + b.len ≤ 1000000000000) (hn : D w.heap.size)
    (h : ∀ A' c' w', OwnN w' D (.slice A' (l.len + b.len) c') (l.app b) → w.grownBy w' V.ownBlock → ((Value.slice A' (l.len + b.len) c').ownBlock = V.ownBlock ∨ (Value.slice A' (l.len + b.len) c').ownBlock = some w.heap.size) → wpList P ops Q rest (a.put o.dst (.slice A' (l.len + b.len) c')) w') :
    wpList P ops Q (o :: rest) a w := by
  refine wpList_plain hgd fun K hK => ?_
  subst hm
  obtain ⟨A', c', w', hrun, h2, h3, h4⟩ := run_app_nodes (ty := o.type) w ht hi hz hsize hby hzs hV hb hA hl hn
  unfold Oper.wp
  simp [execOp, ho, resolve, invoke, builtin, hs, hx, hrun, Result.andThen]
  exact hK _ _ (h A' c' w' h2 h3 h4)
end
/-- One node laid anew, to be appended to a row whose block is older. -/
theorem one_rpn {w : World} {D Dx : Nat → Prop} {V Vx : Value} {sub : NL} (hx : OwnN w Dx Vx sub) (op ln : Int) (s : ByteArray) (k n : Int) (t : ByteArray) (va : Option Addr) (vc : Nat) (hDx : Dx w.heap.size) (hB : ∀ k, Dx k → D k) (hV : ∀ g, V.ownBlock = some g → ¬ Dx g) :
    RpN (w.alloc (.cells (nd8 op ln s k n t va vc Vx) 31)) (SN (w.alloc (.cells (nd8 op ln s k n t va vc Vx) 31)) D V) (nd op ln s k n t sub) (some ⟨w.heap.size, 0, none⟩) := by
  have h := OwnN.lit (hx.row1 op ln s k n t va vc) hDx (by show 1 ≤ _; decide)
  obtain ⟨A, c, e, _, _, hr⟩ := h.kids
  simp only [Value.slice.injEq] at e
  rw [← e.1] at hr
  exact hr.sn (fun k hk _ => hB k hk) hV

theorem only_set1 (w : World) (g k : Nat) (u : Value) : w.grownBy (w.setCell ⟨g, k, none⟩ u) (some g) := only_setCell (only_refl w _) (.inl rfl) u
theorem only_set8 (w : World) (g : Nat) (a b c d e f h i : Value) :
    w.grownBy ((((((((w.setCell ⟨g, 0, none⟩ a).setCell ⟨g, 1, none⟩ b).setCell ⟨g, 2, none⟩ c).setCell ⟨g, 3, none⟩ d).setCell ⟨g, 4, none⟩ e).setCell ⟨g, 5, none⟩ f).setCell ⟨g, 6, none⟩ h).setCell ⟨g, 7, none⟩ i) (some g) := by
  refine only_setCell ?_ (.inl rfl) i
  refine only_setCell ?_ (.inl rfl) h
  refine only_setCell ?_ (.inl rfl) f
  refine only_setCell ?_ (.inl rfl) e
  refine only_setCell ?_ (.inl rfl) d
  refine only_setCell ?_ (.inl rfl) c
  refine only_setCell ?_ (.inl rfl) b
  exact only_set1 w g 0 a
/-- A node's block written: the parser stands as it stood. -/
theorem Mvd.node {a w w' : World} {X : PCtx} {p : PS} {g : Nat} {c0 c1 c2 c3 c4 c5 c6 c7 : Value} (h : Mvd a w X p) (hN : NdB w g c0 c1 c2 c3 c4 c5 c6 c7) (hP : X.P < g) (hg : a.heap.size ≤ g) (hb : w.grownBy w' (some g)) : Mvd a w' X p := by
  refine ⟨h.st.keep (fun b hb' => hb.block b (by have := h.st.lt; omega) (fun e => by injection e with e; omega)) (fun A line _ hA => hb.block A (heap_lt hA) (fun e => ?_)) hb.size, ⟨hb.os.trans h.grown.os, hb.tape.trans h.grown.tape, hb.output.trans h.grown.output, Nat.le_trans h.grown.size hb.size, fun k hk hne => (hb.block k (Nat.lt_of_lt_of_le hk h.grown.size) (fun e => by injection e with e; omega)).trans (h.grown.block k hk hne)⟩⟩
  injection e with e
  subst e
  unfold NdB at hN
  rw [hA] at hN
  injection hN with hN
  injection hN with _ hN _
  exact absurd hN (by decide)
end Go.Proofs.YtggngahmafbihaaGreatDoor
namespace Go.Proofs.YtggngahmafbihaaGreatDoor
open Go.RowKit Go.Lib
set_option linter.unusedVariables false

theorem PNd.mk {X : PCtx} {D : Nat → Prop} {w w' : World} {p : PS} {f : Nat} {r : NL × PS} (op ln : Int) (s : ByteArray) (k n : Int) (t : ByteArray) (va : Option Addr) (vc : Nat) (V : Value) (sub : NL) (q : PS) (hr : r = (nd op ln s k n t sub, q)) (hm : Mvd w w' X q) (ho : OwnN w' D V sub) (hk : okN (nd op ln s k n t sub)) (hl : sub.len ≤ 2 * f + 10) (hd : q.deep = p.deep) :
    PNd X D w p f r (.returned (.agg #[.int .i64 op, .int .i64 ln, .string s, .int .i64 k, .int .i64 n, .string t, .slice va 0 vc, V])) w' := by
  subst hr; exact ⟨op, ln, s, k, n, t, va, vc, V, sub, rfl, rfl, hm, ho, hk, hl, hd⟩
theorem zN.new (w : World) : zN (w.alloc (.cells #[.int .i64 0, .int .i64 0, .string ⟨#[]⟩, .int .i64 0, .int .i64 0, .string ⟨#[]⟩, .slice none 0 0, .slice none 0 0] 31)) w.heap.size := NdB.new _ _ _ _ _ _ _ _ _
theorem zN.new1 (w : World) (o : Obj) : zN ((w.alloc o).alloc (.cells #[.int .i64 0, .int .i64 0, .string ⟨#[]⟩, .int .i64 0, .int .i64 0, .string ⟨#[]⟩, .slice none 0 0, .slice none 0 0] 31)) (w.heap.size + 1) := by
  have := zN.new (w.alloc o)
  rw [World.size_alloc] at this
  exact this
theorem okN_nd {op ln : Int} {s : ByteArray} {k n : Int} {t : ByteArray} {sub : NL} (h : okN sub) (hop : op = 20 ∨ op = 26 → sub.len ≠ 0) : okN (nd op ln s k n t sub) := ⟨hop, h, trivial⟩
theorem okN_leaf {op ln : Int} {s : ByteArray} {k n : Int} {t : ByteArray} (h20 : op ≠ 20) (h26 : op ≠ 26) : okN (nd op ln s k n t .nil) := okN_nd trivial (fun h => by rcases h with h | h <;> contradiction)
theorem len_nd (op ln : Int) (s : ByteArray) (k n : Int) (t : ByteArray) (sub : NL) : (nd op ln s k n t sub).len = 1 := rfl

section
variable {X : PCtx} {p : PS} {s : ByteArray} {w : World} {L : List UInt8}
theorem may_t (h : PSt w X p) (hL : L = s.data.toList) (hb : isS X.l p L = true) :
    Calls Tryz.prog 65 #[.pointer (some ⟨X.P, 0, none⟩), .string s] w fun e w' => e = .returned (.bool true) ∧ Mvd w w' X (nextS p) := by
  have := may_c X p s w h
  rw [← hL, hb] at this
  exact this
theorem may_f (h : PSt w X p) (hL : L = s.data.toList) (hb : isS X.l p L = false) :
    Calls Tryz.prog 65 #[.pointer (some ⟨X.P, 0, none⟩), .string s] w fun e w' => e = .returned (.bool false) ∧ Mvd w w' X p := by
  have := may_c X p s w h
  rw [← hL, hb] at this
  exact this
theorem is_t (h : PSt w X p) (hL : L = s.data.toList) (hb : isS X.l p L = true) :
    Calls Tryz.prog 57 #[.pointer (some ⟨X.P, 0, none⟩), .string s] w fun e w' => e = .returned (.bool true) ∧ Mvd w w' X p := by
  have := is_c X p s w h
  rw [← hL, hb] at this
  exact this.mono fun e w' ⟨h1, h2⟩ => ⟨h1, (Mvd.of h).below h2⟩
theorem is_f (h : PSt w X p) (hL : L = s.data.toList) (hb : isS X.l p L = false) :
    Calls Tryz.prog 57 #[.pointer (some ⟨X.P, 0, none⟩), .string s] w fun e w' => e = .returned (.bool false) ∧ Mvd w w' X p := by
  have := is_c X p s w h
  rw [← hL, hb] at this
  exact this.mono fun e w' ⟨h1, h2⟩ => ⟨h1, (Mvd.of h).below h2⟩
theorem down_t (h : PSt w X p) (h0 : 0 ≤ p.deep) (h1 : p.deep ≤ 160) (hb : (downS p).err.isNone = true) :
    Calls Tryz.prog 59 #[.pointer (some ⟨X.P, 0, none⟩)] w fun e w' => e = .returned (.bool true) ∧ Mvd w w' X (downS p) := by
  have := down_c X p w h h0 (by omega)
  rw [hb] at this
  exact this
theorem down_f (h : PSt w X p) (h0 : 0 ≤ p.deep) (h1 : p.deep ≤ 160) (hb : (downS p).err.isNone = false) :
    Calls Tryz.prog 59 #[.pointer (some ⟨X.P, 0, none⟩)] w fun e w' => e = .returned (.bool false) ∧ Mvd w w' X (downS p) := by
  have := down_c X p w h h0 (by omega)
  rw [hb] at this
  exact this
theorem must_t (h : PSt w X p) (hL : L = s.data.toList) :
    Calls Tryz.prog 66 #[.pointer (some ⟨X.P, 0, none⟩), .string s] w fun e w' => e = .returned (.tuple #[]) ∧ Mvd w w' X (mustS X.l p L) := by
  rw [hL]; exact must_c X p s w h
theorem line_t (h : PSt w X p) :
    Calls Tryz.prog 64 #[.pointer (some ⟨X.P, 0, none⟩)] w fun e w' => e = .returned (.int .i64 (lineS X.l p)) ∧ Mvd w w' X p :=
  (line_pc X p w h).mono fun e w' ⟨h1, h2⟩ => ⟨h1, (Mvd.of h).below h2⟩
end

/-- The blocks from one on, but for one. -/
def DG (b x : Nat) : Nat → Prop := fun k => b ≤ k ∧ k ≠ x
theorem DG.not {b x P : Nat} (h : P < b) : ¬ DG b x P := fun hd => absurd hd.1 (by omega)
/-- Behind an append to the row of a node that lies in a block of its own: the row stored there. -/
theorem app_end {a W w9 : World} {X : PCtx} {p : PS} {base addr : Nat} {V V' c0 c1 c2 c3 c4 c5 c6 : Value} {l b : NL} {o : Obj} (hm : Mvd a W X p) (hN : NdB W addr c0 c1 c2 c3 c4 c5 c6 V) (hV : OwnN W (DG base addr) V l) (hP : X.P < base) (ha : a.heap.size ≤ base) (hPa : X.P < addr) (haa : a.heap.size ≤ addr)
    (hown : OwnN w9 (DG base addr) V' b) (hg : (W.alloc o).grownBy w9 V.ownBlock) :
    Mvd a (w9.setCell ⟨addr, 7, none⟩ V') X p ∧ NdB (w9.setCell ⟨addr, 7, none⟩ V') addr c0 c1 c2 c3 c4 c5 c6 V' ∧ OwnN (w9.setCell ⟨addr, 7, none⟩ V') (DG base addr) V' b ∧ W.heap.size + 1 ≤ (w9.setCell ⟨addr, 7, none⟩ V').heap.size := by
  have hb : Below W.heap.size W (W.alloc o) := (Below.refl _ _).alloc (Nat.le_refl _) _
  have h1 : Mvd a w9 X p := (hm.alloc o).app (hV.below hb) (fun k hk => Nat.lt_of_lt_of_le hP hk.1) (fun k hk => Nat.le_trans ha hk.1) hg
  have h2 : NdB w9 addr c0 c1 c2 c3 c4 c5 c6 V := (hN.alloc o).app hg (fun e => (hV.ge addr e).1.2 rfl)
  have hz : W.heap.size + 1 ≤ w9.heap.size := by have := hg.size; simp at this; omega
  exact ⟨h1.node h2 hPa haa (only_set1 _ _ _ _), h2.set7 V', hown.keep (fun k hk _ => Below.heap_setCell _ _ _ _ (by show k ≠ addr; exact hk.2)) (by rw [size_set]; exact Nat.le_refl _), by rw [size_set]; exact hz⟩
theorem app_other {W w9 : World} {base addr g : Nat} {V V' c0 c1 c2 c3 c4 c5 c6 c7 : Value} {l : NL} {o : Obj} (hN : NdB W g c0 c1 c2 c3 c4 c5 c6 c7) (hV : OwnN W (DG base addr) V l) (hgb : g < base) (hga : g ≠ addr) (hg : (W.alloc o).grownBy w9 V.ownBlock) : NdB (w9.setCell ⟨addr, 7, none⟩ V') g c0 c1 c2 c3 c4 c5 c6 c7 :=
  ((hN.alloc o).app hg (fun e => absurd (hV.ge g e).1.1 (by omega))).far (by show g ≠ addr; exact hga) _
/-- What is wanted at the append itself. -/
theorem app_at {W : World} {base addr B : Nat} {V Vx : Value} {l sub : NL} (hV : OwnN W (DG base addr) V l) (hx : OwnN W (fun k => B ≤ k) Vx sub) (op ln : Int) (s : ByteArray) (k n : Int) (t : ByteArray) (va : Option Addr) (vc : Nat) (hB : base ≤ B) (ha : addr < B) (hW : B ≤ W.heap.size) (hVB : ∀ g, V.ownBlock = some g → g < B) :
    OwnN (W.alloc (.cells (nd8 op ln s k n t va vc Vx) 31)) (DG base addr) V l ∧
    RpN (W.alloc (.cells (nd8 op ln s k n t va vc Vx) 31)) (SN (W.alloc (.cells (nd8 op ln s k n t va vc Vx) 31)) (DG base addr) V) (nd op ln s k n t sub) (some ⟨W.heap.size, 0, none⟩) :=
  ⟨hV.below ((Below.refl _ _).alloc (Nat.le_refl _) _), one_rpn hx op ln s k n t va vc hW (fun k (hk : B ≤ k) => ⟨by omega, by omega⟩) (fun g hg (hk : B ≤ g) => by have := hVB g hg; omega)⟩
/-- A row handed out behind a store to another block. -/
theorem own_end {W W' : World} {b x g w0 : Nat} {V : Value} {l : NL} (h : OwnN W (DG b x) V l) (hb : g < b) (hw : W.grownBy W' (some g)) (hge : w0 ≤ b) : OwnN W' (fun k => w0 ≤ k) V l :=
  (h.keep (fun k hk hk2 => hw.block k hk2 (fun e => by injection e with e; have := hk.1; omega)) hw.size).wide (fun k hk _ => Nat.le_trans hge hk.1)
/-- A row of one node, and a node that has it, laid one behind the other. -/
theorem lay_one {a W W' : World} {X : PCtx} {p : PS} {D : Nat → Prop} {V : Value} {sub : NL} (hm : Mvd a W X p) (ho : OwnN W D V sub) (op ln : Int) (s : ByteArray) (k n : Int) (t : ByteArray) (va : Option Addr) (vc : Nat) (op2 ln2 : Int) (hD : D W.heap.size)
    (hW : W' = (W.alloc (.cells (nd8 op ln s k n t va vc V) 31)).alloc (.cells #[.int .i64 op2, .int .i64 ln2, .string ⟨#[]⟩, .int .i64 0, .int .i64 0, .string ⟨#[]⟩, .slice none 0 0, .slice (some ⟨W.heap.size, 0, none⟩) 1 1] 31)) :
    Mvd a W' X p ∧ NdB W' (W.heap.size + 1) (.int .i64 op2) (.int .i64 ln2) (.string ⟨#[]⟩) (.int .i64 0) (.int .i64 0) (.string ⟨#[]⟩) (.slice none 0 0) (.slice (some ⟨W.heap.size, 0, none⟩) 1 1) ∧
      OwnN W' D (.slice (some ⟨W.heap.size, 0, none⟩) 1 1) (nd op ln s k n t sub) ∧ W'.heap.size = W.heap.size + 2 ∧ Below W.heap.size W W' := by
  have hl := OwnN.lit (ho.row1 op ln s k n t va vc) hD (by show 1 ≤ _; decide)
  have hb1 : Below W.heap.size W (W.alloc (.cells (nd8 op ln s k n t va vc V) 31)) := (Below.refl _ _).alloc (Nat.le_refl _) _
  have hn := NdB.new (W.alloc (.cells (nd8 op ln s k n t va vc V) 31)) (.int .i64 op2) (.int .i64 ln2) (.string ⟨#[]⟩) (.int .i64 0) (.int .i64 0) (.string ⟨#[]⟩) (.slice none 0 0) (.slice (some ⟨W.heap.size, 0, none⟩) 1 1)
  rw [World.size_alloc] at hn
  subst hW
  exact ⟨(hm.alloc _).alloc _, hn, hl.below ((Below.refl _ _).alloc (Nat.le_refl _) _), by simp, hb1.alloc (by simp) _⟩
/-- What stands behind `n.L = append(n.L, ..)`, n in a block of its own: the row has grown; the other nodes' blocks below the row's are as they were. -/
def AppR (X : PCtx) (a W0 : World) (q : PS) (base addr : Nat) (c0 c1 c2 c3 c4 c5 c6 : Value) (l x : NL) (m : Nat) (d : Int) (wx : World) : Prop :=
  ∃ V', Mvd a wx X q ∧ q.deep = d ∧ NdB wx addr c0 c1 c2 c3 c4 c5 c6 V' ∧ OwnN wx (DG base addr) V' (l.app x) ∧ x.len ≤ m ∧ okN x ∧ W0.heap.size < wx.heap.size ∧
    ∀ (g : Nat) (d0 d1 d2 d3 d4 d5 d6 d7 : Value), g < base → g ≠ addr → X.P < g → NdB W0 g d0 d1 d2 d3 d4 d5 d6 d7 → NdB wx g d0 d1 d2 d3 d4 d5 d6 d7
theorem app_rel {a W0 W w9 : World} {X : PCtx} {q : PS} {base addr m : Nat} {V V' c0 c1 c2 c3 c4 c5 c6 : Value} {l x : NL} {o : Obj} (hW : W0.grownBy W (some X.P)) (hm : Mvd a W X q) (hN : NdB W addr c0 c1 c2 c3 c4 c5 c6 V) (hV : OwnN W (DG base addr) V l) (hP : X.P < base) (ha : a.heap.size ≤ base) (hPa : X.P < addr) (haa : a.heap.size ≤ addr)
    (hown : OwnN w9 (DG base addr) V' (l.app x)) (hg : (W.alloc o).grownBy w9 V.ownBlock) (hx : x.len ≤ m) (hk : okN x) {d : Int} (hd : q.deep = d) : AppR X a W0 q base addr c0 c1 c2 c3 c4 c5 c6 l x m d (w9.setCell ⟨addr, 7, none⟩ V') := by
  obtain ⟨h1, h2, h3, h4⟩ := app_end hm hN hV hP ha hPa haa hown hg
  have hz := hW.size
  exact ⟨V', h1, hd, h2, h3, hx, hk, by omega, fun g d0 d1 d2 d3 d4 d5 d6 d7 hgb hga hgP hN0 => app_other (hN0.grown hW hgP) hV hgb hga hg⟩
theorem NdB.apart {w w' : World} {g g' : Nat} {a b c d e f h i : Value} (H : NdB w g a b c d e f h i) (hg : w.grownBy w' (some g')) (hne : g ≠ g') : NdB w' g a b c d e f h i := (hg.block g H.lt (fun e => by injection e with e; exact hne e)).trans H
theorem OwnN.apart {w w' : World} {b x g : Nat} {V : Value} {l : NL} (h : OwnN w (DG b x) V l) (hg : w.grownBy w' (some g)) (hne : g < b ∨ g = x) : OwnN w' (DG b x) V l :=
  h.keep (fun k hk hk2 => hg.block k hk2 (fun e => by injection e with e; have h1 := hk.1; have h2 := hk.2; omega)) hg.size
theorem PNl.mk {X : PCtx} {D : Nat → Prop} {w w' : World} {p : PS} {f : Nat} {r : NL × PS} (V : Value) (l : NL) (q : PS) (hr : r = (l, q)) (hm : Mvd w w' X q) (ho : OwnN w' D V l) (hk : okN l) (hl : l.len ≤ 2 * f + 2) (hd : q.deep = p.deep) : PNl X D w p f r (.returned V) w' := by
  subst hr; exact ⟨V, rfl, hm, ho, hk, hl, hd⟩
theorem targetS_nd {op ln : Int} {s : ByteArray} {k n : Int} {t : ByteArray} {sub : NL} {o : Int} {tl : NL} (h : targetS (nd op ln s k n t sub) = some (o, tl)) : (o = 27 ∧ tl = nd op ln s k n t sub) ∨ (o = 28 ∧ tl = sub) := by
  unfold targetS at h
  split at h
  · injection h with h; injection h with h1 h2; exact .inl ⟨h1.symm, h2.symm⟩
  · split at h
    · injection h with h; injection h with h1 h2; exact .inr ⟨h1.symm, h2.symm⟩
    · cases h
theorem okN_kids {op ln : Int} {s : ByteArray} {k n : Int} {t : ByteArray} {sub : NL} (h : okN (nd op ln s k n t sub)) : okN sub := h.2.1
/-- What is wanted at an append to a row that lies in no node. -/
theorem app_at0 {W : World} {base x0 B : Nat} {V Vx : Value} {l sub : NL} {x1 : Nat} (hV : OwnN W (DG base x0) V l) (hx : OwnN W (DG B x1) Vx sub) (op ln : Int) (s : ByteArray) (k n : Int) (t : ByteArray) (va : Option Addr) (vc : Nat) (hB : base ≤ B) (h0 : x0 < B) (hW : B ≤ W.heap.size) (h1 : x1 < B) (hVB : ∀ g, V.ownBlock = some g → g < B) :
    OwnN (W.alloc (.cells (nd8 op ln s k n t va vc Vx) 31)) (DG base x0) V l ∧
    RpN (W.alloc (.cells (nd8 op ln s k n t va vc Vx) 31)) (SN (W.alloc (.cells (nd8 op ln s k n t va vc Vx) 31)) (DG base x0) V) (nd op ln s k n t sub) (some ⟨W.heap.size, 0, none⟩) :=
  ⟨hV.below ((Below.refl _ _).alloc (Nat.le_refl _) _), one_rpn hx op ln s k n t va vc ⟨hW, by omega⟩ (fun k hk => ⟨by have := hk.1; omega, by have := hk.1; omega⟩) (fun g hg hk => by have := hVB g hg; have := hk.1; omega)⟩
/-- Behind an append to such a row. -/
theorem app_end0 {a W w9 : World} {X : PCtx} {p : PS} {base x0 : Nat} {V : Value} {l : NL} {o : Obj} (hm : Mvd a W X p) (hV : OwnN W (DG base x0) V l) (hP : X.P < base) (ha : a.heap.size ≤ base) (hg : (W.alloc o).grownBy w9 V.ownBlock) :
    Mvd a w9 X p ∧ W.heap.size + 1 ≤ w9.heap.size ∧ ∀ (g : Nat) (d0 d1 d2 d3 d4 d5 d6 d7 : Value), g < base ∨ g = x0 → NdB W g d0 d1 d2 d3 d4 d5 d6 d7 → NdB w9 g d0 d1 d2 d3 d4 d5 d6 d7 := by
  have hb : Below W.heap.size W (W.alloc o) := (Below.refl _ _).alloc (Nat.le_refl _) _
  refine ⟨(hm.alloc o).app (hV.below hb) (fun k hk => Nat.lt_of_lt_of_le hP hk.1) (fun k hk => Nat.le_trans ha hk.1) hg, ?_, fun g d0 d1 d2 d3 d4 d5 d6 d7 hgb hN => (hN.alloc o).app hg (fun e => by have h := (hV.ge g e).1; have h1 := h.1; have h2 := h.2; omega)⟩
  have := hg.size; simp at this; omega
end Go.Proofs.YtggngahmafbihaaGreatDoor
namespace Go.Proofs.YtggngahmafbihaaGreatDoor
open Go.RowKit Go.Lib
set_option linter.unusedVariables false

/-- The cells of a row of signs. -/
def sgCells : List (List UInt8 × Int) → List Value
  | [] => []
  | x :: l => [.string ⟨x.1.toArray⟩, .int .i64 x.2] ++ sgCells l
theorem sgCells_at : ∀ (l : List (List UInt8 × Int)) (j : Nat) (x : List UInt8 × Int), l[j]? = some x → (sgCells l)[j * 2]? = some (.string ⟨x.1.toArray⟩) ∧ (sgCells l)[j * 2 + 1]? = some (.int .i64 x.2)
  | [], _, _, h => by simp at h
  | y :: l, 0, x, h => by simp at h; subst h; exact ⟨rfl, rfl⟩
  | y :: l, j + 1, x, h => by
    rw [List.getElem?_cons_succ] at h
    have := sgCells_at l j x h
    rw [sgCells, show (j + 1) * 2 = j * 2 + 2 by omega]
    exact ⟨by simpa using this.1, by simpa [Nat.add_right_comm] using this.2⟩
/-- A row of signs in a block of its own. -/
def SgAt (w : World) (g : Nat) (l : List (List UInt8 × Int)) : Prop := w.heap[g]? = some (.cells (sgCells l).toArray 169 (0, 0))
theorem SgAt.cells {w : World} {g : Nat} {l : List (List UInt8 × Int)} (h : SgAt w g l) {j : Nat} {x : List UInt8 × Int} (hx : l[j]? = some x) : w.cell? ⟨g, j * 2, none⟩ = some (.string ⟨x.1.toArray⟩) ∧ w.cell? ⟨g, j * 2 + 1, none⟩ = some (.int .i64 x.2) := by
  obtain ⟨h1, h2⟩ := sgCells_at l j x hx
  rw [cell_of_row w g _ _ _ _ h, cell_of_row w g _ _ _ _ h, List.getElem?_toArray, List.getElem?_toArray]
  exact ⟨h1, h2⟩
theorem SgAt.lt {w : World} {g : Nat} {l : List (List UInt8 × Int)} (h : SgAt w g l) : g < w.heap.size := heap_lt h
/-- What a level is, in memory. -/
def LvOut (w : World) (l : List (List UInt8 × Int)) (e : Ending) (w' : World) : Prop := e = .returned (.slice (some ⟨w.heap.size, 0, none⟩) l.length l.length) ∧ SgAt w' w.heap.size l ∧ Below w.heap.size w w'
set_option maxRecDepth 100000 in
set_option maxHeartbeats 2000000 in
theorem level_c (k : Nat) (hk : k < 5) (w : World) : Calls Tryz.prog 145 #[.int .i64 k] w (LvOut w (levelS k)) := by
  match k, hk with
  | 0, _ =>
    go_enter Tryz.func145, Tryz.ntmps145
    go_wp2_with fail
    go_ret
    exact ⟨rfl, heap_alloc_new w _, (Below.refl _ _).alloc (Nat.le_refl _) _⟩
  | 1, _ =>
    go_enter Tryz.func145, Tryz.ntmps145
    go_wp2_with fail
    go_ret
    exact ⟨rfl, heap_alloc_new w _, (Below.refl _ _).alloc (Nat.le_refl _) _⟩
  | 2, _ =>
    go_enter Tryz.func145, Tryz.ntmps145
    go_wp2_with fail
    go_ret
    exact ⟨rfl, heap_alloc_new w _, (Below.refl _ _).alloc (Nat.le_refl _) _⟩
  | 3, _ =>
    go_enter Tryz.func145, Tryz.ntmps145
    go_wp2_with fail
    go_ret
    exact ⟨rfl, heap_alloc_new w _, (Below.refl _ _).alloc (Nat.le_refl _) _⟩
  | 4, _ =>
    go_enter Tryz.func145, Tryz.ntmps145
    go_wp2_with fail
    go_ret
    exact ⟨rfl, heap_alloc_new w _, (Below.refl _ _).alloc (Nat.le_refl _) _⟩
set_option maxHeartbeats 1000000 in
theorem level_5 (w : World) : Calls Tryz.prog 145 #[.int .i64 5] w fun e w' => e = .returned (.slice none 0 0) ∧ w = w' := by
  go_enter Tryz.func145, Tryz.ntmps145
  go_wp2_with fail
  go_ret
  exact ⟨rfl, rfl⟩

/-- Where the first is that is at hand. -/
def idxG (p : List UInt8 × Int → Bool) : List (List UInt8 × Int) → Nat → Int
  | [], _ => -1
  | x :: l, i => if p x then (i : Int) else idxG p l (i + 1)
theorem idxG_drop (p : List UInt8 × Int → Bool) (l : List (List UInt8 × Int)) (i : Nat) (x : List UInt8 × Int) (h : l[i]? = some x) : idxG p (l.drop i) i = if p x then (i : Int) else idxG p (l.drop (i + 1)) (i + 1) := by
  have hi : i < l.length := by
    rcases Nat.lt_or_ge i l.length with hlt | hge
    · exact hlt
    · rw [List.getElem?_eq_none hge] at h; cases h
  rw [List.getElem?_eq_getElem hi] at h
  injection h with h
  rw [List.drop_eq_getElem_cons hi, h, idxG]
theorem idxG_find (p : List UInt8 × Int → Bool) : ∀ (l : List (List UInt8 × Int)) (i : Nat), (idxG p l i = -1 ∧ l.find? p = none) ∨ ∃ (j : Nat) (x : List UInt8 × Int), idxG p l i = ((i + j : Nat) : Int) ∧ l[j]? = some x ∧ l.find? p = some x ∧ p x = true
  | [], i => .inl ⟨rfl, rfl⟩
  | x :: l, i => by
    rw [idxG]
    cases hp : p x with
    | true => exact .inr ⟨0, x, by simp, rfl, by rw [List.find?_cons, hp], hp⟩
    | false =>
      rw [List.find?_cons, hp]
      rcases idxG_find p l (i + 1) with ⟨h1, h2⟩ | ⟨j, y, h1, h2, h3, h4⟩
      · exact .inl ⟨by simpa using h1, h2⟩
      · exact .inr ⟨j + 1, y, by simp; rw [h1]; omega, by simpa using h2, h3, h4⟩

set_option maxHeartbeats 1000000 in
theorem ask_c (X : PCtx) (q : PS) (s : List UInt8) (op : Int) (B : Nat) (w : World) (h : PSt w X q) (hB : w.cell? ⟨B, 0, none⟩ = some (.pointer (some ⟨X.P, 0, none⟩))) :
    Calls Tryz.prog 148 #[.agg #[.string ⟨s.toArray⟩, .int .i64 op], .pointer (some ⟨B, 0, none⟩)] w fun e w' => e = .returned (.bool (isS X.l q s)) ∧ Below w.heap.size w w' := by
  have hb : Below w.heap.size w (w.alloc (.cells #[.string ⟨s.toArray⟩, .int .i64 op] 169)) := (Below.refl _ _).alloc (Nat.le_refl _) _
  have IC := Lib.hid (is_c X q ⟨s.toArray⟩ _ (h.below hb))
  have hB2 := fun o => cellA hB o
  have HB := Lib.hid hb
  clear h hb hB
  go_enter Tryz.func148, Tryz.ntmps148
  go_wp2_with fail
  refine IC.out.mono ?_
  rintro e w1 ⟨rfl, hb1⟩
  have HB1 := Lib.hid (HB.out.trans (below_le' hb1 HB.out.size))
  clear hb1
  go_wp2_with fail
  go_ret
  exact ⟨rfl, HB1.out⟩
end Go.Proofs.YtggngahmafbihaaGreatDoor
