/- Contracts of the functions that the statement reaches, and the plain mathematics beneath: several texts joined. -/
import Derived.Deep.RegionHeld3
import Derived.Test.YtggngahmafbihaaGreatDoorPbiAN
import Derived.Test.YtggngahmafbihaaGreatDoorPbiBJ
import Derived.Test.YtggngahmafbihaaGreatDoorPbiBH
import Derived.Test.YtggngahmafbihaaGreatDoorPbiAK
namespace Go.Proofs.YtggngahmafbihaaGreatDoor
open Go.RowKit Go.Lib
set_option linter.unusedVariables false

def fitB : NL → Bool
  | .nil => true
  | .cons _ _ s _ _ t v sub r => decide (s.size ≤ 140737488351232) && decide (t.size ≤ 140737488351232) && (match v with | .nil => true | _ => false) && decide (sub.len ≤ 140737488351232) && fitB sub && fitB r
theorem fitB_of : ∀ n : NL, fitB n = true → n.fit
  | .nil, _ => trivial
  | .cons _ _ s _ _ t .nil sub r, h => by
    rw [fitB] at h
    simp only [Bool.and_eq_true, decide_eq_true_eq] at h
    obtain ⟨⟨⟨⟨⟨h1, h2⟩, h3⟩, h4⟩, h5⟩, h6⟩ := h
    exact ⟨h1, h2, by decide, trivial, h4, fitB_of sub h5, fitB_of r h6⟩
  | .cons _ _ s _ _ t (.cons _ _ _ _ _) sub r, h => by
    simp [fitB] at h
/-- A text that is an expression, and which. -/
def GoodX (T : ByteArray) (n : NL) : Prop := ∃ (l : List Tok) (F : Nat) (p1 : PS), T.size ≤ 32768 ∧ allW T = .inr l ∧ 0 < l.length ∧ l.length ≤ 1000000 ∧ F ≤ 1000000000 ∧ prsR l F .expr ⟨0, 0, none⟩ = some (n, p1) ∧ (exprS l p1).err = none ∧ rightN n 0 = true ∧ n.fit
theorem goodX_c {T : ByteArray} {n : NL} (h : GoodX T n) {ea : Nat → Addr} {w : World} (he : LxEnv w ea) : Calls Tryz.prog 11 #[.string T] w (PxGood n w) := by
  obtain ⟨l, F, p1, h1, h2, h3, h4, h5, h6, h7, h8, h9⟩ := h
  exact pexpr_good T l F n p1 ea w he h1 h2 h3 h4 h5 h6 h7 h8 h9
def okX (s : List UInt8) : Bool := decide (s.length ≤ 32768) && (match allW ⟨s.toArray⟩ with | .inr l => decide (0 < l.length) && decide (l.length ≤ 1000000) | _ => false) && (match exprR 60 s with | .good n => rightN n 0 && fitB n | _ => false)
theorem okX_good {s : List UInt8} (h : okX s = true) : ∃ n, exprR 60 s = .good n ∧ GoodX ⟨s.toArray⟩ n := by
  unfold okX at h
  simp only [Bool.and_eq_true, decide_eq_true_eq] at h
  obtain ⟨⟨h1, h2⟩, h3⟩ := h
  cases ha : allW ⟨s.toArray⟩ with
  | inl e => rw [ha] at h2; cases h2
  | inr l =>
    rw [ha] at h2
    simp only [Bool.and_eq_true, decide_eq_true_eq] at h2
    cases hx : exprR 60 s with
    | good n =>
      rw [hx] at h3
      simp only [Bool.and_eq_true] at h3
      refine ⟨n, rfl, ?_⟩
      unfold exprR at hx
      rw [ha] at hx
      simp only at hx
      cases hp : prsR l 60 .expr ⟨0, 0, none⟩ with
      | none => rw [hp] at hx; cases hx
      | some r =>
        obtain ⟨m, p1⟩ := r
        rw [hp] at hx
        simp only at hx
        cases he : (if p1.pos < l.length then failS l p1 else p1).err with
        | some e => rw [he] at hx; cases hx
        | none =>
          rw [he] at hx
          simp only [ExR.good.injEq] at hx
          subst hx
          exact ⟨l, 60, p1, by show s.toArray.size ≤ _; simpa using h1, ha, h2.1, h2.2, by decide, hp, he, h3.1, fitB_of _ h3.2⟩
    | lex _ _ => rw [hx] at h3; cases h3
    | bad _ => rw [hx] at h3; cases h3
    | out => rw [hx] at h3; cases h3
theorem two_same {s t : List UInt8} {a b : NL} (ha : exprR 60 s = .good a) (hb : exprR 60 t = .good b) (h : (exprR 60 s).two (exprR 60 t) = true) : sameN a b = true := by rw [ha, hb] at h; exact h

/-- A node in a block of its own. -/
def BN (w : World) (R G : Nat) (n : NL) : Prop := R ≤ G ∧ ∃ (op ln : Int) (s : ByteArray) (k m : Int) (t : ByteArray) (va : Option Addr) (vc : Nat) (A : Option Addr) (c : Nat) (sub : NL), n = nd op ln s k m t sub ∧ NdB w G (.int .i64 op) (.int .i64 ln) (.string s) (.int .i64 k) (.int .i64 m) (.string t) (.slice va 0 vc) (.slice A sub.len c) ∧ OwnN w (fun b => R ≤ b) (.slice A sub.len c) sub
theorem BN.below {w w' : World} {R G : Nat} {n : NL} (h : BN w R G n) (hb : Below w.heap.size w w') : BN w' R G n := by
  obtain ⟨h0, op, ln, s, k, m, t, va, vc, A, c, sub, e, h1, h2⟩ := h
  exact ⟨h0, op, ln, s, k, m, t, va, vc, A, c, sub, e, h1.below' hb, h2.below hb⟩
theorem BN.lt {w : World} {R G : Nat} {n : NL} (h : BN w R G n) : G < w.heap.size := by
  obtain ⟨h0, op, ln, s, k, m, t, va, vc, A, c, sub, e, h1, h2⟩ := h
  exact h1.lt
/-- A node as a row of one. -/
theorem rp1v {w : World} {S : Nat → Prop} {b : Nat} {op ln : Int} {s : ByteArray} {k n : Int} {t : ByteArray} {va : Option Addr} {vc : Nat} {sub : NL} {sa : Option Addr} {sc : Nat}
    (h : NdB w b (.int .i64 op) (.int .i64 ln) (.string s) (.int .i64 k) (.int .i64 n) (.string t) (.slice va 0 vc) (.slice sa sub.len sc)) (hS : S b) (hc : sub.len ≤ sc) (hr : RpN w S sub sa) :
    RpN w S (nd op ln s k n t sub) (some ⟨b, 0, none⟩) :=
  ⟨b, 0, va, vc, sa, sc, rfl, hS, h.c0, h.c1, h.c2, h.c3, h.c4, h.c5, h.c6, Nat.zero_le _, trivial, h.c7, hc, hr, trivial⟩
/-- parse.Expr's answer, cell by cell. -/
theorem pxGood_open {n : NL} {w w' : World} {e : Ending} {R : Nat} (hR : R ≤ w.heap.size) (h : PxGood n w e w') : ∃ (op ln : Int) (s : ByteArray) (k m : Int) (t : ByteArray) (va : Option Addr) (vc : Nat) (A : Option Addr) (c : Nat) (sub : NL),
    e = .returned (.tuple #[.agg #[.int .i64 op, .int .i64 ln, .string s, .int .i64 k, .int .i64 m, .string t, .slice va 0 vc, .slice A sub.len c], .nilIface]) ∧ Hid (n = nd op ln s k m t sub) ∧ Hid (OwnN w' (fun b => R ≤ b) (.slice A sub.len c) sub) ∧ Hid (Below w.heap.size w w') := by
  obtain ⟨op, ln, s, k, m, t, va, vc, V, sub, h1, h2, h3, h4⟩ := h
  obtain ⟨A, c, rfl⟩ := h3.form
  exact ⟨op, ln, s, k, m, t, va, vc, A, c, sub, h2, Lib.hid h1, Lib.hid (h3.wide (fun b hb _ => by omega)), Lib.hid h4⟩
theorem BN.set8 {w : World} {R G : Nat} {n : NL} {op ln : Int} {s : ByteArray} {k m : Int} {t : ByteArray} {va : Option Addr} {vc : Nat} {A : Option Addr} {c : Nat} {sub : NL} {a0 a1 a2 a3 a4 a5 a6 a7 : Value} (hR : R ≤ G) (hn : n = nd op ln s k m t sub) (hz : NdB w G a0 a1 a2 a3 a4 a5 a6 a7) (ho : OwnN w (fun b => R ≤ b ∧ b ≠ G) (.slice A sub.len c) sub) :
    BN ((((((((w.setCell ⟨G, 0, none⟩ (.int .i64 op)).setCell ⟨G, 1, none⟩ (.int .i64 ln)).setCell ⟨G, 2, none⟩ (.string s)).setCell ⟨G, 3, none⟩ (.int .i64 k)).setCell ⟨G, 4, none⟩ (.int .i64 m)).setCell ⟨G, 5, none⟩ (.string t)).setCell ⟨G, 6, none⟩ (.slice va 0 vc)).setCell ⟨G, 7, none⟩ (.slice A sub.len c)) R G n := by
  have hk := only_set8 w G (.int .i64 op) (.int .i64 ln) (.string s) (.int .i64 k) (.int .i64 m) (.string t) (.slice va 0 vc) (.slice A sub.len c)
  exact ⟨hR, op, ln, s, k, m, t, va, vc, A, c, sub, hn, hz.set8 _ _ _ _ _ _ _ _, (ho.keep (fun b hb hb2 => hk.block b hb2 (fun e => hb.2 (by injection e))) hk.size).wide (fun b hb _ => hb.1)⟩
theorem BN.new {w : World} {R : Nat} {n : NL} {op ln : Int} {s : ByteArray} {k m : Int} {t : ByteArray} {va : Option Addr} {vc : Nat} {A : Option Addr} {c : Nat} {sub : NL} (hR : R ≤ w.heap.size) (hn : n = nd op ln s k m t sub) (ho : OwnN w (fun b => R ≤ b) (.slice A sub.len c) sub) :
    BN (w.alloc (.cells #[.int .i64 op, .int .i64 ln, .string s, .int .i64 k, .int .i64 m, .string t, .slice va 0 vc, .slice A sub.len c] 31)) R w.heap.size n :=
  ⟨hR, op, ln, s, k, m, t, va, vc, A, c, sub, hn, NdB.new _ _ _ _ _ _ _ _ _, ho.below ((Below.refl _ _).alloc (Nat.le_refl _) _)⟩
end Go.Proofs.YtggngahmafbihaaGreatDoor
namespace Go.Proofs.YtggngahmafbihaaGreatDoor
open Go.RowKit Go.Lib

def flT (a b : List UInt8) : List UInt8 := [120, 32] ++ a ++ [32, 121, 32] ++ b ++ [32, 122]
def lfT (a b : List UInt8) : List UInt8 := [40, 120, 32] ++ a ++ [32, 121, 41, 32] ++ b ++ [32, 122]
def rgT (a b : List UInt8) : List UInt8 := [120, 32] ++ a ++ [32, 40, 121, 32] ++ b ++ [32, 122, 41]
def stT (a : List UInt8) : List UInt8 := [120, 32, 61, 32, 121, 32] ++ a ++ [32, 122, 32, 63, 32, 121, 32, 124, 32, 120]
def alT (a : List UInt8) : List UInt8 := [120, 32, 61, 32, 40, 40, 121, 32] ++ a ++ [32, 122, 41, 32, 63, 32, 121, 32, 124, 32, 120, 41]
def sgAt (i : Nat) : List UInt8 := sgL.getD i []
def lvAt (i : Nat) : Nat := lvL.getD i 0
def pairQ (i j : Nat) : Bool := okX (flT (sgAt i) (sgAt j)) && okX (lfT (sgAt i) (sgAt j)) && okX (rgT (sgAt i) (sgAt j)) && (exprR 60 (flT (sgAt i) (sgAt j))).two (exprR 60 (if lvAt i < lvAt j then rgT (sgAt i) (sgAt j) else lfT (sgAt i) (sgAt j)))
def setAt (i : Nat) : Bool := okX (stT (sgAt i)) && okX (alT (sgAt i)) && (exprR 60 (stT (sgAt i))).two (exprR 60 (alT (sgAt i))) && (exprR 60 (stT (sgAt i))).op == 27
set_option maxRecDepth 100000 in
theorem pair_0 : (List.range 10).all (pairQ 0) = true := by decide +kernel
set_option maxRecDepth 100000 in
theorem pair_1 : (List.range 10).all (pairQ 1) = true := by decide +kernel
set_option maxRecDepth 100000 in
theorem pair_2 : (List.range 10).all (pairQ 2) = true := by decide +kernel
set_option maxRecDepth 100000 in
theorem pair_3 : (List.range 10).all (pairQ 3) = true := by decide +kernel
set_option maxRecDepth 100000 in
theorem pair_4 : (List.range 10).all (pairQ 4) = true := by decide +kernel
set_option maxRecDepth 100000 in
theorem pair_5 : (List.range 10).all (pairQ 5) = true := by decide +kernel
set_option maxRecDepth 100000 in
theorem pair_6 : (List.range 10).all (pairQ 6) = true := by decide +kernel
set_option maxRecDepth 100000 in
theorem pair_7 : (List.range 10).all (pairQ 7) = true := by decide +kernel
set_option maxRecDepth 100000 in
theorem pair_8 : (List.range 10).all (pairQ 8) = true := by decide +kernel
set_option maxRecDepth 100000 in
theorem pair_9 : (List.range 10).all (pairQ 9) = true := by decide +kernel
set_option maxRecDepth 100000 in
theorem set_all : (List.range 10).all setAt = true := by decide +kernel
theorem pair_all {i j : Nat} (hi : i < 10) (hj : j < 10) : pairQ i j = true := by
  have h : (List.range 10).all (pairQ i) = true := by
    have : i = 0 ∨ i = 1 ∨ i = 2 ∨ i = 3 ∨ i = 4 ∨ i = 5 ∨ i = 6 ∨ i = 7 ∨ i = 8 ∨ i = 9 := by omega
    rcases this with rfl | rfl | rfl | rfl | rfl | rfl | rfl | rfl | rfl | rfl
    · exact pair_0
    · exact pair_1
    · exact pair_2
    · exact pair_3
    · exact pair_4
    · exact pair_5
    · exact pair_6
    · exact pair_7
    · exact pair_8
    · exact pair_9
  rw [List.all_eq_true] at h
  exact h j (List.mem_range.2 hj)
/-- The five texts of ParseBinds, and what they are. -/
theorem binds_x {i j : Nat} (hi : i < 10) (hj : j < 10) : ∃ fl lf rg st al : NL, GoodX ⟨(flT (sgAt i) (sgAt j)).toArray⟩ fl ∧ GoodX ⟨(lfT (sgAt i) (sgAt j)).toArray⟩ lf ∧ GoodX ⟨(rgT (sgAt i) (sgAt j)).toArray⟩ rg ∧ GoodX ⟨(stT (sgAt i)).toArray⟩ st ∧ GoodX ⟨(alT (sgAt i)).toArray⟩ al ∧
    sameN fl (if lvAt i < lvAt j then rg else lf) = true ∧ sameN st al = true ∧ st.op = 27 := by
  have h := pair_all hi hj
  unfold pairQ at h
  simp only [Bool.and_eq_true] at h
  obtain ⟨⟨⟨h1, h2⟩, h3⟩, h4⟩ := h
  have g := set_all
  rw [List.all_eq_true] at g
  have g := g i (List.mem_range.2 hi)
  unfold setAt at g
  simp only [Bool.and_eq_true, beq_iff_eq] at g
  obtain ⟨⟨⟨g1, g2⟩, g3⟩, g4⟩ := g
  obtain ⟨fl, a1, b1⟩ := okX_good h1
  obtain ⟨lf, a2, b2⟩ := okX_good h2
  obtain ⟨rg, a3, b3⟩ := okX_good h3
  obtain ⟨st, a4, b4⟩ := okX_good g1
  obtain ⟨al, a5, b5⟩ := okX_good g2
  refine ⟨fl, lf, rg, st, al, b1, b2, b3, b4, b5, ?_, two_same a4 a5 g3, by rw [a4] at g4; exact g4⟩
  by_cases hlt : lvAt i < lvAt j
  · rw [if_pos hlt] at h4 ⊢; exact two_same a1 a3 h4
  · rw [if_neg hlt] at h4 ⊢; exact two_same a1 a2 h4
end Go.Proofs.YtggngahmafbihaaGreatDoor
