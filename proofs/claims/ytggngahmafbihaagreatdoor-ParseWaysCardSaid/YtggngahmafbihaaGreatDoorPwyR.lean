/- Contracts of the functions that the statement reaches, and the plain mathematics beneath: several texts joined. -/
import Derived.Test.YtggngahmafbihaaGreatDoorPwyQ
import Derived.Test.YtggngahmafbihaaGreatDoorPwyC
import Derived.Test.YtggngahmafbihaaGreatDoorPwyD
import Derived.Deep.RegionHeld3
import Derived.LaidEql
import Derived.Handy
import Derived.Test.YtggngahmafbihaaGreatDoorPwyN
import Derived.Test.YtggngahmafbihaaGreatDoorRows
import Derived.Stop.LaidErr
import Derived.Lib.LaidTab
import Derived.ProofKit
import Derived.Test.YtggngahmafbihaaGreatDoorTie
import Derived.Test.YtggngahmafbihaaGreatDoorCards
import Derived.SevenTiedAt
import Derived.LaidMore
import Derived.Stop.Joined
import Derived.HandedShaped
import Derived.OpenShut
import Derived.ShutString
import Derived.Lay
import Derived.Test.YtggngahmafbihaaGreatDoorPwyA
import Derived.Test.YtggngahmafbihaaGreatDoorPwyB
import Derived.Test.YtggngahmafbihaaGreatDoorPwyE
import Derived.Test.YtggngahmafbihaaGreatDoorPwyF
import Derived.Test.YtggngahmafbihaaGreatDoorPwyG
import Derived.Test.YtggngahmafbihaaGreatDoorPwyH
import Derived.Test.YtggngahmafbihaaGreatDoorPwyI
import Derived.Test.YtggngahmafbihaaGreatDoorPwyJ
import Derived.Test.YtggngahmafbihaaGreatDoorPwyK
import Derived.Test.YtggngahmafbihaaGreatDoorPwyL
import Derived.Test.YtggngahmafbihaaGreatDoorPwyM
import Derived.Test.YtggngahmafbihaaGreatDoorPwyO
import Derived.Test.YtggngahmafbihaaGreatDoorPwyP
namespace Go.Proofs.YtggngahmafbihaaGreatDoor
open Go.RowKit Go.Lib
set_option linter.unusedVariables false

end Go.Proofs.YtggngahmafbihaaGreatDoor
namespace Go.Proofs.YtggngahmafbihaaGreatDoor
open Go.RowKit Go.Lib
set_option linter.unusedVariables false

end Go.Proofs.YtggngahmafbihaaGreatDoor
namespace Go.Proofs.YtggngahmafbihaaGreatDoor
open Go.RowKit Go.Lib
set_option linter.unusedVariables false

end Go.Proofs.YtggngahmafbihaaGreatDoor
namespace Go.Proofs.YtggngahmafbihaaGreatDoor
open Go.RowKit Go.Lib
set_option linter.unusedVariables false

/-- A number below another one. -/
def PNum (b : Nat) (w : World) (e : Ending) (w' : World) : Prop := ∃ r : Nat, r < b ∧ e = .returned (.int .i64 r) ∧ w = w'
set_option maxHeartbeats 1000000 in
theorem wnumber_c (n : Int) (b : Nat) (w : World) (hn0 : -9223372036854775808 ≤ n) (hn1 : n ≤ 9223372036854775807) (hb0 : 0 < b) (hb1 : b ≤ 1000000) :
    Calls Tryz.prog 10 #[.int .i64 n, .int .i64 b] w (PNum b w) := by
  have ht1 : Int.tmod n b < b := Int.tmod_lt_of_pos n (by omega)
  have ht0 : -(b : Int) < Int.tmod n b := by
    by_cases h : 0 ≤ n
    · have := Int.tmod_nonneg (b : Int) h; omega
    · have h1 := Int.tmod_lt_of_pos (-n) (show (0 : Int) < (b : Int) by omega)
      rw [Int.neg_tmod] at h1; omega
  have hbz : ((b : Int) == 0) = false := (bne_of (by omega)).2
  by_cases hneg : Int.tmod n b < 0
  · have hd : decide (Int.tmod n b < 0) = true := decide_eq_true hneg
    go_enter Tryz.func10, Tryz.ntmps10
    go_wp2_with fail
    go_ret
    exact ⟨(Int.tmod n b + b).toNat, by omega, ret_int (by omega), rfl⟩
  · have hd : decide (Int.tmod n b < 0) = false := decide_eq_false hneg
    go_enter Tryz.func10, Tryz.ntmps10
    go_wp2_with fail
    go_ret
    exact ⟨(Int.tmod n b).toNat, by omega, ret_int (by omega), rfl⟩
end Go.Proofs.YtggngahmafbihaaGreatDoor
namespace Go.Proofs.YtggngahmafbihaaGreatDoor
open Go.RowKit Go.Lib
set_option linter.unusedVariables false

def fitB : NL → Bool
  | .nil => true
  | .cons _ _ s _ _ t v sub r => decide (s.size ≤ 140737488351232) && decide (t.size ≤ 140737488351232) && (match v with | .nil => true | _ => false) && decide (sub.len ≤ 140737488351232) && fitB sub && fitB r
theorem fitB_of : ∀ n : NL, fitB n = true → n.fit
  | .nil, _ => trivial
  | .cons _ _ s _ _ t .nil sub r, h => by
    rw [fitB] at h
    simp only [Bool.and_eq_true, decide_eq_true_eq] at h
    obtain ⟨⟨⟨⟨⟨h1, h2⟩, h3⟩, h4⟩, h5⟩, h6⟩ := h
    exact ⟨h1, h2, by decide, trivial, h4, fitB_of sub h5, fitB_of r h6⟩
  | .cons _ _ s _ _ t (.cons _ _ _ _ _) sub r, h => by
    simp [fitB] at h
/-- A text that is an expression, and which. -/
def GoodX (T : ByteArray) (n : NL) : Prop := ∃ (l : List Tok) (F : Nat) (p1 : PS), T.size ≤ 32768 ∧ allW T = .inr l ∧ 0 < l.length ∧ l.length ≤ 1000000 ∧ F ≤ 1000000000 ∧ prsR l F .expr ⟨0, 0, none⟩ = some (n, p1) ∧ (exprS l p1).err = none ∧ rightN n 0 = true ∧ n.fit
theorem goodX_c {T : ByteArray} {n : NL} (h : GoodX T n) {ea : Nat → Addr} {w : World} (he : LxEnv w ea) : Calls Tryz.prog 11 #[.string T] w (PxGood n w) := by
  obtain ⟨l, F, p1, h1, h2, h3, h4, h5, h6, h7, h8, h9⟩ := h
  exact pexpr_good T l F n p1 ea w he h1 h2 h3 h4 h5 h6 h7 h8 h9
def okX (s : List UInt8) : Bool := decide (s.length ≤ 32768) && (match allW ⟨s.toArray⟩ with | .inr l => decide (0 < l.length) && decide (l.length ≤ 1000000) | _ => false) && (match exprR 60 s with | .good n => rightN n 0 && fitB n | _ => false)
theorem okX_good {s : List UInt8} (h : okX s = true) : ∃ n, exprR 60 s = .good n ∧ GoodX ⟨s.toArray⟩ n := by
  unfold okX at h
  simp only [Bool.and_eq_true, decide_eq_true_eq] at h
  obtain ⟨⟨h1, h2⟩, h3⟩ := h
  cases ha : allW ⟨s.toArray⟩ with
  | inl e => rw [ha] at h2; cases h2
  | inr l =>
    rw [ha] at h2
    simp only [Bool.and_eq_true, decide_eq_true_eq] at h2
    cases hx : exprR 60 s with
    | good n =>
      rw [hx] at h3
      simp only [Bool.and_eq_true] at h3
      refine ⟨n, rfl, ?_⟩
      unfold exprR at hx
      rw [ha] at hx
      simp only at hx
      cases hp : prsR l 60 .expr ⟨0, 0, none⟩ with
      | none => rw [hp] at hx; cases hx
      | some r =>
        obtain ⟨m, p1⟩ := r
        rw [hp] at hx
        simp only at hx
        cases he : (if p1.pos < l.length then failS l p1 else p1).err with
        | some e => rw [he] at hx; cases hx
        | none =>
          rw [he] at hx
          simp only [ExR.good.injEq] at hx
          subst hx
          exact ⟨l, 60, p1, by show s.toArray.size ≤ _; simpa using h1, ha, h2.1, h2.2, by decide, hp, he, h3.1, fitB_of _ h3.2⟩
    | lex _ _ => rw [hx] at h3; cases h3
    | bad _ => rw [hx] at h3; cases h3
    | out => rw [hx] at h3; cases h3
theorem two_same {s t : List UInt8} {a b : NL} (ha : exprR 60 s = .good a) (hb : exprR 60 t = .good b) (h : (exprR 60 s).two (exprR 60 t) = true) : sameN a b = true := by rw [ha, hb] at h; exact h

/-- A node in a block of its own. -/
def BN (w : World) (R G : Nat) (n : NL) : Prop := R ≤ G ∧ ∃ (op ln : Int) (s : ByteArray) (k m : Int) (t : ByteArray) (va : Option Addr) (vc : Nat) (A : Option Addr) (c : Nat) (sub : NL), n = nd op ln s k m t sub ∧ NdB w G (.int .i64 op) (.int .i64 ln) (.string s) (.int .i64 k) (.int .i64 m) (.string t) (.slice va 0 vc) (.slice A sub.len c) ∧ OwnN w (fun b => R ≤ b) (.slice A sub.len c) sub
theorem BN.below {w w' : World} {R G : Nat} {n : NL} (h : BN w R G n) (hb : Below w.heap.size w w') : BN w' R G n := by
  obtain ⟨h0, op, ln, s, k, m, t, va, vc, A, c, sub, e, h1, h2⟩ := h
  exact ⟨h0, op, ln, s, k, m, t, va, vc, A, c, sub, e, h1.below' hb, h2.below hb⟩
theorem BN.lt {w : World} {R G : Nat} {n : NL} (h : BN w R G n) : G < w.heap.size := by
  obtain ⟨h0, op, ln, s, k, m, t, va, vc, A, c, sub, e, h1, h2⟩ := h
  exact h1.lt
/-- A node as a row of one. -/
theorem rp1v {w : World} {S : Nat → Prop} {b : Nat} {op ln : Int} {s : ByteArray} {k n : Int} {t : ByteArray} {va : Option Addr} {vc : Nat} {sub : NL} {sa : Option Addr} {sc : Nat}
    (h : NdB w b (.int .i64 op) (.int .i64 ln) (.string s) (.int .i64 k) (.int .i64 n) (.string t) (.slice va 0 vc) (.slice sa sub.len sc)) (hS : S b) (hc : sub.len ≤ sc) (hr : RpN w S sub sa) :
    RpN w S (nd op ln s k n t sub) (some ⟨b, 0, none⟩) :=
  ⟨b, 0, va, vc, sa, sc, rfl, hS, h.c0, h.c1, h.c2, h.c3, h.c4, h.c5, h.c6, Nat.zero_le _, trivial, h.c7, hc, hr, trivial⟩
/-- parse.Expr's answer, cell by cell. -/
theorem pxGood_open {n : NL} {w w' : World} {e : Ending} {R : Nat} (hR : R ≤ w.heap.size) (h : PxGood n w e w') : ∃ (op ln : Int) (s : ByteArray) (k m : Int) (t : ByteArray) (va : Option Addr) (vc : Nat) (A : Option Addr) (c : Nat) (sub : NL),
    e = .returned (.tuple #[.agg #[.int .i64 op, .int .i64 ln, .string s, .int .i64 k, .int .i64 m, .string t, .slice va 0 vc, .slice A sub.len c], .nilIface]) ∧ Hid (n = nd op ln s k m t sub) ∧ Hid (OwnN w' (fun b => R ≤ b) (.slice A sub.len c) sub) ∧ Hid (Below w.heap.size w w') := by
  obtain ⟨op, ln, s, k, m, t, va, vc, V, sub, h1, h2, h3, h4⟩ := h
  obtain ⟨A, c, rfl⟩ := h3.form
  exact ⟨op, ln, s, k, m, t, va, vc, A, c, sub, h2, Lib.hid h1, Lib.hid (h3.wide (fun b hb _ => by omega)), Lib.hid h4⟩
theorem BN.set8 {w : World} {R G : Nat} {n : NL} {op ln : Int} {s : ByteArray} {k m : Int} {t : ByteArray} {va : Option Addr} {vc : Nat} {A : Option Addr} {c : Nat} {sub : NL} {a0 a1 a2 a3 a4 a5 a6 a7 : Value} (hR : R ≤ G) (hn : n = nd op ln s k m t sub) (hz : NdB w G a0 a1 a2 a3 a4 a5 a6 a7) (ho : OwnN w (fun b => R ≤ b ∧ b ≠ G) (.slice A sub.len c) sub) :
    BN ((((((((w.setCell ⟨G, 0, none⟩ (.int .i64 op)).setCell ⟨G, 1, none⟩ (.int .i64 ln)).setCell ⟨G, 2, none⟩ (.string s)).setCell ⟨G, 3, none⟩ (.int .i64 k)).setCell ⟨G, 4, none⟩ (.int .i64 m)).setCell ⟨G, 5, none⟩ (.string t)).setCell ⟨G, 6, none⟩ (.slice va 0 vc)).setCell ⟨G, 7, none⟩ (.slice A sub.len c)) R G n := by
  have hk := only_set8 w G (.int .i64 op) (.int .i64 ln) (.string s) (.int .i64 k) (.int .i64 m) (.string t) (.slice va 0 vc) (.slice A sub.len c)
  exact ⟨hR, op, ln, s, k, m, t, va, vc, A, c, sub, hn, hz.set8 _ _ _ _ _ _ _ _, (ho.keep (fun b hb hb2 => hk.block b hb2 (fun e => hb.2 (by injection e))) hk.size).wide (fun b hb _ => hb.1)⟩
theorem BN.new {w : World} {R : Nat} {n : NL} {op ln : Int} {s : ByteArray} {k m : Int} {t : ByteArray} {va : Option Addr} {vc : Nat} {A : Option Addr} {c : Nat} {sub : NL} (hR : R ≤ w.heap.size) (hn : n = nd op ln s k m t sub) (ho : OwnN w (fun b => R ≤ b) (.slice A sub.len c) sub) :
    BN (w.alloc (.cells #[.int .i64 op, .int .i64 ln, .string s, .int .i64 k, .int .i64 m, .string t, .slice va 0 vc, .slice A sub.len c] 31)) R w.heap.size n :=
  ⟨hR, op, ln, s, k, m, t, va, vc, A, c, sub, hn, NdB.new _ _ _ _ _ _ _ _ _, ho.below ((Below.refl _ _).alloc (Nat.le_refl _) _)⟩
end Go.Proofs.YtggngahmafbihaaGreatDoor
namespace Go.Proofs.YtggngahmafbihaaGreatDoor
open Go.RowKit Go.Lib
set_option linter.unusedVariables false

set_option maxRecDepth 100000 in
set_option maxHeartbeats 2000000 in
theorem vsame0_c (k n : Int) (t : ByteArray) (va va' : Option Addr) (vc vc' : Nat) (w : World) :
    Calls Tryz.prog 35 #[.agg #[.int .i64 k, .int .i64 n, .string t, .slice va 0 vc], .agg #[.int .i64 k, .int .i64 n, .string t, .slice va' 0 vc']] w fun e w' => e = .returned (.bool true) ∧ Below w.heap.size w w' := by
  obtain ⟨w1, hw1⟩ : ∃ w1, w1 = w.alloc (.cells #[.int .i64 k, .int .i64 n, .string t, .slice va 0 vc] 28) := ⟨_, rfl⟩
  have hb1 : Below w.heap.size w w1 := by rw [hw1]; exact (Below.refl _ _).alloc (Nat.le_refl _) _
  have hz1 : w1.heap.size = w.heap.size + 1 := by rw [hw1]; simp
  obtain ⟨w2, hw2⟩ : ∃ w2, w2 = w1.alloc (.cells #[.int .i64 k, .int .i64 n, .string t, .slice va' 0 vc'] 28) := ⟨_, rfl⟩
  have hb2 : Below w1.heap.size w1 w2 := by rw [hw2]; exact (Below.refl _ _).alloc (Nat.le_refl _) _
  have n1 : w1.heap[w.heap.size]? = some (.cells #[.int .i64 k, .int .i64 n, .string t, .slice va 0 vc] 28 (0, 0)) := by rw [hw1]; exact heap_alloc_new w _
  have n1' : w2.heap[w.heap.size]? = some (.cells #[.int .i64 k, .int .i64 n, .string t, .slice va 0 vc] 28 (0, 0)) := by rw [hb2.block _ (by omega)]; exact n1
  have n2 : w2.heap[w.heap.size + 1]? = some (.cells #[.int .i64 k, .int .i64 n, .string t, .slice va' 0 vc'] 28 (0, 0)) := by rw [hw2, ← hz1]; exact heap_alloc_new w1 _
  have a0 : w2.cell? ⟨w.heap.size, 0, none⟩ = some (.int .i64 k) := by simp [World.cell?, n1']
  have a1 : w2.cell? ⟨w.heap.size, 1, none⟩ = some (.int .i64 n) := by simp [World.cell?, n1']
  have a2 : w2.cell? ⟨w.heap.size, 2, none⟩ = some (.string t) := by simp [World.cell?, n1']
  have a3 : w2.cell? ⟨w.heap.size, 3, none⟩ = some (.slice va 0 vc) := by simp [World.cell?, n1']
  have b0 : w2.cell? ⟨w.heap.size + 1, 0, none⟩ = some (.int .i64 k) := by simp [World.cell?, n2]
  have b1 : w2.cell? ⟨w.heap.size + 1, 1, none⟩ = some (.int .i64 n) := by simp [World.cell?, n2]
  have b2 : w2.cell? ⟨w.heap.size + 1, 2, none⟩ = some (.string t) := by simp [World.cell?, n2]
  have b3 : w2.cell? ⟨w.heap.size + 1, 3, none⟩ = some (.slice va' 0 vc') := by simp [World.cell?, n2]
  have HB := Lib.hid (hb1.trans (below_le' hb2 hb1.size))
  rw [hw2, hw1] at a0 a1 a2 a3 b0 b1 b2 b3
  have HW := Lib.hid (show w2 = (w.alloc (.cells #[.int .i64 k, .int .i64 n, .string t, .slice va 0 vc] 28)).alloc (.cells #[.int .i64 k, .int .i64 n, .string t, .slice va' 0 vc'] 28) by rw [hw2, hw1])
  clear hw1 hw2 hb1 hb2 hz1 n1 n1' n2
  go_enter Tryz.func35, Tryz.ntmps35
  go_wp2_with fail
  rw [← HW.out]
  go_loopg [38] 1 (fun kk iv wr => iv = .int .i64 0 ∧ w2 = wr)
  case atStart => exact ⟨rfl, rfl⟩
  case round =>
    obtain ⟨rfl, rfl⟩ := hrel
    go_wp2_with fail
    go_ret
    exact ⟨rfl, HB.out⟩

theorem sameN_cons {op ln : Int} {s : ByteArray} {k n : Int} {t : ByteArray} {v : VL} {sub r : NL} {op' ln' : Int} {s' : ByteArray} {k' n' : Int} {t' : ByteArray} {v' : VL} {sub' r' : NL}
    (h : sameN (.cons op ln s k n t v sub r) (.cons op' ln' s' k' n' t' v' sub' r') = true) : op = op' ∧ s = s' ∧ k = k' ∧ n = n' ∧ t = t' ∧ v = v' ∧ sameN sub sub' = true ∧ sameN r r' = true := by
  rw [sameN] at h
  simp only [Bool.and_eq_true, decide_eq_true_eq] at h
  obtain ⟨⟨⟨⟨h1, h2⟩, h3⟩, h4⟩, h5⟩ := h
  obtain ⟨a1, a2, a3, a4⟩ := same1_iff.1 h1
  exact ⟨h2, h3, a1, a2, a3, a4, h4, h5⟩
theorem fitB_cons {op ln : Int} {s : ByteArray} {k n : Int} {t : ByteArray} {v : VL} {sub r : NL} (h : fitB (.cons op ln s k n t v sub r) = true) : v = .nil ∧ s.size ≤ 140737488351232 ∧ sub.len ≤ 140737488351232 ∧ fitB sub = true ∧ fitB r = true := by
  cases v with
  | nil =>
    rw [fitB] at h
    simp only [Bool.and_eq_true, decide_eq_true_eq] at h
    obtain ⟨⟨⟨⟨⟨h1, h2⟩, h3⟩, h4⟩, h5⟩, h6⟩ := h
    exact ⟨rfl, h1, h4, h5, h6⟩
  | cons => simp [fitB] at h
theorem fitB_drop : ∀ (i : Nat) (l : NL), fitB l = true → fitB (l.drop i) = true
  | 0, l, h => by rw [NL.drop]; exact h
  | i + 1, .nil, h => by rw [NL.drop]; exact h
  | i + 1, .cons op ln s k n t v sub r, h => by rw [NL.drop]; exact fitB_drop i r (fitB_cons h).2.2.2.2
theorem sameN_dropT : ∀ (i : Nat) (a b : NL), sameN a b = true → sameN (a.drop i) (b.drop i) = true
  | 0, a, b, h => by rw [NL.drop, NL.drop]; exact h
  | i + 1, .nil, .nil, h => by rw [NL.drop]; rfl
  | i + 1, .nil, .cons .., h => by simp [sameN] at h
  | i + 1, .cons .., .nil, h => by simp [sameN] at h
  | i + 1, .cons .., .cons .., h => by rw [NL.drop, NL.drop]; exact sameN_dropT i _ _ (sameN_cons h).2.2.2.2.2.2.2
theorem sameN_lenT : ∀ (a b : NL), sameN a b = true → a.len = b.len
  | .nil, .nil, h => rfl
  | .nil, .cons .., h => by simp [sameN] at h
  | .cons .., .nil, h => by simp [sameN] at h
  | .cons .., .cons .., h => by rw [NL.len, NL.len, sameN_lenT _ _ (sameN_cons h).2.2.2.2.2.2.2]

def TSameC (N : Nat) : Prop := ∀ (la lb : NL) (sa sb : Option Addr) (ca cb : Nat) (w : World), la.tot < N → sameN la lb = true → fitB la = true → fitB lb = true → la.len ≤ 140737488351232 → la.len ≤ ca → la.len ≤ cb → RpN w (fun b => b < w.heap.size) la sa → RpN w (fun b => b < w.heap.size) lb sb →
  Calls Tryz.prog 14 #[.slice sa la.len ca, .slice sb la.len cb] w fun e w' => e = .returned (.bool true) ∧ Below w.heap.size w w'

set_option maxRecDepth 100000 in
set_option maxHeartbeats 2000000 in
theorem same1_t {N : Nat} (ih : TSameC N) (op ln ln' : Int) (s : ByteArray) (k n : Int) (t : ByteArray) (va va' : Option Addr) (vc vc' : Nat) (sub sub' : NL) (sa sa' : Option Addr) (sc sc' : Nat) (w : World)
    (hN : sub.tot < N) (hsm : sameN sub sub' = true) (hf : fitB sub = true) (hf' : fitB sub' = true) (hl : sub.len ≤ 140737488351232) (hc : sub.len ≤ sc) (hc' : sub.len ≤ sc') (hr : RpN w (fun b => b < w.heap.size) sub sa) (hr' : RpN w (fun b => b < w.heap.size) sub' sa') :
    Calls Tryz.prog 34 #[.agg #[.int .i64 op, .int .i64 ln, .string s, .int .i64 k, .int .i64 n, .string t, .slice va 0 vc, .slice sa sub.len sc], .agg #[.int .i64 op, .int .i64 ln', .string s, .int .i64 k, .int .i64 n, .string t, .slice va' 0 vc', .slice sa' sub.len sc']] w fun e w' => e = .returned (.bool true) ∧ Below w.heap.size w w' := by
  obtain ⟨m, hm⟩ : ∃ m, m = sub.len := ⟨_, rfl⟩
  rw [← hm]
  obtain ⟨w1, hw1⟩ : ∃ w1, w1 = w.alloc (.cells #[.int .i64 op, .int .i64 ln, .string s, .int .i64 k, .int .i64 n, .string t, .slice va 0 vc, .slice sa m sc] 31) := ⟨_, rfl⟩
  have hb1 : Below w.heap.size w w1 := by rw [hw1]; exact (Below.refl _ _).alloc (Nat.le_refl _) _
  have hz1 : w1.heap.size = w.heap.size + 1 := by rw [hw1]; simp
  obtain ⟨w2, hw2⟩ : ∃ w2, w2 = w1.alloc (.cells #[.int .i64 op, .int .i64 ln', .string s, .int .i64 k, .int .i64 n, .string t, .slice va' 0 vc', .slice sa' m sc'] 31) := ⟨_, rfl⟩
  have hb2 : Below w1.heap.size w1 w2 := by rw [hw2]; exact (Below.refl _ _).alloc (Nat.le_refl _) _
  have n1 : NdB w1 w.heap.size (.int .i64 op) (.int .i64 ln) (.string s) (.int .i64 k) (.int .i64 n) (.string t) (.slice va 0 vc) (.slice sa m sc) := by rw [hw1]; exact NdB.new _ _ _ _ _ _ _ _ _
  have n1' := n1.below' hb2
  have n2 : NdB w2 (w.heap.size + 1) (.int .i64 op) (.int .i64 ln') (.string s) (.int .i64 k) (.int .i64 n) (.string t) (.slice va' 0 vc') (.slice sa' m sc') := by rw [hw2, ← hz1]; exact NdB.new _ _ _ _ _ _ _ _ _
  have hb := hb1.trans (below_le' hb2 hb1.size)
  have a0 := n1'.c0; have a2 := n1'.c2; have a3 := n1'.c3; have a4 := n1'.c4; have a5 := n1'.c5; have a6 := n1'.c6; have a7 := n1'.c7
  have b0 := n2.c0; have b2 := n2.c2; have b3 := n2.c3; have b4 := n2.c4; have b5 := n2.c5; have b6 := n2.c6; have b7 := n2.c7
  have HB := Lib.hid hb
  have HN1 := Lib.hid n1'
  have HN2 := Lib.hid n2
  have VC := Lib.hid (vsame0_c k n t va va' vc vc' w2)
  have TC := Lib.hid (fun W (hW : Below w2.heap.size w2 W) => ih sub sub' sa sa' sc sc' W hN hsm hf hf' hl hc hc' (((hr.below hb (fun b h => h)).below hW (fun b h => Nat.lt_of_lt_of_le h hb.size)).wide (fun b h => Nat.lt_of_lt_of_le h (Nat.le_trans hb.size hW.size))) (((hr'.below hb (fun b h => h)).below hW (fun b h => Nat.lt_of_lt_of_le h hb.size)).wide (fun b h => Nat.lt_of_lt_of_le h (Nat.le_trans hb.size hW.size))))
  rw [← hm] at TC
  rw [hw2, hw1] at a0 a2 a3 a4 a5 a6 a7 b0 b2 b3 b4 b5 b6 b7
  have HW := Lib.hid (show w2 = (w.alloc (.cells #[.int .i64 op, .int .i64 ln, .string s, .int .i64 k, .int .i64 n, .string t, .slice va 0 vc, .slice sa m sc] 31)).alloc (.cells #[.int .i64 op, .int .i64 ln', .string s, .int .i64 k, .int .i64 n, .string t, .slice va' 0 vc', .slice sa' m sc'] 31) by rw [hw2, hw1])
  clear hw1 hw2 hb1 hb2 hz1 n1 n1' n2 hb hN hsm hf hf' hl hc hc' hr hr' hm ih
  go_enter Tryz.func34, Tryz.ntmps34
  go_wp2_with fail
  rw [← HW.out]
  refine VC.out.mono ?_
  rintro e w3 ⟨rfl, hb3⟩
  have y1 := HN1.out.below' hb3
  have y2 := HN2.out.below' hb3
  have c7 := y1.c7
  have d7 := y2.c7
  have HB3 := Lib.hid hb3
  clear hb3 y1 y2 a0 a2 a3 a4 a5 a6 a7 b0 b2 b3 b4 b5 b6 b7
  go_wp2_with fail
  refine (TC.out w3 HB3.out).mono ?_
  rintro e w4 ⟨rfl, hb4⟩
  have HB4 := Lib.hid (HB.out.trans (below_le' (HB3.out.trans (below_le' hb4 HB3.out.size)) HB.out.size))
  clear hb4
  go_wp2_with fail
  go_ret
  exact ⟨rfl, HB4.out⟩

set_option maxRecDepth 100000 in
set_option maxHeartbeats 4000000 in
theorem eqf_t {N : Nat} (ih : TSameC N) (la lb : NL) (sa sb : Option Addr) (ca cb : Nat) (w : World) (hN : la.tot ≤ N) (hsm : sameN la lb = true) (hf : fitB la = true) (hf' : fitB lb = true) (hl : la.len ≤ 140737488351232) (hc : la.len ≤ ca) (hc' : la.len ≤ cb) (hr : RpN w (fun b => b < w.heap.size) la sa) (hr' : RpN w (fun b => b < w.heap.size) lb sb) :
    Calls Tryz.prog 33 #[.slice sa la.len ca, .slice sb la.len cb, .func (.func 34) #[] #[]] w fun e w' => e = .returned (.bool true) ∧ Below w.heap.size w w' := by
  have hll := sameN_lenT la lb hsm
  obtain ⟨m, hm⟩ : ∃ m, m = la.len := ⟨_, rfl⟩
  have HM := Lib.hid hm
  rw [← hm] at hl hc hc' ⊢
  have HR := Lib.hid hr
  have HR' := Lib.hid hr'
  have HLL := Lib.hid hll
  clear hr hr' hm hll
  go_enter Tryz.func33, Tryz.ntmps33
  go_wp2_with fail
  go_loopg [17] m (fun kk iv wr => ∃ i : Nat, iv = .int .i64 (i : Int) ∧ i + kk = m ∧ Hid (Below w.heap.size w wr))
  case atStart => exact ⟨0, rfl, by omega, Lib.hid (Below.refl _ _)⟩
  case round =>
    obtain ⟨i, rfl, hk, HB⟩ := hrel
    by_cases hi : i < m
    · obtain ⟨kk, rfl⟩ : ∃ kk, gk = kk + 1 := ⟨gk - 1, by omega⟩
      obtain ⟨b, o, op, ln, s, k, n, t, v, sub, va, vc, sa1, sc, hA, hSb, hd, c0, c1, c2, c3, c4, c5, c6, hvc, hv, c7, hsc, hs⟩ := (HR.out.below HB.out (fun b hb => hb)).nth (i := i) (by rw [← HM.out]; exact hi)
      obtain ⟨b', o', op', ln', s', k', n', t', v', sub', va', vc', sa1', sc', hA', hSb', hd', c0', c1', c2', c3', c4', c5', c6', hvc', hv', c7', hsc', hs'⟩ := (HR'.out.below HB.out (fun b hb => hb)).nth (i := i) (by rw [← HLL.out, ← HM.out]; exact hi)
      have hds := sameN_dropT i la lb hsm
      rw [hd, hd'] at hds
      obtain ⟨rfl, rfl, rfl, rfl, rfl, rfl, hs1, -⟩ := sameN_cons hds
      have hfd := fitB_drop i la hf
      have hfd' := fitB_drop i lb hf'
      have htd := NL.tot_drop i la
      rw [hd] at hfd htd
      rw [hd'] at hfd'
      simp only [NL.tot] at htd
      obtain ⟨rfl, hz1, hz2, hf1, -⟩ := fitB_cons hfd
      obtain ⟨-, hz1', hz2', hf1', -⟩ := fitB_cons hfd'
      change wr.cell? _ = some (.slice va 0 vc) at c6
      change wr.cell? _ = some (.slice va' 0 vc') at c6'
      have hl1 := sameN_lenT _ _ hs1
      rw [← hl1] at c7' hsc'
      have hzr := HB.out.size
      obtain ⟨w1, hw1⟩ : ∃ w1, w1 = wr.alloc (.cells #[.int .i64 op, .int .i64 ln, .string s, .int .i64 k, .int .i64 n, .string t, .slice va 0 vc, .slice sa1 sub.len sc] 31) := ⟨_, rfl⟩
      have hb1 : Below wr.heap.size wr w1 := by rw [hw1]; exact (Below.refl _ _).alloc (Nat.le_refl _) _
      have hzz : w1.heap.size = wr.heap.size + 1 := by rw [hw1]; simp
      obtain ⟨w2, hw2⟩ : ∃ w2, w2 = w1.alloc (.cells #[.int .i64 op, .int .i64 ln', .string s, .int .i64 k, .int .i64 n, .string t, .slice va' 0 vc', .slice sa1' sub.len sc'] 31) := ⟨_, rfl⟩
      have hb2 : Below w1.heap.size w1 w2 := by rw [hw2]; exact (Below.refl _ _).alloc (Nat.le_refl _) _
      have n1 : NdB w1 wr.heap.size (.int .i64 op) (.int .i64 ln) (.string s) (.int .i64 k) (.int .i64 n) (.string t) (.slice va 0 vc) (.slice sa1 sub.len sc) := by rw [hw1]; exact NdB.new _ _ _ _ _ _ _ _ _
      have n1' := n1.below' hb2
      have n2 : NdB w2 (wr.heap.size + 1) (.int .i64 op) (.int .i64 ln') (.string s) (.int .i64 k) (.int .i64 n) (.string t) (.slice va' 0 vc') (.slice sa1' sub.len sc') := by rw [hw2, ← hzz]; exact NdB.new _ _ _ _ _ _ _ _ _
      have hb := hb1.trans (below_le' hb2 hb1.size)
      have a0 := n1'.c0; have a1 := n1'.c1; have a2 := n1'.c2; have a3 := n1'.c3; have a4 := n1'.c4; have a5 := n1'.c5; have a6 := n1'.c6; have a7 := n1'.c7
      have b0 := n2.c0; have b1 := n2.c1; have b2 := n2.c2; have b3 := n2.c3; have b4 := n2.c4; have b5 := n2.c5; have b6 := n2.c6; have b7 := n2.c7
      rw [hw2, hw1] at a0 a1 a2 a3 a4 a5 a6 a7 b0 b1 b2 b3 b4 b5 b6 b7
      have d0 := cell_below hb1 c0'; have d1 := cell_below hb1 c1'; have d2 := cell_below hb1 c2'; have d3 := cell_below hb1 c3'; have d4 := cell_below hb1 c4'; have d5 := cell_below hb1 c5'; have d6 := cell_below hb1 c6'; have d7 := cell_below hb1 c7'
      rw [hw1] at d0 d1 d2 d3 d4 d5 d6 d7
      have SC := Lib.hid (same1_t ih op ln ln' s k n t va va' vc vc' sub sub' sa1 sa1' sc sc' w2 (by omega) hs1 hf1 hf1' hz2 hsc hsc' ((hs.below hb (fun b h => Nat.lt_of_lt_of_le h hzr)).wide (fun b h => Nat.lt_of_lt_of_le h (Nat.le_trans hzr hb.size))) ((hs'.below hb (fun b h => Nat.lt_of_lt_of_le h hzr)).wide (fun b h => Nat.lt_of_lt_of_le h (Nat.le_trans hzr hb.size))))
      have HW := Lib.hid (show w2 = (wr.alloc (.cells #[.int .i64 op, .int .i64 ln, .string s, .int .i64 k, .int .i64 n, .string t, .slice va 0 vc, .slice sa1 sub.len sc] 31)).alloc (.cells #[.int .i64 op, .int .i64 ln', .string s, .int .i64 k, .int .i64 n, .string t, .slice va' 0 vc', .slice sa1' sub.len sc'] 31) by rw [hw2, hw1])
      have HBB := Lib.hid hb
      subst hA
      subst hA'
      clear hw1 hw2 hb1 hb2 hzz n1 n1' n2 hb hd hd' hds hfd hfd' htd hs1 hl1 hs hs' hv hv' hf1 hf1'
      have q0 : (0 : Int) ≤ (i : Int) := by omega
      have q1 : (i : Int) < (m : Int) := by omega
      go_wp2_with fail
      rw [← HW.out]
      refine SC.out.mono ?_
      rintro e w3 ⟨rfl, hb3⟩
      have HB3 := Lib.hid (HB.out.trans (below_le' (HBB.out.trans (below_le' hb3 HBB.out.size)) HB.out.size))
      clear hb3
      go_wp2_with fail
      go_roundg kk
      case measure => omega
      case rel => exact ⟨i + 1, by go_num, by omega, HB3⟩
    · have q1 : ¬ (i : Int) < (m : Int) := by omega
      go_wp2_with fail
      go_ret
      exact ⟨rfl, HB.out⟩

set_option maxHeartbeats 1000000 in
theorem tsame_step {N : Nat} (ih : TSameC N) : TSameC (N + 1) := by
  intro la lb sa sb ca cb w hN hsm hf hf' hl hc hc' hr hr'
  have EC := Lib.hid (eqf_t ih la lb sa sb ca cb w (by omega) hsm hf hf' hl hc hc' hr hr')
  obtain ⟨m, hm⟩ : ∃ m, m = la.len := ⟨_, rfl⟩
  rw [← hm] at EC ⊢
  clear hr hr' hsm hf hf' hl hc hc' hm
  go_enter Tryz.func14, Tryz.ntmps14
  go_wp2_with fail
  refine EC.out.mono ?_
  rintro e w2 ⟨rfl, hb2⟩
  have HB2 := Lib.hid hb2
  clear hb2
  go_wp2_with fail
  go_ret
  exact ⟨rfl, HB2.out⟩
theorem tsame_c : ∀ N : Nat, TSameC N
  | 0 => by intro la lb sa sb ca cb w hN; omega
  | N + 1 => tsame_step (tsame_c N)
end Go.Proofs.YtggngahmafbihaaGreatDoor
namespace Go.Proofs.YtggngahmafbihaaGreatDoor
open Go.RowKit Go.Lib

def wyA (k : Nat) : List UInt8 := (waysL.getD k default).1
def wyB (k : Nat) : List UInt8 := (waysL.getD k default).2
def wyOk (k : Nat) : Bool := okX (wyA k) && okX (wyB k) && (exprR 60 (wyA k)).two (exprR 60 (wyB k))
set_option maxRecDepth 100000 in
theorem wy_all : (List.range 15).all (fun k => k == 12 || wyOk k) = true := by decide +kernel
set_option maxRecDepth 100000 in
theorem wy_12 : (okX (wyB 12) && (exprR 60 (wyA 12)).faultAt 1) = true := by decide +kernel
set_option maxRecDepth 100000 in
theorem wy_12l : (match allW ⟨(wyA 12).toArray⟩ with | .inr l => decide (0 < l.length) && decide (l.length ≤ 1000000) | _ => false) = true := by decide +kernel
theorem okX_fit {s : List UInt8} {n : NL} (h : okX s = true) (hx : exprR 60 s = .good n) : fitB n = true := by
  unfold okX at h
  rw [hx] at h
  simp only [Bool.and_eq_true] at h
  exact h.2.2
/-- A text that is none, and where. -/
def BadX (T : ByteArray) (line : Int) : Prop := ∃ (l : List Tok) (F : Nat) (n : NL) (p1 : PS), T.size ≤ 32768 ∧ allW T = .inr l ∧ 0 < l.length ∧ l.length ≤ 1000000 ∧ F ≤ 1000000000 ∧ prsR l F .expr ⟨0, 0, none⟩ = some (n, p1) ∧ (exprS l p1).err = some (some line)
theorem badX_c {T : ByteArray} {line : Int} (h : BadX T line) {ea : Nat → Addr} {w : World} (he : LxEnv w ea) : Calls Tryz.prog 11 #[.string T] w (PxBad ea (some line) w) := by
  obtain ⟨l, F, n, p1, h1, h2, h3, h4, h5, h6, h7⟩ := h
  exact pexpr_bad T l F n p1 ea w he h1 h2 h3 h4 h5 h6 _ h7
theorem badX_12 : BadX ⟨(wyA 12).toArray⟩ 1 := by
  have h := wy_12l
  have h2 := wy_12
  simp only [Bool.and_eq_true] at h2
  have h3 := h2.2
  cases ha : allW ⟨(wyA 12).toArray⟩ with
  | inl e => rw [ha] at h; cases h
  | inr l =>
    rw [ha] at h
    simp only [Bool.and_eq_true, decide_eq_true_eq] at h
    unfold exprR at h3
    rw [ha] at h3
    simp only at h3
    cases hp : prsR l 60 .expr ⟨0, 0, none⟩ with
    | none => rw [hp] at h3; cases h3
    | some r =>
      obtain ⟨m, p1⟩ := r
      rw [hp] at h3
      simp only at h3
      refine ⟨l, 60, m, p1, by decide, ha, h.1, h.2, by decide, hp, ?_⟩
      show (if p1.pos < l.length then failS l p1 else p1).err = _
      cases he : (if p1.pos < l.length then failS l p1 else p1).err with
      | none => rw [he] at h3; cases h3
      | some x =>
        rw [he] at h3
        cases x with
        | none => cases h3
        | some ln =>
          have := of_decide_eq_true (show decide (ln = 1) = true from h3)
          rw [this]
theorem ways_x {k : Nat} (h : k < 15) (h12 : k ≠ 12) : ∃ na nb : NL, GoodX ⟨(wyA k).toArray⟩ na ∧ GoodX ⟨(wyB k).toArray⟩ nb ∧ sameN na nb = true ∧ fitB na = true ∧ fitB nb = true := by
  have hq := List.all_eq_true.1 wy_all k (List.mem_range.2 h)
  have e : (k == 12) = false := by simpa using h12
  rw [e, Bool.false_or] at hq
  unfold wyOk at hq
  simp only [Bool.and_eq_true] at hq
  obtain ⟨⟨h1, h2⟩, h3⟩ := hq
  obtain ⟨na, a1, a2⟩ := okX_good h1
  obtain ⟨nb, b1, b2⟩ := okX_good h2
  exact ⟨na, nb, a2, b2, two_same a1 b1 h3, okX_fit h1 a1, okX_fit h2 b1⟩
theorem ways_12 : ∃ nb : NL, GoodX ⟨(wyB 12).toArray⟩ nb := by
  have h2 := wy_12
  simp only [Bool.and_eq_true] at h2
  obtain ⟨nb, b1, b2⟩ := okX_good h2.1
  exact ⟨nb, b2⟩
end Go.Proofs.YtggngahmafbihaaGreatDoor
namespace Go.Proofs.YtggngahmafbihaaGreatDoor
open Go.RowKit Go.Lib
set_option linter.unusedVariables false

/-- A fault with no value. -/
def fltV (c : Int) (p : Bool) (pos : Int) : Value := .agg #[.int .i64 c, .bool p, .int .i64 pos, .int .i64 0, .int .i64 0, .string ⟨#[]⟩, .slice none 0 0]

set_option maxRecDepth 100000 in
set_option maxHeartbeats 1000000 in
theorem fbare_c (c : Int) (w : World) :
    Calls Tryz.prog 32 #[.int .i64 c] w fun e w' => e = .returned (fltV c false 0) ∧ Below w.heap.size w w' := by
  unfold fltV
  go_enter Tryz.func32, Tryz.ntmps32
  go_wp2
  go_returns
  exact ⟨rfl, (Below.refl _ _).alloc (Nat.le_refl _) _⟩
/-- Seven cells in a block of their own. -/
def StF (w : World) (g : Nat) (a b c d e f h : Value) : Prop := w.heap[g]? = some (.cells #[a, b, c, d, e, f, h] 41 (0, 0))
section
variable {w w' : World} {g : Nat} {a b c d e f h : Value}
theorem StF.new (W : World) (a b c d e f h : Value) : StF (W.alloc (.cells #[a, b, c, d, e, f, h] 41)) W.heap.size a b c d e f h := by unfold StF World.alloc; simp
theorem StF.lt (H : StF w g a b c d e f h) : g < w.heap.size := by
  rcases Nat.lt_or_ge g w.heap.size with hlt | hge
  · exact hlt
  · unfold StF at H; rw [Array.getElem?_eq_none hge] at H; cases H
theorem StF.below (H : StF w g a b c d e f h) (hb : Below w.heap.size w w') : StF w' g a b c d e f h := (hb.block g H.lt).trans H
theorem StF.cells (H : StF w g a b c d e f h) : w.cell? ⟨g, 0, none⟩ = some a ∧ w.cell? ⟨g, 1, none⟩ = some b ∧ w.cell? ⟨g, 2, none⟩ = some c ∧ w.cell? ⟨g, 3, none⟩ = some d ∧ w.cell? ⟨g, 4, none⟩ = some e ∧ w.cell? ⟨g, 5, none⟩ = some f ∧ w.cell? ⟨g, 6, none⟩ = some h :=
  ⟨cell_of_row w g 0 _ _ _ H, cell_of_row w g 1 _ _ _ H, cell_of_row w g 2 _ _ _ H, cell_of_row w g 3 _ _ _ H, cell_of_row w g 4 _ _ _ H, cell_of_row w g 5 _ _ _ H, cell_of_row w g 6 _ _ _ H⟩
theorem StF.fr (H : StF w g a b c d e f h) (k : Nat) : w.frozen? ⟨g, k, none⟩ = false := by unfold StF at H; simp [World.frozen?, H]
end
theorem StF.set7 {w : World} {g : Nat} {a b c d e f h : Value} (H : StF w g a b c d e f h) (a' b' c' d' e' f' h' : Value) :
    StF (((((((w.setCell ⟨g, 0, none⟩ a').setCell ⟨g, 1, none⟩ b').setCell ⟨g, 2, none⟩ c').setCell ⟨g, 3, none⟩ d').setCell ⟨g, 4, none⟩ e').setCell ⟨g, 5, none⟩ f').setCell ⟨g, 6, none⟩ h') g a' b' c' d' e' f' h' := by
  unfold StF at H ⊢; simp [World.setCell, Array.getElem?_modify, H]
theorem below_set7 {w w' : World} {B : Nat} (h : Below B w w') {g : Nat} (hg : B ≤ g) (a b c d e f k : Value) :
    Below B w (((((((w'.setCell ⟨g, 0, none⟩ a).setCell ⟨g, 1, none⟩ b).setCell ⟨g, 2, none⟩ c).setCell ⟨g, 3, none⟩ d).setCell ⟨g, 4, none⟩ e).setCell ⟨g, 5, none⟩ f).setCell ⟨g, 6, none⟩ k) :=
  Below.setCell (Below.setCell (Below.setCell (Below.setCell (Below.setCell (Below.setCell (Below.setCell h hg _) hg _) hg _) hg _) hg _) hg _) hg _
/-- A struct of seven cells handed back. -/
theorem ret_cell7 {fn : Func} {p : Tmp} {Q : Ending → World → Prop} {act : Act} {w : World} (hr : fn.results = #[.cell p 41]) (g : Nat) (hp : act.tmps.getD p undef = .pointer (some ⟨g, 0, none⟩)) (hd : act.defers = [])
    {a b c d e f h : Value} (hS : StF w g a b c d e f h) (hQ : Q (.returned (.agg #[a, b, c, d, e, f, h])) w) : bodyPost Tryz.prog fn Q .ret act w := by
  refine bodyPost_ret (v := .agg #[a, b, c, d, e, f, h]) ?_ hd hQ
  obtain ⟨c0, c1, c2, c3, c4, c5, c6⟩ := hS.cells
  have hp' : (act.tmps[p]?).getD undef = .pointer (some ⟨g, 0, none⟩) := by simpa using hp
  simp [results, hr, hp', go_sem, c0, c1, c2, c3, c4, c5, c6]
theorem belowLe {B B' : Nat} {w w' : World} (h : Below B w w') (hb : B' ≤ B) : Below B' w w' := ⟨h.os, h.tape, h.output, h.size, fun k hk => h.block k (by omega)⟩
end Go.Proofs.YtggngahmafbihaaGreatDoor
namespace Go.Proofs.YtggngahmafbihaaGreatDoor
open Go.RowKit Go.Lib
set_option linter.unusedVariables false

set_option maxRecDepth 100000 in
set_option maxHeartbeats 2000000 in
theorem inner_c (ea : Nat → Addr) (c : Nat) (w : World) (h : SeesAt w ea) (hc : c < 17) :
    Calls Tryz.prog 31 #[.iface 270 (.pointer (some (ea (101 + c))))] w fun e w' => e = .returned (fltV (101 + (c : Int)) false 0) ∧ Below w.heap.size w w' := by
  have ta : ∀ w : World, (Instr.typeAssert (.iface 270 (.pointer (some (ea (101 + c))))) 33 104 true).run Tryz.prog w = .ok (.tuple #[.pointer none, .bool false]) w := fun w => by kernel_rfl
  obtain ⟨w1, hw1⟩ : ∃ w1, w1 = w.alloc (.cells #[.int .i64 0, .bool false, .int .i64 0, .int .i64 0, .int .i64 0, .string ⟨#[]⟩, .slice none 0 0] 41) := ⟨_, rfl⟩
  have hb1 : Below w.heap.size w w1 := by rw [hw1]; exact (Below.refl _ _).alloc (Nat.le_refl _) _
  have hS : StF w1 w.heap.size (.int .i64 0) (.bool false) (.int .i64 0) (.int .i64 0) (.int .i64 0) (.string ⟨#[]⟩) (.slice none 0 0) := by rw [hw1]; exact StF.new w _ _ _ _ _ _ _
  have SC := Lib.hid (sentinel_c ea c w1 (h.below hb1) hc)
  have HB := Lib.hid hb1
  have HS := Lib.hid hS
  have HW := Lib.hid hw1
  have BC := Lib.hid (fun W => fbare_c (101 + (c : Int)) W)
  unfold fltV
  unfold fltV at BC
  clear hb1 hS h hw1
  go_enter Tryz.func31, Tryz.ntmps31
  go_wp2_with fail
  rw [← HW.out]
  refine SC.out.mono ?_
  rintro e w2 ⟨rfl, hb2⟩
  have hs2 := HS.out.below hb2
  have HB2 := Lib.hid (HB.out.trans (belowLe hb2 HB.out.size))
  clear SC hb2
  have HS2 := Lib.hid hs2
  clear hs2
  go_wp2_with fail
  refine (BC.out _).mono ?_
  rintro e w3 ⟨rfl, hb3⟩
  have hs3 := HS2.out.below hb3
  obtain ⟨c0, c1, c2, c3, c4, c5, c6⟩ := hs3.cells
  have f0 := hs3.fr 0; have f1 := hs3.fr 1; have f2 := hs3.fr 2; have f3 := hs3.fr 3; have f4 := hs3.fr 4; have f5 := hs3.fr 5; have f6 := hs3.fr 6
  have HB3 := Lib.hid (HB2.out.trans (belowLe hb3 HB2.out.size))
  have HS3 := Lib.hid hs3
  clear hb3 hs3
  go_wp2_with fail
  refine ret_cell7 Tryz.results31 w.heap.size rfl rfl (HS3.out.set7 _ _ _ _ _ _ _) ?_
  exact ⟨rfl, below_set7 HB3.out (Nat.le_refl _) _ _ _ _ _ _ _⟩

/-- An error around a place, in memory. -/
def AtAt (w : World) (A : Nat) (pos : Int) (v : Value) : Prop := w.heap[A]? = some (.cells #[.int .i64 pos, v] 73 (0, 0))
theorem AtAt.below {w w' : World} {A : Nat} {pos : Int} {v : Value} (H : AtAt w A pos v) (hb : Below w.heap.size w w') : AtAt w' A pos v := by
  have hlt : A < w.heap.size := by
    rcases Nat.lt_or_ge A w.heap.size with hlt | hge
    · exact hlt
    · unfold AtAt at H; rw [Array.getElem?_eq_none hge] at H; cases H
  exact (hb.block A hlt).trans H
theorem AtAt.c0 {w : World} {A : Nat} {pos : Int} {v : Value} (H : AtAt w A pos v) : w.cell? ⟨A, 0, none⟩ = some (.int .i64 pos) := cell_of_row w A 0 _ _ _ H
theorem AtAt.c1 {w : World} {A : Nat} {pos : Int} {v : Value} (H : AtAt w A pos v) : w.cell? ⟨A, 1, none⟩ = some v := cell_of_row w A 1 _ _ _ H

set_option maxRecDepth 100000 in
set_option maxHeartbeats 4000000 in
theorem fault_at (ea : Nat → Addr) (c : Nat) (A : Nat) (pos : Int) (w : World) (h : SeesAt w ea) (hc : c < 17) (hA : AtAt w A pos (.iface 270 (.pointer (some (ea (101 + c)))))) :
    Calls Tryz.prog 13 #[.iface 70 (.pointer (some ⟨A, 0, none⟩))] w fun e w' => e = .returned (fltV (101 + (c : Int)) true pos) ∧ Below w.heap.size w w' := by
  have ta : ∀ w : World, (Instr.typeAssert (.iface 70 (.pointer (some ⟨A, 0, none⟩))) 33 70 true).run Tryz.prog w = .ok (.tuple #[.pointer (some ⟨A, 0, none⟩), .bool true]) w := fun w => by kernel_rfl
  obtain ⟨w1, hw1⟩ : ∃ w1, w1 = w.alloc (.cells #[.int .i64 0, .bool false, .int .i64 0, .int .i64 0, .int .i64 0, .string ⟨#[]⟩, .slice none 0 0] 41) := ⟨_, rfl⟩
  have hb1 : Below w.heap.size w w1 := by rw [hw1]; exact (Below.refl _ _).alloc (Nat.le_refl _) _
  have hS : StF w1 w.heap.size (.int .i64 0) (.bool false) (.int .i64 0) (.int .i64 0) (.int .i64 0) (.string ⟨#[]⟩) (.slice none 0 0) := by rw [hw1]; exact StF.new w _ _ _ _ _ _ _
  have hA1 := hA.below hb1
  have a0 := hA1.c0
  have a1 := hA1.c1
  rw [hw1] at a0 a1
  have HB := Lib.hid hb1
  have HS := Lib.hid hS
  have HW := Lib.hid hw1
  have HA := Lib.hid hA1
  have BC := Lib.hid (inner_c ea c w1 (h.below hb1) hc)
  unfold fltV
  unfold fltV at BC
  clear hb1 hS hw1 h hA hA1
  go_enter Tryz.func13, Tryz.ntmps13
  go_wp2_with fail
  rw [← HW.out]
  refine BC.out.mono ?_
  rintro e w3 ⟨rfl, hb3⟩
  have hs3 := HS.out.below hb3
  have ha3 := HA.out.below hb3
  have hz3 := hs3.lt
  have hAlt : A < w3.heap.size := by
    rcases Nat.lt_or_ge A w3.heap.size with hlt | hge
    · exact hlt
    · unfold AtAt at ha3; rw [Array.getElem?_eq_none hge] at ha3; cases ha3
  have ka : ∀ (p : Addr) (o : Obj), p.block < w3.heap.size → (w3.alloc o).cell? p = w3.cell? p := fun p o hp => World.cell?_of_block (w := w3) (Below.heap_alloc w3 o p.block hp)
  have b0 := fun o => (ka ⟨A, 0, none⟩ o hAlt).trans ha3.c0
  obtain ⟨c0, c1, c2, c3, c4, c5, c6⟩ := hs3.cells
  have d0 := fun o => (ka ⟨w.heap.size, 0, none⟩ o hz3).trans c0
  have d1 := fun o => (ka ⟨w.heap.size, 1, none⟩ o hz3).trans c1
  have d2 := fun o => (ka ⟨w.heap.size, 2, none⟩ o hz3).trans c2
  have d3 := fun o => (ka ⟨w.heap.size, 3, none⟩ o hz3).trans c3
  have d4 := fun o => (ka ⟨w.heap.size, 4, none⟩ o hz3).trans c4
  have d5 := fun o => (ka ⟨w.heap.size, 5, none⟩ o hz3).trans c5
  have d6 := fun o => (ka ⟨w.heap.size, 6, none⟩ o hz3).trans c6
  have hSo : ∀ o, StF (w3.alloc o) w.heap.size (.int .i64 0) (.bool false) (.int .i64 0) (.int .i64 0) (.int .i64 0) (.string ⟨#[]⟩) (.slice none 0 0) := fun o => (Below.heap_alloc w3 o _ hz3).trans hs3
  have f0 := fun o => (hSo o).fr 0
  have f1 := fun o => (hSo o).fr 1
  have f2 := fun o => (hSo o).fr 2
  have f3 := fun o => (hSo o).fr 3
  have f4 := fun o => (hSo o).fr 4
  have f5 := fun o => (hSo o).fr 5
  have f6 := fun o => (hSo o).fr 6
  have HSO := Lib.hid hSo
  have HB3 := Lib.hid (HB.out.trans (belowLe hb3 HB.out.size))
  clear hb3 hs3 ha3 hAlt hz3 ka hSo c0 c1 c2 c3 c4 c5 c6
  go_wp2_with fail
  refine ret_cell7 Tryz.results13 w.heap.size rfl rfl ((HSO.out _).set7 _ _ _ _ _ _ _) ?_
  exact ⟨rfl, below_set7 (HB3.out.alloc HB3.out.size _) (Nat.le_refl _) _ _ _ _ _ _ _⟩
end Go.Proofs.YtggngahmafbihaaGreatDoor
namespace Go.Proofs.YtggngahmafbihaaGreatDoor
open Go.RowKit Go.Lib
set_option linter.unusedVariables false

end Go.Proofs.YtggngahmafbihaaGreatDoor
namespace Go.Proofs.YtggngahmafbihaaGreatDoor
open Go.RowKit Go.Lib
set_option linter.unusedVariables false

def wyRow : Array Value := #[.string ⟨#[36, 120]⟩, .string ⟨#[35, 48, 46, 120]⟩, .string ⟨#[97, 46, 40, 34, 98, 34, 41]⟩, .string ⟨#[97, 46, 98]⟩, .string ⟨#[97, 58, 40, 34, 98, 34, 41, 40, 49, 41]⟩, .string ⟨#[97, 58, 98, 40, 49, 41]⟩, .string ⟨#[40, 40, 97, 41, 41]⟩, .string ⟨#[97]⟩, .string ⟨#[40, 97, 46, 98, 41, 46, 99]⟩, .string ⟨#[97, 46, 98, 46, 99]⟩, .string ⟨#[40, 97, 91, 49, 93, 41, 91, 50, 93]⟩, .string ⟨#[97, 91, 49, 93, 91, 50, 93]⟩, .string ⟨#[45, 40, 49, 41]⟩, .string ⟨#[45, 40, 49, 41]⟩, .string ⟨#[45, 32, 49]⟩, .string ⟨#[45, 49]⟩, .string ⟨#[33, 97, 32, 38, 38, 32, 98]⟩, .string ⟨#[40, 33, 97, 41, 32, 38, 38, 32, 98]⟩, .string ⟨#[45, 97, 46, 98]⟩, .string ⟨#[45, 40, 97, 46, 98, 41]⟩, .string ⟨#[97, 32, 63, 32, 98, 32, 124, 32, 99, 32, 63, 32, 100, 32, 124, 32, 101]⟩, .string ⟨#[97, 32, 63, 32, 98, 32, 124, 32, 40, 99, 32, 63, 32, 100, 32, 124, 32, 101, 41]⟩, .string ⟨#[97, 32, 61, 32, 98, 32, 61, 32, 99]⟩, .string ⟨#[97, 32, 61, 32, 40, 98, 32, 61, 32, 99, 41]⟩, .string ⟨#[36, 102, 40, 49, 41]⟩, .string ⟨#[35, 48, 46, 102]⟩, .string ⟨#[123, 64, 97, 44, 32, 98, 125]⟩, .string ⟨#[123, 32, 64, 32, 40, 97, 41, 32, 44, 32, 98, 32, 125]⟩, .string ⟨#[96, 97, 32, 33, 32, 97, 110, 121, 32, 61, 62, 32, 49, 39]⟩, .string ⟨#[96, 97, 32, 33, 32, 97, 110, 121, 32, 61, 62, 32, 40, 49, 41, 39]⟩]
theorem wy_cell {w : World} {k : Nat} (h : k < 15) : (w.alloc (.cells wyRow 38)).cell? ⟨w.heap.size, k * 2, none⟩ = some (.string ⟨(wyA k).toArray⟩) ∧ (w.alloc (.cells wyRow 38)).cell? ⟨w.heap.size, k * 2 + 1, none⟩ = some (.string ⟨(wyB k).toArray⟩) := by
  have h1 : (w.alloc (.cells wyRow 38)).heap[w.heap.size]? = some (.cells wyRow 38 (0, 0)) := heap_alloc_new w _
  have e : wyRow[k * 2]? = some (.string ⟨(wyA k).toArray⟩) ∧ wyRow[k * 2 + 1]? = some (.string ⟨(wyB k).toArray⟩) := by
    have : k = 0 ∨ k = 1 ∨ k = 2 ∨ k = 3 ∨ k = 4 ∨ k = 5 ∨ k = 6 ∨ k = 7 ∨ k = 8 ∨ k = 9 ∨ k = 10 ∨ k = 11 ∨ k = 12 ∨ k = 13 ∨ k = 14 := by omega
    rcases this with rfl | rfl | rfl | rfl | rfl | rfl | rfl | rfl | rfl | rfl | rfl | rfl | rfl | rfl | rfl <;> exact ⟨rfl, rfl⟩
  unfold World.cell?
  simp only [h1, e.1, e.2]
  exact ⟨rfl, rfl⟩
theorem wy_size {k : Nat} (h : k < 15) : (⟨(wyA k).toArray⟩ : ByteArray).size ≤ 30 ∧ (⟨(wyB k).toArray⟩ : ByteArray).size ≤ 30 := by
  have : ∀ i : Fin 15, (⟨(wyA i.val).toArray⟩ : ByteArray).size ≤ 30 ∧ (⟨(wyB i.val).toArray⟩ : ByteArray).size ≤ 30 := by decide +kernel
  exact this ⟨k, h⟩
theorem bn_same {w : World} {R G G' : Nat} {n n' : NL} (h : BN w R G n) (h' : BN w R G' n') (hs : sameN n n' = true) (hf : fitB n = true) (hf' : fitB n' = true) :
    Calls Tryz.prog 14 #[.slice (some ⟨G, 0, none⟩) 1 1, .slice (some ⟨G', 0, none⟩) 1 1] w fun e w' => e = .returned (.bool true) ∧ Below w.heap.size w w' := by
  have hG := h.lt
  have hG' := h'.lt
  obtain ⟨hR, o1, l1, s1, k1, m1, t1, va1, vc1, A1, c1, sub1, e1, nb1, ow1⟩ := h
  obtain ⟨hR2, o2, l2, s2, k2, m2, t2, va2, vc2, A2, c2, sub2, e2, nb2, ow2⟩ := h'
  obtain ⟨A1', c1', ek1, hc1, -, hr1⟩ := ow1.kids
  obtain ⟨A2', c2', ek2, hc2, -, hr2⟩ := ow2.kids
  simp only [Value.slice.injEq, true_and] at ek1 ek2
  obtain ⟨rfl, rfl⟩ := ek1
  obtain ⟨rfl, rfl⟩ := ek2
  have a2 := rp1v nb1 hG hc1 (hr1.wide (fun b hb => hb.2))
  have b2 := rp1v nb2 hG' hc2 (hr2.wide (fun b hb => hb.2))
  rw [← e1] at a2
  rw [← e2] at b2
  have a1 : n.len = 1 := by rw [e1]; rfl
  have hc := tsame_c (n.tot + 1) n n' (some ⟨G, 0, none⟩) (some ⟨G', 0, none⟩) 1 1 w (by omega) hs hf hf' (by omega) (by omega) (by omega) a2 b2
  rw [a1] at hc
  exact hc

set_option maxRecDepth 100000 in
set_option maxHeartbeats 8000000 in
theorem parseWays_c (n0 : Int) (ea : Nat → Addr) (w : World) (hn0 : -9223372036854775808 ≤ n0) (hn1 : n0 ≤ 9223372036854775807) (hse : SeesAt w ea) (hst : StrcAt w) (hsp : SpaceAt w) :
    Calls Tryz.prog 4 #[.int .i64 n0] w fun e w' => e = .returned (.bool true) ∧ Below w.heap.size w w' := by
  have he : LxEnv w ea := ⟨hse.errs, hsp, hst⟩
  have hroom := hse.room
  have F := Lib.hid (pfirst_c ea w he)
  have EV := Lib.hid (fun W (hW : Below w.heap.size w W) => he.below hW (by omega))
  have SV := Lib.hid (fun W (hW : Below w.heap.size w W) => hse.below hW)
  have NC := Lib.hid (fun W => wnumber_c n0 15 W hn0 hn1 (by decide) (by decide))
  clear he hse hst hsp
  go_enter Tryz.func4, Tryz.ntmps4
  go_wp2_with fail
  refine F.out.mono ?_
  rintro e w2 ⟨rfl, hb2⟩
  have HB2 := Lib.hid hb2
  clear hb2
  go_wp2_with fail
  refine (NC.out _).mono ?_
  rintro e w3 ⟨k, hk, rfl, rfl⟩
  obtain ⟨wz, hwz⟩ : ∃ W, W = w2.alloc (.cells wyRow 38) := ⟨_, rfl⟩
  have hwz' := hwz
  unfold wyRow at hwz'
  rw [← hwz']
  have HBz := Lib.hid (show Below w.heap.size w wz by rw [hwz]; exact HB2.out.alloc HB2.out.size _)
  obtain ⟨hsa, hsb⟩ := wy_size hk
  obtain ⟨sa, esa⟩ : ∃ b : ByteArray, b = ⟨(wyA k).toArray⟩ := ⟨_, rfl⟩
  obtain ⟨sb, esb⟩ : ∃ b : ByteArray, b = ⟨(wyB k).toArray⟩ := ⟨_, rfl⟩
  obtain ⟨cza, czb⟩ : wz.cell? ⟨w2.heap.size, k * 2, none⟩ = some (.string sa) ∧ wz.cell? ⟨w2.heap.size, k * 2 + 1, none⟩ = some (.string sb) := by rw [hwz, esa, esb]; exact wy_cell hk
  rw [← esa] at hsa
  rw [← esb] at hsb
  have k0i : (0 : Int) ≤ (k : Int) := by omega
  have k1i : (k : Int) < 15 := by omega
  clear hwz hwz'
  by_cases h12 : k = 12
  · have X1 := Lib.hid (show BadX sa 1 by rw [esa, h12]; exact badX_12)
    obtain ⟨nb, hnb⟩ : ∃ nb, GoodX sb nb := by rw [esb, h12]; exact ways_12
    have X2 := Lib.hid hnb
    have q12 : (k : Int) = 12 := by omega
    have q12b : ((k : Int) == 12) = true := beq_iff_eq.2 q12
    clear esa esb hnb h12 q12
    have P1 := Lib.hid (fun W (hW : Below w.heap.size w W) => badX_c X1.out (EV.out W hW))
    have P2 := Lib.hid (fun W (hW : Below w.heap.size w W) => goodX_c X2.out (EV.out W hW))
    go_wp2_with fail
    refine (P1.out _ HBz.out).mono ?_
    rintro e w4 ⟨ev, rfl, hb4, A, hA0, rfl, hA⟩
    have HB4 := Lib.hid (HBz.out.trans (below_le' hb4 HBz.out.size))
    have HA4 := Lib.hid (show AtAt w4 A 1 (.iface 270 (.pointer (some (ea 111)))) from hA)
    obtain ⟨w5, hw5⟩ : ∃ W, W = w4.alloc (.cells #[.int .i64 0, .int .i64 0, .string ⟨#[]⟩, .int .i64 0, .int .i64 0, .string ⟨#[]⟩, .slice none 0 0, .slice none 0 0] 31) := ⟨_, rfl⟩
    have hb5 : Below w4.heap.size w4 w5 := by rw [hw5]; exact (Below.refl _ _).alloc (Nat.le_refl _) _
    have HB5 := Lib.hid (HB4.out.trans (below_le' hb5 HB4.out.size))
    have HA5 := Lib.hid (HA4.out.below hb5)
    have czb5 := cell_below hb5 (cell_below hb4 czb)
    rw [hw5] at czb5
    have HW5 := Lib.hid hw5
    clear hb4 hb5 hA hw5 cza czb
    go_wp2_with fail
    rw [← HW5.out]
    refine (P2.out _ HB5.out).mono ?_
    rintro e w6 hx
    obtain ⟨o, l, s, kk, m, t, va, vc, A2, c, sub, rfl, e2, e3, e4⟩ := pxGood_open (R := w5.heap.size) (Nat.le_refl _) hx
    have HB6 := Lib.hid (HB5.out.trans (below_le' e4.out HB5.out.size))
    have HA6 := Lib.hid (HA5.out.below e4.out)
    clear hx e2 e3 e4 czb5
    obtain ⟨w7, hw7⟩ : ∃ W, W = w6.alloc (.cells #[.int .i64 o, .int .i64 l, .string s, .int .i64 kk, .int .i64 m, .string t, .slice va 0 vc, .slice A2 sub.len c] 31) := ⟨_, rfl⟩
    have hb7 : Below w6.heap.size w6 w7 := by rw [hw7]; exact (Below.refl _ _).alloc (Nat.le_refl _) _
    have HB7 := Lib.hid (HB6.out.trans (below_le' hb7 HB6.out.size))
    have FC := Lib.hid (show Calls Tryz.prog 13 #[.iface 70 (.pointer (some ⟨A, 0, none⟩))] w7 (fun e w' => e = .returned (fltV 111 true 1) ∧ Below w7.heap.size w7 w') from fault_at ea 10 A 1 w7 (SV.out w7 HB7.out) (by decide) (HA6.out.below hb7))
    have HW7 := Lib.hid hw7
    clear hb7 hw7
    go_wp2_with fail
    rw [← HW7.out]
    refine FC.out.mono ?_
    rintro e w8 ⟨rfl, hb8⟩
    have HB8 := Lib.hid (HB7.out.trans (below_le' hb8 HB7.out.size))
    clear hb8
    unfold fltV
    have hfld : ∀ W : World, (Instr.field 41 (.agg #[.int .i64 111, .bool true, .int .i64 1, .int .i64 0, .int .i64 0, .string ⟨#[]⟩, .slice none 0 0]) 0).run Tryz.prog W = .ok (.int .i64 111) W := fun W => by kernel_rfl
    go_wp2_with fail
    go_ret
    exact ⟨rfl, HB8.out⟩
  · obtain ⟨na, nb, x1, x2, hsm, hfa, hfb⟩ := ways_x hk h12
    have X1 := Lib.hid (show GoodX sa na by rw [esa]; exact x1)
    have X2 := Lib.hid (show GoodX sb nb by rw [esb]; exact x2)
    have HSM := Lib.hid hsm
    have HFA := Lib.hid hfa
    have HFB := Lib.hid hfb
    have q12b : ((k : Int) == 12) = false := beq_no (by omega)
    clear esa esb x1 x2 hsm hfa hfb h12
    have P1 := Lib.hid (fun W (hW : Below w.heap.size w W) => goodX_c X1.out (EV.out W hW))
    have P2 := Lib.hid (fun W (hW : Below w.heap.size w W) => goodX_c X2.out (EV.out W hW))
    go_wp2_with fail
    refine (P1.out _ HBz.out).mono ?_
    rintro e w4 hx
    obtain ⟨o1, l1, s1, k1, m1, t1, va1, vc1, A1, c1, sub1, rfl, e2, e3, e4⟩ := pxGood_open (R := w.heap.size) HBz.out.size hx
    have HB4 := Lib.hid (HBz.out.trans (below_le' e4.out HBz.out.size))
    obtain ⟨w5, hw5⟩ : ∃ W, W = w4.alloc (.cells #[.int .i64 o1, .int .i64 l1, .string s1, .int .i64 k1, .int .i64 m1, .string t1, .slice va1 0 vc1, .slice A1 sub1.len c1] 31) := ⟨_, rfl⟩
    have hb5 : Below w4.heap.size w4 w5 := by rw [hw5]; exact (Below.refl _ _).alloc (Nat.le_refl _) _
    have HB5 := Lib.hid (HB4.out.trans (below_le' hb5 HB4.out.size))
    have n5 : BN w5 w.heap.size w4.heap.size na := by rw [hw5]; exact BN.new HB4.out.size e2.out e3.out
    have d5 : NdB w5 w4.heap.size (.int .i64 o1) (.int .i64 l1) (.string s1) (.int .i64 k1) (.int .i64 m1) (.string t1) (.slice va1 0 vc1) (.slice A1 sub1.len c1) := by rw [hw5]; exact NdB.new _ _ _ _ _ _ _ _ _
    have czb5 := cell_below hb5 (cell_below e4.out czb)
    rw [hw5] at czb5
    have HN5 := Lib.hid n5
    have HD5 := Lib.hid d5
    have HO1 := Lib.hid (e3.out.below hb5)
    have HE1 := Lib.hid e2.out
    have HW5 := Lib.hid hw5
    clear hx e2 e3 e4 hb5 hw5 n5 d5 cza czb
    go_wp2_with fail
    rw [← HW5.out]
    refine (P2.out _ HB5.out).mono ?_
    rintro e w6 hx
    obtain ⟨o2, l2, s2, k2, m2, t2, va2, vc2, A2, c2, sub2, rfl, e2, e3, e4⟩ := pxGood_open (R := w.heap.size) HB5.out.size hx
    have HB6 := Lib.hid (HB5.out.trans (below_le' e4.out HB5.out.size))
    obtain ⟨w7, hw7⟩ : ∃ W, W = w6.alloc (.cells #[.int .i64 o2, .int .i64 l2, .string s2, .int .i64 k2, .int .i64 m2, .string t2, .slice va2 0 vc2, .slice A2 sub2.len c2] 31) := ⟨_, rfl⟩
    have hb7 : Below w6.heap.size w6 w7 := by rw [hw7]; exact (Below.refl _ _).alloc (Nat.le_refl _) _
    have hz7 : w7.heap.size = w6.heap.size + 1 := by rw [hw7]; simp
    have HB7 := Lib.hid (HB6.out.trans (below_le' hb7 HB6.out.size))
    have d7 : NdB w7 w6.heap.size (.int .i64 o2) (.int .i64 l2) (.string s2) (.int .i64 k2) (.int .i64 m2) (.string t2) (.slice va2 0 vc2) (.slice A2 sub2.len c2) := by rw [hw7]; exact NdB.new _ _ _ _ _ _ _ _ _
    have d57 := (HD5.out.below' e4.out).below' hb7
    have y0 := d57.c0; have y1 := d57.c1; have y2 := d57.c2; have y3 := d57.c3; have y4 := d57.c4; have y5 := d57.c5; have y6 := d57.c6; have y7 := d57.c7
    have ow1 := (HO1.out.below e4.out).below hb7
    have ow2 := e3.out.below hb7
    obtain ⟨wp, hwp⟩ : ∃ W, W = w7.alloc (.cells #[.int .i64 o1, .int .i64 l1, .string s1, .int .i64 k1, .int .i64 m1, .string t1, .slice va1 0 vc1, .slice A1 sub1.len c1] 31) := ⟨_, rfl⟩
    have hbp : Below w7.heap.size w7 wp := by rw [hwp]; exact (Below.refl _ _).alloc (Nat.le_refl _) _
    have hzp : wp.heap.size = w7.heap.size + 1 := by rw [hwp]; simp
    have q5 : BN wp w.heap.size w7.heap.size na := by rw [hwp]; exact BN.new HB7.out.size HE1.out ow1
    have d7p := d7.below' hbp
    have z0 := d7p.c0; have z1 := d7p.c1; have z2 := d7p.c2; have z3 := d7p.c3; have z4 := d7p.c4; have z5 := d7p.c5; have z6 := d7p.c6; have z7 := d7p.c7
    obtain ⟨wr, hwr⟩ : ∃ W, W = wp.alloc (.cells #[.int .i64 o2, .int .i64 l2, .string s2, .int .i64 k2, .int .i64 m2, .string t2, .slice va2 0 vc2, .slice A2 sub2.len c2] 31) := ⟨_, rfl⟩
    have hbr : Below wp.heap.size wp wr := by rw [hwr]; exact (Below.refl _ _).alloc (Nat.le_refl _) _
    have q6 : BN wr w.heap.size wp.heap.size nb := by rw [hwr]; exact BN.new (by have := HB7.out.size; omega) e2.out (ow2.below hbp)
    have SC := Lib.hid (bn_same (q5.below hbr) q6 HSM.out HFA.out HFB.out)
    rw [hzp] at SC
    have HBr := Lib.hid (HB7.out.trans (below_le' (hbp.trans (below_le' hbr hbp.size)) HB7.out.size))
    have HWR := Lib.hid (show wr = ((w6.alloc (.cells #[.int .i64 o2, .int .i64 l2, .string s2, .int .i64 k2, .int .i64 m2, .string t2, .slice va2 0 vc2, .slice A2 sub2.len c2] 31)).alloc (.cells #[.int .i64 o1, .int .i64 l1, .string s1, .int .i64 k1, .int .i64 m1, .string t1, .slice va1 0 vc1, .slice A1 sub1.len c1] 31)).alloc (.cells #[.int .i64 o2, .int .i64 l2, .string s2, .int .i64 k2, .int .i64 m2, .string t2, .slice va2 0 vc2, .slice A2 sub2.len c2] 31) by rw [hwr, hwp, hw7])
    rw [hz7] at SC
    rw [hwp, hw7] at z0 z1 z2 z3 z4 z5 z6 z7
    rw [hw7] at y0 y1 y2 y3 y4 y5 y6 y7
    clear hx e2 e3 e4 hw7 hb7 hz7 d7 d57 ow1 ow2 hwp hbp hzp q5 q6 d7p hwr hbr czb5
    go_wp2_with fail
    rw [← HWR.out]
    refine SC.out.mono ?_
    rintro e w8 ⟨rfl, hb8⟩
    have HB8 := Lib.hid (HBr.out.trans (below_le' hb8 HBr.out.size))
    clear hb8
    go_wp2_with fail
    go_ret
    exact ⟨rfl, HB8.out⟩
end Go.Proofs.YtggngahmafbihaaGreatDoor
namespace Go.Proofs.YtggngahmafbihaaGreatDoor
open Go.RowKit Go.Lib
set_option linter.unusedVariables false

theorem star_err : "*" ++ "errors.errorString" = "*errors.errorString" := by decide
theorem row_err (u : TypeId) (h : Tryz.prog.typeName? 3 u = some "*errors.errorString") : u = 270 :=
  typeName_ptr_named (nm := "errors.errorString") (by rw [star_err]; kernel_rfl) (by kernel_rfl) (by decide) u (by rw [star_err]; exact h)
/-- A sentinel that heads the list: its variable's cell. -/
theorem sent_at {n : String} {text : List UInt8} {r : List (String × DataW Unit)} {W : World} (g : Nat) (h : laidMet Tryz.prog ((n, .iface "*errors.errorString" (.ptr (.agg [.lit (.string text)]))) :: r) W)
    (hg : Tryz.prog.globalNamed n = some g) (ht : (Tryz.prog.globals[g]?).map (·.type) = some 33) : ∃ a : Addr, W.cell? ⟨g, 0, none⟩ = some (.iface 270 (.pointer (some a))) := by
  obtain ⟨a, s, hv, _⟩ := laid_sentinel h hg ht Tryz.underlying33 row_err Tryz.underlying270 Tryz.underlying272 rfl rfl Tryz.underlying9 (by kernel_rfl) (by kernel_rfl)
  exact ⟨a, by simpa using World.var?_cell hg hv 0⟩
end Go.Proofs.YtggngahmafbihaaGreatDoor
namespace Go.Proofs.YtggngahmafbihaaGreatDoor
open Go.ChangeShapes Go.WideShapes Go.ChangeAt Go.RowKit Go.Lib
open Go.ChangeMaps (open_string shut_string)
set_option linter.unusedVariables false

theorem own_knob : ownKnob Tryz.prog.godebug = none := by kernel_rfl

/-- The kit's wrap with a condition, the world's shape kept. -/
theorem handed_and_shaped {H : Type} {enc : TypeId × Value → H} {a : Assume} {C : Checked} {os : Os} {f : FuncId} {fn : Func} {s : ChangeSpec} {conds : List PathCond} {apart fresh handsOn again : Bool} {X : World → Array Value → Prop}
    (hX : ∀ (w w' : World) (args : Array Value), w.heap = w'.heap → X w args → X w' args)
    (own : ownKnob C.prog.godebug = none) (started : os.Started) (noInit : C.prog.inits.idxOf? f = none) (hfn : C.prog.funcs[f]? = some fn)
    (witness : ∃ (w : World) (tape : Tape) (i : Input), w.os = os ∧ (w.forCall tape i).Shaped C.prog ∧ i.vars = [] ∧ Input.okWide C.prog (w.forCall tape i) .any w.heap.size f i ∧
      ((s.pre enc C.prog fn conds apart (w.forCall tape i).memory i.args ∧ X (w.forCall tape i).memory i.args) ∧ sizedMet enc C.prog fn (OpenSpec.ofChange s) apart (w.forCall tape i).memory i.args) ∧ a.holds C.prog (lone (Frame.enter C.prog f i.args .normal) [] (w.forCall tape i)))
    (contract : ∀ (W : World) (base : Nat) (args : Array Value) (ds gs : List (DataW H)) (before : List MemPlace),
      (∀ (j : Nat) t v, fn.params[j]? = some t → args[j]? = some v → Value.okWide C.prog W .any base t v) →
      DataW.Whole enc C.prog fn.params.toList s.vars apart W args.toList ds gs before →
      (DataW.weightsEach C.prog (fn.params.toList ++ s.plain.varTypes C.prog) (ds ++ gs)).all (· ≤ reachBytes) = true → X W args → W.ShapedOpen C.prog →
      Calls C.prog f args W fun e W' => ∃ v, e = .returned v ∧ s.post enc C.prog fn apart fresh handsOn again W args v W') :
    ReturnsInHanded a C os f .any (fun w args => (s.pre enc C.prog fn conds apart w args ∧ X w args) ∧ sizedMet enc C.prog fn (OpenSpec.ofChange s) apart w args) (s.post enc C.prog fn apart fresh handsOn again) := by
  refine returnsInHanded_of_calls own started noInit witness ?_
  intro w tape i _ hsh _ hok hpre hholds
  obtain ⟨_, _, _, fn', hfn', _, _, _, _, hval⟩ := hok
  have e : fn' = fn := Option.some.inj (hfn'.symm.trans hfn)
  subst e
  obtain ⟨⟨⟨ds, gs, before, hw, hc⟩, hx⟩, hz⟩ := hpre
  have hw' := DataW.Whole.of_heap (w' := w.forCall tape i) (by rfl) hw
  refine (contract (w.forCall tape i) w.heap.size i.args ds gs before hval hw' (hz.weights hw) (hX _ _ _ (by rfl) hx) hsh).mono fun e W' ⟨v, he, hp⟩ => ?_
  subst he
  exact ChangeSpec.post_blind hp

theorem i64_range {a : Int} (h : (Lit.int .i64 a).wf = true) : -9223372036854775808 ≤ a ∧ a ≤ 9223372036854775807 := by
  have e1 : IntKind.i64.min = -9223372036854775808 := by decide
  have e2 : IntKind.i64.max = 9223372036854775807 := by decide
  simp [Lit.wf] at h
  omega
theorem room_of {W : World} (h : W.ShapedOpen Tryz.prog) : 24 < W.heap.size := by
  have hsome : (((begin Tryz.prog (fun _ _ => 0) default).world.heap[24]?).bind Obj.row?).isSome = true := by kernel_rfl
  obtain ⟨⟨z, t⟩, hz⟩ := Option.isSome_iff_exists.1 hsome
  have hn : Tryz.prog.globals.size = 28 := by kernel_rfl
  obtain ⟨cs, hc, _⟩ := h.1 24 z t (by rw [hn]; decide) hz
  rcases Nat.lt_or_ge 24 W.heap.size with hlt | hge
  · exact hlt
  · rw [Array.getElem?_eq_none hge] at hc; cases hc

end Go.Proofs.YtggngahmafbihaaGreatDoor
namespace Go.Proofs.YtggngahmafbihaaGreatDoor
open Go.RowKit Go.Lib Go.ChangeShapes Go.WideShapes
set_option linter.unusedVariables false

/-- The variables that hold these errors. -/
def AllSent (W : World) : List (String × Nat) → List Addr → Prop
  | [], [] => True
  | x :: l, a :: bs => W.cell? ⟨x.2, 0, none⟩ = some (.iface 270 (.pointer (some a))) ∧ (∃ c t, W.heap[a.block]? = some (.cells c t (0, 0))) ∧ AllSent W l bs
  | [], _ :: _ => False
  | _ :: _, [] => False
theorem AllSent.len {W : World} : ∀ {l : List (String × Nat)} {bs : List Addr}, AllSent W l bs → bs.length = l.length
  | [], [], _ => rfl
  | x :: l, a :: bs, h => by rw [List.length_cons, List.length_cons, AllSent.len h.2.2]
  | [], _ :: _, h => h.elim
  | _ :: _, [], h => h.elim
theorem AllSent.get {W : World} : ∀ {l : List (String × Nat)} {bs : List Addr} (k : Nat), AllSent W l bs → k < l.length →
    W.cell? ⟨(l.getD k ("", 0)).2, 0, none⟩ = some (.iface 270 (.pointer (some (bs.getD k ⟨0, 0, none⟩)))) ∧ ∃ c t, W.heap[(bs.getD k ⟨0, 0, none⟩).block]? = some (.cells c t (0, 0))
  | [], [], k, _, hk => absurd hk (Nat.not_lt_zero _)
  | x :: l, a :: bs, 0, h, _ => ⟨h.1, h.2.1⟩
  | x :: l, a :: bs, k + 1, h, hk => by
    rw [List.getD_cons_succ, List.getD_cons_succ]
    exact AllSent.get k h.2.2 (by rw [List.length_cons] at hk; omega)
  | [], _ :: _, _, h, _ => h.elim
  | _ :: _, [], _, h, _ => h.elim

set_option maxRecDepth 100000 in
theorem sents_of {W : World} : ∀ (l : List (String × DataW Unit × Nat)) (rest : List (String × DataW Unit)) (ps : List MemPlace), DataW.LaidVars Tryz.prog W ((l.map fun x => (x.1, x.2.1)) ++ rest) ps →
    (∀ x ∈ l, (∃ t, x.2.1 = .iface "*errors.errorString" (.ptr (.agg [.lit (.string t)]))) ∧ Tryz.prog.globalNamed x.1 = some x.2.2 ∧ (Tryz.prog.globals[x.2.2]?).map (·.type) = some 33) →
    (∀ b off, MemPlace.cell b off ∈ ps → (∃ c t, W.heap[b]? = some (.cells c t (0, 0))) ∧ ∀ u v, W.cell? ⟨b, off, none⟩ = some (.iface u v) → Value.okWide Tryz.prog W .any 0 u v) →
    ∃ bs : List Addr, AllSent W (l.map fun x => (x.1, x.2.2)) bs ∧ List.Sublist (bs.map fun a => MemPlace.cell a.block a.off) ps
  | [], rest, ps, _, _, _ => ⟨[], trivial, List.nil_sublist _⟩
  | x :: l, rest, ps, h, hl, hrows => by
    obtain ⟨⟨text, hx⟩, hg, ht⟩ := hl x (by simp)
    obtain ⟨n, d, g⟩ := x
    simp only at hx hg ht
    subst hx
    obtain ⟨g0, t0, cs0, f0, p0, q0, hg0, ht0, hv0, hd0, hrest, e0⟩ := h
    obtain rfl := Option.some.inj (hg.symm.trans hg0)
    obtain rfl := Option.some.inj (ht.symm.trans ht0)
    subst e0
    obtain ⟨l0⟩ := cs0
    have ok0 : ∀ u v, l0 = [.iface u v] → Value.okWide Tryz.prog W .any 0 u v := fun u v e => by
      subst e
      exact (hrows g 0 (by simp [MemPlace.row])).2 u v (by simpa using World.var?_cell hg0 hv0 0)
    obtain ⟨a, s, rfl, hc0, hs0, hz0, rfl⟩ := errorString_of_trod Tryz.underlying33 row_err Tryz.underlying270 Tryz.underlying272 rfl rfl Tryz.underlying9 (by kernel_rfl) (by kernel_rfl) hd0 ok0
    obtain ⟨bs, has, hsub⟩ := sents_of l rest q0 hrest (fun x hx => hl x (by simp [hx])) (fun b off hb => hrows b off (by simp [hb]))
    refine ⟨a :: bs, ⟨by simpa using World.var?_cell hg0 hv0 0, (hrows a.block a.off (by simp [MemPlace.row])).1, has⟩, ?_⟩
    have e1 : MemPlace.row a 1 = [MemPlace.cell a.block a.off] := by simp [MemPlace.row]
    rw [e1, List.map_cons, List.append_assoc]
    exact (List.Sublist.cons_cons _ hsub).trans (List.sublist_append_right _ _)

/-- All of api's errors lie in places of their own. -/
theorem sees_of {W : World} (l : List (String × DataW Unit × Nat)) (rest : List (String × DataW Unit)) (h : laidMet Tryz.prog ((l.map fun x => (x.1, x.2.1)) ++ rest) W) (hG : l.map (fun x => x.2.2) = seeG)
    (hl : ∀ x ∈ l, (∃ t, x.2.1 = .iface "*errors.errorString" (.ptr (.agg [.lit (.string t)]))) ∧ Tryz.prog.globalNamed x.1 = some x.2.2 ∧ (Tryz.prog.globals[x.2.2]?).map (·.type) = some 33) (hr : 24 < W.heap.size) : ∃ ea, SeesAt W ea := by
  obtain ⟨ps, hv, hnd, hrows⟩ := h
  obtain ⟨bs, has, hsub⟩ := sents_of l rest ps hv hl hrows
  have hlen : l.length = 17 := by have := congrArg List.length hG; rw [List.length_map] at this; exact this
  have hal := has.len
  rw [List.length_map, hlen] at hal
  have hk : ∀ k, k < 17 → ((l.map fun x => (x.1, x.2.2)).getD k ("", 0)).2 = seeG.getD k 0 := by
    intro k hk
    rw [← hG]
    simp only [List.getD_eq_getElem?_getD, List.getElem?_map]
    rw [List.getElem?_eq_getElem (by omega)]; rfl
  have he : ∀ k, 101 + k - 101 = k := fun k => by omega
  refine ⟨fun k => bs.getD (k - 101) ⟨0, 0, none⟩, fun k h17 => ?_, fun k h17 => ?_, fun i j hi hj e => ?_, hr⟩
  · rw [← hk k h17]
    simp only [he]
    exact (has.get k (by rw [List.length_map, hlen]; exact h17)).1
  · simp only [he]
    exact (has.get k (by rw [List.length_map, hlen]; exact h17)).2
  · simp only [he] at e
    have hnd2 := hnd.sublist hsub
    rw [List.Nodup, List.pairwise_iff_getElem] at hnd2
    rw [List.getD_eq_getElem?_getD, List.getD_eq_getElem?_getD, List.getElem?_eq_getElem (by omega), List.getElem?_eq_getElem (by omega)] at e
    simp only [Option.getD_some] at e
    rcases Nat.lt_trichotomy i j with hij | hij | hij
    · exact absurd (by rw [List.getElem_map, List.getElem_map, e]) (hnd2 i j (by rw [List.length_map]; omega) (by rw [List.length_map]; omega) hij)
    · exact hij
    · exact absurd (by rw [List.getElem_map, List.getElem_map, e]) (hnd2 j i (by rw [List.length_map]; omega) (by rw [List.length_map]; omega) hij)
end Go.Proofs.YtggngahmafbihaaGreatDoor
