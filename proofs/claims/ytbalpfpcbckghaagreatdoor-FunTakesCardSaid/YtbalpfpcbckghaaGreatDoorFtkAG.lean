/- Contracts of the functions that the statement reaches, and the plain mathematics beneath: several texts joined. -/
import Derived.Laws.AppendOwnNone
import Derived.Maps.AppendAt
import Derived.Test.YtbalpfpcbckghaaGreatDoorRows
import Derived.Stop.LaidErr
import Derived.Lib.LaidTab
import Derived.ProofKit
import Derived.Test.YtbalpfpcbckghaaGreatDoorTie
import Derived.Test.YtbalpfpcbckghaaGreatDoorCards
import Derived.SevenTiedAt
import Derived.LaidMore
import Derived.Stop.Joined
import Derived.HandedShaped
import Derived.OpenShut
import Derived.ShutString
import Derived.Lay
import Derived.Test.YtbalpfpcbckghaaGreatDoorFtkAF
import Derived.Test.YtbalpfpcbckghaaGreatDoorFtkAD
namespace Go.Proofs.YtbalpfpcbckghaaGreatDoor
open Go.RowKit Go.Lib
set_option linter.unusedVariables false

section
variable {w w' : World} {g : Nat} {a b c d e f h i : Value}
end

namespace NL
theorem fit_drop : ∀ (i : Nat) (l : NL), l.fit → (l.drop i).fit
  | 0, l, h => by rw [NL.drop]; exact h
  | i + 1, .nil, h => h
  | i + 1, .cons _ _ _ _ _ _ _ _ r, h => fit_drop i r h.2.2.2.2.2.2
end NL

end Go.Proofs.YtbalpfpcbckghaaGreatDoor
namespace Go.Proofs.YtbalpfpcbckghaaGreatDoor

end Go.Proofs.YtbalpfpcbckghaaGreatDoor
namespace Go.Proofs.YtbalpfpcbckghaaGreatDoor
open Go.RowKit Go.Lib
set_option linter.unusedVariables false

end Go.Proofs.YtbalpfpcbckghaaGreatDoor
namespace Go.Proofs.YtbalpfpcbckghaaGreatDoor
open Go.RowKit Go.Lib
set_option linter.unusedVariables false

end Go.Proofs.YtbalpfpcbckghaaGreatDoor
namespace Go.Proofs.YtbalpfpcbckghaaGreatDoor

end Go.Proofs.YtbalpfpcbckghaaGreatDoor
namespace Go.Proofs.YtbalpfpcbckghaaGreatDoor
open Go.RowKit Go.Lib
set_option linter.unusedVariables false
theorem beq_no {a b : Int} (h : a ≠ b) : (a == b) = false := beq_eq_false_iff_ne.2 h
theorem bne_yes {a b : Int} (h : a ≠ b) : (a != b) = true := bne_iff_ne.2 h

end Go.Proofs.YtbalpfpcbckghaaGreatDoor
namespace Go.Proofs.YtbalpfpcbckghaaGreatDoor
open Go.RowKit Go.Lib
set_option linter.unusedVariables false

/-- The letters of a function's arguments, one each. -/
def lettersP (a : List UInt8) : List UInt8 := Lib.replaceAll (Lib.trimSuffix a [43]) [63] []
def arityE (a : List UInt8) : Int × Int :=
  if Lib.hasSuffix (Lib.cut a [63]).1 [43] then (((Lib.trimSuffix (Lib.cut a [63]).1 [43]).length : Int) - 1, -1) else (((Lib.cut a [63]).1.length : Int), ((Lib.cut a [63]).1.length : Int) + ((Lib.cut a [63]).2.1.length : Int))
theorem arityP_eq (nm : List UInt8) : arityP nm = arityE (argsP nm).1 := rfl
theorem toList_mk (l : List UInt8) : (⟨l.toArray⟩ : ByteArray).data.toList = l := by simp
/-- What is known of a function's row of arguments. -/
def rowB (a : List UInt8) : Bool := decide (a.length ≤ 10) && decide ((Lib.cut a [63]).1.length ≤ 10) && decide ((Lib.cut a [63]).2.1.length ≤ 10) && decide ((Lib.trimSuffix (Lib.cut a [63]).1 [43]).length ≤ 10) && decide ((Lib.trimSuffix a [43]).length ≤ 10) && decide ((lettersP a).length ≤ 10) && decide (Lib.countB ⟨(Lib.trimSuffix a [43]).toArray⟩ ⟨#[63]⟩ ≤ 10)
theorem rows_B : ((pureE ++ otherE).all fun e => rowB e.2) = true := by decide +kernel
theorem find_mem : ∀ (E : List (List UInt8 × List UInt8)) (nm : List UInt8), (findP E nm = ([], false) ∧ ∀ e ∈ E, e.1 ≠ nm) ∨ ∃ e ∈ E, e.1 = nm ∧ findP E nm = (e.2, true)
  | [], nm => .inl ⟨rfl, fun e h => by cases h⟩
  | e :: r, nm => by
    rw [findP_cons]
    by_cases h : e.1 = nm
    · rw [if_pos h]; exact .inr ⟨e, List.mem_cons_self .., h, rfl⟩
    · rw [if_neg h]
      rcases find_mem r nm with ⟨h1, h2⟩ | ⟨x, hx, h1, h2⟩
      · refine .inl ⟨h1, fun x hx => ?_⟩
        rcases List.mem_cons.1 hx with rfl | hx
        · exact h
        · exact h2 x hx
      · exact .inr ⟨x, List.mem_cons_of_mem _ hx, h1, h2⟩
theorem args_rowB (nm : List UInt8) : rowB (argsP nm).1 = true := by
  have h := List.all_eq_true.1 rows_B
  have h0 : rowB [] = true := by decide +kernel
  unfold argsP
  rcases find_mem pureE nm with ⟨h1, _⟩ | ⟨x, hx, _, h2⟩
  · rw [h1]
    rcases find_mem otherE nm with ⟨h1, _⟩ | ⟨x, hx, _, h2⟩
    · rw [h1]; exact h0
    · rw [h2]; exact h x (List.mem_append_right _ hx)
  · rw [h2]; exact h x (List.mem_append_left _ hx)

set_option maxRecDepth 100000 in
set_option maxHeartbeats 2000000 in
theorem arity_c (name : ByteArray) (w : World) (he : FnEnv w) :
    Calls Tryz.prog 24 #[.string name] w fun e w' => e = .returned (.tuple #[.int .i64 (arityP name.data.toList).1, .int .i64 (arityP name.data.toList).2]) ∧ Below w.heap.size w w' := by
  have hroom := he.room
  have hrow := args_rowB name.data.toList
  have AC := Lib.hid (args_c name w he)
  have EV := Lib.hid (fun W (hW : Below w.heap.size w W) => he.below hW (by omega))
  rw [arityP_eq]
  obtain ⟨p, hp⟩ : ∃ p, p = argsP name.data.toList := ⟨_, rfl⟩
  rw [← hp] at AC hrow ⊢
  obtain ⟨a, b⟩ := p
  clear hp he
  simp only at AC hrow ⊢
  obtain ⟨c, hc⟩ : ∃ c, c = Lib.cut a [63] := ⟨_, rfl⟩
  have hr := hrow
  simp only [rowB, Bool.and_eq_true, decide_eq_true_eq] at hr
  rw [← hc] at hr
  have CC := Lib.hid (fun (m : Int) W hm => Tryz.strings_Cut ⟨a.toArray⟩ ⟨#[63]⟩ m W (by rw [ba_size]; omega) hm)
  rw [toList_mk, show (⟨#[63]⟩ : ByteArray).data.toList = [63] from rfl, ← hc] at CC
  have e : arityE a = if Lib.hasSuffix c.1 [43] then (((Lib.trimSuffix c.1 [43]).length : Int) - 1, -1) else ((c.1.length : Int), (c.1.length : Int) + (c.2.1.length : Int)) := by rw [hc]; rfl
  rw [e]
  obtain ⟨c1, c2, c3⟩ := c
  simp only at hr ⊢
  have SC := Lib.hid (fun W => Tryz.strings_CutSuffix ⟨c1.toArray⟩ ⟨#[43]⟩ W (by rw [ba_size]; omega))
  rw [toList_mk, show (⟨#[43]⟩ : ByteArray).data.toList = [43] from rfl] at SC
  obtain ⟨u, hu⟩ : ∃ u, u = Lib.trimSuffix c1 [43] := ⟨_, rfl⟩
  rw [← hu] at SC hr ⊢
  have z1 : (⟨c1.toArray⟩ : ByteArray).size = c1.length := ba_size _
  have z2 : (⟨c2.toArray⟩ : ByteArray).size = c2.length := ba_size _
  have z3 : (⟨u.toArray⟩ : ByteArray).size = u.length := ba_size _
  obtain ⟨n1, hn1⟩ : ∃ n, n = c1.length := ⟨_, rfl⟩
  obtain ⟨n2, hn2⟩ : ∃ n, n = c2.length := ⟨_, rfl⟩
  obtain ⟨n3, hn3⟩ : ∃ n, n = u.length := ⟨_, rfl⟩
  obtain ⟨s1, hs1⟩ : ∃ s : ByteArray, s = ⟨c1.toArray⟩ := ⟨_, rfl⟩
  obtain ⟨s2, hs2⟩ : ∃ s : ByteArray, s = ⟨c2.toArray⟩ := ⟨_, rfl⟩
  obtain ⟨s3, hs3⟩ : ∃ s : ByteArray, s = ⟨u.toArray⟩ := ⟨_, rfl⟩
  rw [← hn1] at z1 hr ⊢
  rw [← hn2] at z2 hr ⊢
  rw [← hn3] at z3 hr ⊢
  rw [← hs1] at z1 SC CC
  rw [← hs2] at z2 CC
  rw [← hs3] at z3 SC
  clear hn1 hn2 hn3 hs1 hs2 hs3 hu hc e hrow
  cases hb : Lib.hasSuffix c1 [43] with
  | true =>
    rw [hb] at SC
    clear hb
    go_enter Tryz.func24, Tryz.ntmps24
    go_wp2_with fail
    refine AC.out.mono ?_
    rintro e w1 ⟨rfl, hb1⟩
    have HB1 := Lib.hid hb1
    obtain ⟨m, hm⟩ := (EV.out w1 hb1).mx
    have CC1 := Lib.hid (CC.out m w1 hm)
    clear hb1 hm
    go_wp2_with fail
    refine CC1.out.mono ?_
    rintro e w2 ⟨rfl, n, rfl⟩
    go_wp2_with fail
    refine (SC.out _).mono ?_
    rintro e w3 ⟨rfl, rfl⟩
    go_wp2_with fail
    go_returns
    exact ⟨by rw [← z3]; rfl, below_drewN HB1.out _⟩
  | false =>
    rw [hb] at SC
    clear hb
    go_enter Tryz.func24, Tryz.ntmps24
    go_wp2_with fail
    refine AC.out.mono ?_
    rintro e w1 ⟨rfl, hb1⟩
    have HB1 := Lib.hid hb1
    obtain ⟨m, hm⟩ := (EV.out w1 hb1).mx
    have CC1 := Lib.hid (CC.out m w1 hm)
    clear hb1 hm
    go_wp2_with fail
    refine CC1.out.mono ?_
    rintro e w2 ⟨rfl, n, rfl⟩
    go_wp2_with fail
    refine (SC.out _).mono ?_
    rintro e w3 ⟨rfl, rfl⟩
    go_wp2_with fail
    go_returns
    exact ⟨by rw [← z1, ← z2]; rfl, below_drewN HB1.out _⟩

/-- Is a value of a letter's kind? -/
def kindB (c : UInt8) (k : Int) : Bool :=
  if c = 113 then k == 2 || k == 4 else if c = 108 then k == 4 else if c = 105 then k == 0 else if c = 115 then k == 2 else if c = 111 then k == 1 else if c = 101 then k == 3 else true
theorem u8_no {c : UInt8} {n : Nat} {m : UInt8} (h : ¬ c = m) (hm : m.toNat = n) : ((c.toNat : Int) == (n : Int)) = false :=
  beq_no (fun e => h (UInt8.toNat_inj.1 (by omega)))
set_option maxRecDepth 100000 in
set_option maxHeartbeats 2000000 in
theorem kind_c (c : UInt8) (k n : Int) (s : ByteArray) (v : Value) (w : World) :
    Calls Tryz.prog 52 #[.int .u8 (c.toNat : Int), .agg #[.int .i64 k, .int .i64 n, .string s, v]] w fun e w' => e = .returned (.bool (kindB c k)) ∧ Below w.heap.size w w' := by
  obtain ⟨wa, hwa⟩ : ∃ wa, wa = w.alloc (.cells #[.int .i64 k, .int .i64 n, .string s, v] 24) := ⟨_, rfl⟩
  have hb : Below w.heap.size w wa := by rw [hwa]; exact (Below.refl _ _).alloc (Nat.le_refl _) _
  have hV : StB wa w.heap.size (.int .i64 k) (.int .i64 n) (.string s) v := by rw [hwa]; exact StB.new w _ _ _ _
  have v0 := hV.c0
  rw [hwa] at v0
  have HB := Lib.hid hb
  have HWA := Lib.hid hwa
  obtain ⟨r, hr⟩ : ∃ r, r = kindB c k := ⟨_, rfl⟩
  rw [← hr]
  clear hb hwa hV
  by_cases h1 : c = 113
  · subst h1
    have q1 : (((113 : UInt8).toNat : Int) == 113) = true := rfl
    by_cases hk : k = 2
    · subst hk
      have HR := Lib.hid (show r = true from hr)
      clear hr
      go_enter Tryz.func52, Tryz.ntmps52
      go_wp2_with fail
      go_ret
      exact ⟨by rw [HR.out]; rfl, by rw [← HWA.out]; exact HB.out⟩
    · have q2 : (k == 2) = false := beq_no hk
      have HR := Lib.hid (show r = (k == 4) by rw [hr]; unfold kindB; rw [if_pos rfl, q2, Bool.false_or])
      clear hr
      go_enter Tryz.func52, Tryz.ntmps52
      go_wp2_with fail
      go_ret
      exact ⟨by rw [HR.out]; rfl, by rw [← HWA.out]; exact HB.out⟩
  · have n1 := u8_no (n := 113) h1 rfl
    have e1 : r = (if c = 108 then k == 4 else if c = 105 then k == 0 else if c = 115 then k == 2 else if c = 111 then k == 1 else if c = 101 then k == 3 else true) := by rw [hr]; unfold kindB; rw [if_neg h1]
    clear hr
    by_cases h2 : c = 108
    · subst h2
      have HR := Lib.hid (show r = (k == 4) by rw [e1, if_pos rfl])
      clear e1 h1
      go_enter Tryz.func52, Tryz.ntmps52
      go_wp2_with fail
      go_ret
      exact ⟨by rw [HR.out]; rfl, by rw [← HWA.out]; exact HB.out⟩
    · have n2 := u8_no (n := 108) h2 rfl
      rw [if_neg h2] at e1
      by_cases h3 : c = 105
      · subst h3
        have HR := Lib.hid (show r = (k == 0) by rw [e1, if_pos rfl])
        clear e1 h1 h2
        go_enter Tryz.func52, Tryz.ntmps52
        go_wp2_with fail
        go_ret
        exact ⟨by rw [HR.out]; rfl, by rw [← HWA.out]; exact HB.out⟩
      · have n3 := u8_no (n := 105) h3 rfl
        rw [if_neg h3] at e1
        by_cases h4 : c = 115
        · subst h4
          have HR := Lib.hid (show r = (k == 2) by rw [e1, if_pos rfl])
          clear e1 h1 h2 h3
          go_enter Tryz.func52, Tryz.ntmps52
          go_wp2_with fail
          go_ret
          exact ⟨by rw [HR.out]; rfl, by rw [← HWA.out]; exact HB.out⟩
        · have n4 := u8_no (n := 115) h4 rfl
          rw [if_neg h4] at e1
          by_cases h5 : c = 111
          · subst h5
            have HR := Lib.hid (show r = (k == 1) by rw [e1, if_pos rfl])
            clear e1 h1 h2 h3 h4
            go_enter Tryz.func52, Tryz.ntmps52
            go_wp2_with fail
            go_ret
            exact ⟨by rw [HR.out]; rfl, by rw [← HWA.out]; exact HB.out⟩
          · have n5 := u8_no (n := 111) h5 rfl
            rw [if_neg h5] at e1
            by_cases h6 : c = 101
            · subst h6
              have HR := Lib.hid (show r = (k == 3) by rw [e1, if_pos rfl])
              clear e1 h1 h2 h3 h4 h5
              go_enter Tryz.func52, Tryz.ntmps52
              go_wp2_with fail
              go_ret
              exact ⟨by rw [HR.out]; rfl, by rw [← HWA.out]; exact HB.out⟩
            · have n6 := u8_no (n := 101) h6 rfl
              have HR := Lib.hid (show r = true by rw [e1, if_neg h6])
              clear e1 h1 h2 h3 h4 h5 h6
              go_enter Tryz.func52, Tryz.ntmps52
              go_wp2_with fail
              go_ret
              exact ⟨by rw [HR.out]; rfl, by rw [← HWA.out]; exact HB.out⟩

/-- What is amiss with arguments' kinds, from one on. -/
def kindsP (s : List UInt8) : Nat → VL → Int
  | _, .nil => 0
  | i, .cons k _ _ _ r => if kindB (s.getD (min i (s.length - 1)) 0) k then kindsP s (i + 1) r else 1
def fitsP (nm : List UInt8) (l : VL) : Int :=
  if (argsP nm).2 then (if (l.len : Int) < (arityP nm).1 then 11 else if 0 ≤ (arityP nm).2 ∧ (arityP nm).2 < (l.len : Int) then 11 else kindsP (lettersP (argsP nm).1) 0 l) else 5
def rowC (a : List UInt8) : Bool := !(lettersP a).isEmpty || (decide ((arityE a).1 = 0) && decide ((arityE a).2 = 0))
def rowD (a : List UInt8) : Bool := decide (0 ≤ (arityE a).1) && decide ((arityE a).1 ≤ 10) && decide (-1 ≤ (arityE a).2) && decide ((arityE a).2 ≤ 20)
theorem rows_C : ((pureE ++ otherE).all fun e => rowC e.2 && rowD e.2) = true := by decide +kernel
theorem args_rowC (nm : List UInt8) : rowC (argsP nm).1 = true ∧ rowD (argsP nm).1 = true := by
  have h := List.all_eq_true.1 rows_C
  have h0 : rowC [] = true ∧ rowD [] = true := by decide +kernel
  have hx : ∀ x ∈ pureE ++ otherE, rowC x.2 = true ∧ rowD x.2 = true := fun x hx => by have := h x hx; rwa [Bool.and_eq_true] at this
  unfold argsP
  rcases find_mem pureE nm with ⟨h1, _⟩ | ⟨x, hx1, _, h2⟩
  · rw [h1]
    rcases find_mem otherE nm with ⟨h1, _⟩ | ⟨x, hx1, _, h2⟩
    · rw [h1]; exact h0
    · rw [h2]; exact hx x (List.mem_append_right _ hx1)
  · rw [h2]; exact hx x (List.mem_append_left _ hx1)
theorem kindsP_cons (s : List UInt8) (i : Nat) (k n : Int) (t : ByteArray) (v r : VL) : kindsP s i (.cons k n t v r) = if kindB (s.getD (min i (s.length - 1)) 0) k then kindsP s (i + 1) r else 1 := rfl

set_option maxRecDepth 100000 in
set_option maxHeartbeats 4000000 in
theorem ffits_c (name : ByteArray) (l : VL) (A : Option Addr) (c : Nat) (w : World) (he : FnEnv w) (hc : l.len ≤ c) (hlen : l.len ≤ 100000) (hrep : RpL w (fun b => b < w.heap.size) l A) :
    Calls Tryz.prog 33 #[.string name, .slice A l.len c] w fun e w' => e = .returned (.int .i64 (fitsP name.data.toList l)) ∧ Below w.heap.size w w' := by
  have hroom := he.room
  have hrow := args_rowB name.data.toList
  obtain ⟨hrc, hrd⟩ := args_rowC name.data.toList
  have AC := Lib.hid (args_c name w he)
  have RC := Lib.hid (fun W (hW : Below w.heap.size w W) => arity_c name W (he.below hW (by omega)))
  have EV := Lib.hid (fun W (hW : Below w.heap.size w W) => he.below hW (by omega))
  have HRP := Lib.hid (fun W (hW : Below w.heap.size w W) => hrep.keep (w' := W) (S' := fun b => b < W.heap.size) (fun b hlt => hW.block b hlt) (fun b hlt => Nat.lt_of_lt_of_le hlt hW.size))
  have e0 : fitsP name.data.toList l = if (argsP name.data.toList).2 then (if (l.len : Int) < (arityP name.data.toList).1 then 11 else if 0 ≤ (arityP name.data.toList).2 ∧ (arityP name.data.toList).2 < (l.len : Int) then 11 else kindsP (lettersP (argsP name.data.toList).1) 0 l) else 5 := rfl
  rw [e0]
  rw [arityP_eq] at RC
  obtain ⟨p, hp⟩ : ∃ p, p = argsP name.data.toList := ⟨_, rfl⟩
  rw [arityP_eq]
  rw [← hp] at AC RC hrow hrc hrd ⊢
  obtain ⟨a, b⟩ := p
  clear hp he e0 hrep
  simp only at AC RC hrow hrc hrd ⊢
  simp only [rowB, Bool.and_eq_true, decide_eq_true_eq] at hrow
  simp only [rowD, Bool.and_eq_true, decide_eq_true_eq] at hrd
  obtain ⟨q, hq⟩ : ∃ q, q = arityE a := ⟨_, rfl⟩
  rw [← hq] at RC hrd ⊢
  have TC := Lib.hid (fun W => Tryz.strings_TrimSuffix ⟨a.toArray⟩ ⟨#[43]⟩ W (by rw [ba_size]; omega))
  rw [toList_mk, show (⟨#[43]⟩ : ByteArray).data.toList = [43] from rfl] at TC
  have PC := Lib.hid (fun (m : Int) W hm => Tryz.strings_ReplaceAll ⟨(Lib.trimSuffix a [43]).toArray⟩ ⟨#[63]⟩ ⟨#[]⟩ m W (by rw [ba_size]; omega) hm (by decide) (by rw [ba_size]; show _ + _ * 0 ≤ _; omega))
  rw [toList_mk, show (⟨#[63]⟩ : ByteArray).data.toList = [63] from rfl, show (⟨#[]⟩ : ByteArray).data.toList = [] from rfl, show Lib.replaceAll (Lib.trimSuffix a [43]) [63] [] = lettersP a from rfl] at PC
  obtain ⟨L, hL⟩ : ∃ L, L = lettersP a := ⟨_, rfl⟩
  rw [← hL] at PC hrow ⊢
  have hLz : l.len = 0 ∨ L ≠ [] ∨ (q.1 = 0 ∧ q.2 = 0) := by
    by_cases h : L = []
    · right; right
      unfold rowC at hrc
      rw [← hL, ← hq, h] at hrc
      simpa using hrc
    · exact .inr (.inl h)
  obtain ⟨q1, q2⟩ := q
  clear hq hL hrc
  simp only at RC hrd hLz ⊢
  obtain ⟨s1, hs1⟩ : ∃ s : ByteArray, s = ⟨a.toArray⟩ := ⟨_, rfl⟩
  obtain ⟨s2, hs2⟩ : ∃ s : ByteArray, s = ⟨(Lib.trimSuffix a [43]).toArray⟩ := ⟨_, rfl⟩
  rw [← hs1] at AC TC
  rw [← hs2] at TC PC
  clear hs1 hs2
  cases b with
  | false =>
    go_enter Tryz.func33, Tryz.ntmps33
    go_wp2_with fail
    refine AC.out.mono ?_
    rintro e w1 ⟨rfl, hb1⟩
    have HB1 := Lib.hid hb1
    clear hb1
    go_wp2_with fail
    go_ret
    exact ⟨rfl, HB1.out⟩
  | true =>
    rw [if_pos rfl]
    by_cases h1 : (l.len : Int) < q1
    · rw [if_pos h1]
      have d1 : decide ((l.len : Int) < q1) = true := decide_eq_true h1
      go_enter Tryz.func33, Tryz.ntmps33
      go_wp2_with fail
      refine AC.out.mono ?_
      rintro e w1 ⟨rfl, hb1⟩
      have HB1 := Lib.hid hb1
      have RC1 := Lib.hid (RC.out w1 hb1)
      clear hb1
      go_wp2_with fail
      refine RC1.out.mono ?_
      rintro e w2 ⟨rfl, hb2⟩
      have HB2 := Lib.hid (HB1.out.trans (below_le' hb2 HB1.out.size))
      clear hb2
      go_wp2_with fail
      go_ret
      exact ⟨rfl, HB2.out⟩
    · rw [if_neg h1]
      have d1 : decide ((l.len : Int) < q1) = false := decide_eq_false h1
      by_cases h2 : 0 ≤ q2 ∧ q2 < (l.len : Int)
      · rw [if_pos h2]
        obtain ⟨h2a, h2b⟩ := h2
        have d2 : decide ((0 : Int) ≤ q2) = true := decide_eq_true h2a
        have d3 : decide (q2 < (l.len : Int)) = true := decide_eq_true h2b
        go_enter Tryz.func33, Tryz.ntmps33
        go_wp2_with fail
        refine AC.out.mono ?_
        rintro e w1 ⟨rfl, hb1⟩
        have HB1 := Lib.hid hb1
        have RC1 := Lib.hid (RC.out w1 hb1)
        clear hb1
        go_wp2_with fail
        refine RC1.out.mono ?_
        rintro e w2 ⟨rfl, hb2⟩
        have HB2 := Lib.hid (HB1.out.trans (below_le' hb2 HB1.out.size))
        clear hb2
        go_wp2_with fail
        go_ret
        exact ⟨rfl, HB2.out⟩
      · rw [if_neg h2]
        have h3 : (0 ≤ q2 → ¬ q2 < (l.len : Int)) := fun h => fun h' => h2 ⟨h, h'⟩
        have hLn : l.len = 0 ∨ 0 < L.length := by
          rcases hLz with h | h | ⟨_, h⟩
          · exact .inl h
          · exact .inr (List.length_pos_iff.2 h)
          · left; have := h3 (by omega); omega
        have hLS := ba_size L
        obtain ⟨LS, hLSe⟩ : ∃ s : ByteArray, s = ⟨L.toArray⟩ := ⟨_, rfl⟩
        rw [← hLSe] at PC hLS
        have HLT := Lib.hid (show LS.data.toList = L by rw [hLSe])
        obtain ⟨res, hres⟩ : ∃ r, r = kindsP L 0 l := ⟨_, rfl⟩
        rw [← hres]
        have HRS := Lib.hid hres
        have hL10 : L.length ≤ 10 := by omega
        clear hLSe hres hLz h2
        go_enter Tryz.func33, Tryz.ntmps33
        go_wp2_with fail
        refine AC.out.mono ?_
        rintro e w1 ⟨rfl, hb1⟩
        have HB1 := Lib.hid hb1
        have RC1 := Lib.hid (RC.out w1 hb1)
        clear hb1
        go_wp2_with fail
        refine RC1.out.mono ?_
        rintro e w2 ⟨rfl, hb2⟩
        have HB2 := Lib.hid (HB1.out.trans (below_le' hb2 HB1.out.size))
        obtain ⟨m, hm⟩ := (EV.out w2 HB2.out).mx
        have PC2 := Lib.hid (PC.out m w2 hm)
        clear hb2 hm
        go_upto_region 5 with fail
        go_cut [36] (fun cv wx => cv = .bool false ∧ w2 = wx)
        case first =>
          by_cases h4 : (0 : Int) ≤ q2
          · have d2 : decide ((0 : Int) ≤ q2) = true := decide_eq_true h4
            have d3 : decide (q2 < (l.len : Int)) = false := decide_eq_false (by have := h3 h4; omega)
            have h5 := h3 h4
            clear h3
            go_wp2_with fail
            go_meet
            exact ⟨rfl, rfl⟩
          · have d2 : decide ((0 : Int) ≤ q2) = false := decide_eq_false h4
            clear h3
            go_wp2_with fail
            go_meet
            exact ⟨rfl, rfl⟩
        case rest =>
          obtain ⟨rfl, hcut⟩ := hcut
          subst hcut
          clear h3
          go_wp2_with fail
          refine (TC.out _).mono ?_
          rintro e w3 ⟨rfl, hw3⟩
          subst hw3
          go_wp2_with fail
          refine PC2.out.mono ?_
          rintro e w4 ⟨rfl, hb4⟩
          have HB4 := Lib.hid (HB2.out.trans (below_le' hb4 HB2.out.size))
          clear hb4
          go_wp2_with fail
          go_loopg [42] l.len (fun kk iv wr => ∃ i : Nat, iv = .int .i64 (i : Int) ∧ i + kk = l.len ∧ Hid (Below w4.heap.size w4 wr) ∧ Hid (kindsP L i (l.drop i) = res))
          case atStart => exact ⟨0, rfl, by omega, Below.refl _ _, by show kindsP L 0 (l.drop 0) = res; rw [VL.drop]; exact HRS.out.symm⟩
          case round =>
            obtain ⟨i, rfl, hk, HBW, HQ⟩ := hrel
            by_cases hi : i < l.len
            · obtain ⟨kk, rfl⟩ : ∃ kk, gk = kk + 1 := ⟨gk - 1, by omega⟩
              have hbW := HB4.out.trans (below_le' HBW.out HB4.out.size)
              obtain ⟨b, o, k', n', s', sub', sa', sc', hA, hd, hSb, c0, c1, c2, c3, hcl, hrs, hszd⟩ := rp_at (HRP.out wr hbW) hi
              have hqq := HQ.out
              rw [hd, kindsP_cons] at hqq
              have hL0 : 0 < L.length := by rcases hLn with h | h <;> omega
              obtain ⟨j, hj⟩ : ∃ j, j = min i (L.length - 1) := ⟨_, rfl⟩
              rw [← hj] at hqq
              have hjL : j < L.length := by rw [hj]; omega
              obtain ⟨m0, hm0⟩ : ∃ m0, m0 = L.length - 1 := ⟨_, rfl⟩
              have hmin : min (i : Int) ((L.length : Int) - 1) = (j : Int) := by rw [hj]; omega
              obtain ⟨ch, hch⟩ : ∃ ch, ch = L.getD j 0 := ⟨_, rfl⟩
              rw [← hch] at hqq
              have hjs : j < LS.size := by rw [hLS]; exact hjL
              have HCH := Lib.hid (show LS[j] = ch by
                have h1 := HLT.out
                rw [hch, List.getD_eq_getElem?_getD, List.getElem?_eq_getElem hjL]
                have e : LS[j] = LS.data.toList[j]'(by rw [h1]; exact hjL) := rfl
                rw [e]
                simp [h1])
              subst hA
              have hB9 := HB4.out.trans (below_le' HBW.out HB4.out.size)
              obtain ⟨wx, hwx⟩ : ∃ wx, wx = wr.alloc (.cells #[.int .i64 k', .int .i64 n', .string s', .slice sa' sub'.len sc'] 24) := ⟨_, rfl⟩
              have hbx : Below wr.heap.size wr wx := by rw [hwx]; exact (Below.refl _ _).alloc (Nat.le_refl _) _
              have hVx : StB wx wr.heap.size (.int .i64 k') (.int .i64 n') (.string s') (.slice sa' sub'.len sc') := by rw [hwx]; exact StB.new wr _ _ _ _
              have v0 := hVx.c0; have v1 := hVx.c1; have v2 := hVx.c2; have v3 := hVx.c3
              have j0 : (0 : Int) ≤ (j : Int) := by omega
              have j1 : (j : Int) < (LS.size : Int) := by omega
              have HBX := Lib.hid (HBW.out.trans (below_le' hbx HBW.out.size))
              have hmn : min (i : Int) (IntKind.i64.wrap ((LS.size : Int) - 1)) = (j : Int) := by
                rw [show IntKind.i64.wrap ((LS.size : Int) - 1) = (LS.size : Int) - 1 from by rw [IntKind.wrap_i64]; omega]
                omega
              have j0 : (0 : Int) ≤ (j : Int) := by omega
              have j1 : (j : Int) < (LS.size : Int) := by omega
              obtain ⟨S, hS⟩ : ∃ S : World → Prop, S = fun W => W.cell? ⟨wr.heap.size, 0, none⟩ = some (.int .i64 k') ∧ W.cell? ⟨wr.heap.size, 1, none⟩ = some (.int .i64 n') ∧ W.cell? ⟨wr.heap.size, 2, none⟩ = some (.string s') ∧ W.cell? ⟨wr.heap.size, 3, none⟩ = some (.slice sa' sub'.len sc') ∧ Below wx.heap.size wx W := ⟨_, rfl⟩
              have hxz : wr.heap.size < wx.heap.size := by rw [hwx]; simp
              have KS : ∀ W, Below wx.heap.size wx W → S W := fun W h => by rw [hS]; exact ⟨(h.cell (p := ⟨wr.heap.size, 0, none⟩) hxz).trans v0, (h.cell (p := ⟨wr.heap.size, 1, none⟩) hxz).trans v1, (h.cell (p := ⟨wr.heap.size, 2, none⟩) hxz).trans v2, (h.cell (p := ⟨wr.heap.size, 3, none⟩) hxz).trans v3, h⟩
              have BS : ∀ W, S W → Below wx.heap.size wx W := fun W h => by rw [hS] at h; exact h.2.2.2.2
              have K0 := Lib.hid (KS _ ((Below.refl wx.heap.size wx).drew))
              have KC := Lib.hid (fun W (h : S W) => (kind_c (LS[j]'hjs) k' n' s' (.slice sa' sub'.len sc') W).mono (R' := fun e w' => e = .returned (.bool (kindB (LS[j]'hjs) k')) ∧ S w') fun e w' ⟨h2, h3⟩ => ⟨h2, KS _ ((BS W h).trans (below_le' h3 (BS W h).size))⟩)
              rw [show kindB (LS[j]'hjs) k' = kindB ch k' by rw [HCH.out]] at KC
              have HWX := Lib.hid hwx
              clear hd hrs hbW hB9 hwx hbx hVx hch KS BS hm0 hLS hLn hjL hL10 hj
              subst hS
              cases hkb : kindB ch k' with
              | true =>
                rw [hkb] at KC
                rw [hkb, if_pos rfl] at hqq
                have HQ2 := Lib.hid hqq
                clear hqq hkb HQ
                go_wp2_with fail
                rw [← HWX.out]
                go_region_held3 (fun W => W.cell? ⟨wr.heap.size, 0, none⟩ = some (.int .i64 k') ∧ W.cell? ⟨wr.heap.size, 1, none⟩ = some (.int .i64 n') ∧ W.cell? ⟨wr.heap.size, 2, none⟩ = some (.string s') ∧ W.cell? ⟨wr.heap.size, 3, none⟩ = some (.slice sa' sub'.len sc') ∧ Below wx.heap.size wx W)
                  (first | (with_reducible assumption) | (with_reducible exact K0.out))
                  (first
                    | (go_at_call 52; refine (KC.out _ ?_).mono ?_; (with_reducible assumption); rintro e w8 ⟨rfl, hs8⟩)
                    )
                have HB8 := Lib.hid (HBX.out.trans (below_le' hs8.2.2.2.2 HBX.out.size))
                clear hs8 KC K0
                go_wp2_with fail
                go_roundg kk
                case measure => omega
                case rel => exact ⟨i + 1, by go_num, by omega, HB8, HQ2⟩
              | false =>
                rw [hkb] at KC
                rw [hkb, if_neg (by decide)] at hqq
                have HQ2 := Lib.hid hqq
                clear hqq hkb HQ
                go_wp2_with fail
                rw [← HWX.out]
                go_region_held3 (fun W => W.cell? ⟨wr.heap.size, 0, none⟩ = some (.int .i64 k') ∧ W.cell? ⟨wr.heap.size, 1, none⟩ = some (.int .i64 n') ∧ W.cell? ⟨wr.heap.size, 2, none⟩ = some (.string s') ∧ W.cell? ⟨wr.heap.size, 3, none⟩ = some (.slice sa' sub'.len sc') ∧ Below wx.heap.size wx W)
                  (first | (with_reducible assumption) | (with_reducible exact K0.out))
                  (first
                    | (go_at_call 52; refine (KC.out _ ?_).mono ?_; (with_reducible assumption); rintro e w8 ⟨rfl, hs8⟩)
                    )
                have HB8 := Lib.hid (HBX.out.trans (below_le' hs8.2.2.2.2 HBX.out.size))
                clear hs8 KC K0
                go_wp2_with fail
                go_ret
                exact ⟨by rw [← HQ2.out]; rfl, HB4.out.trans (below_le' HB8.out HB4.out.size)⟩
            · have hiE : i = l.len := by omega
              subst hiE
              have hqq := HQ.out
              rw [VL.drop_len] at hqq
              have HQ2 := Lib.hid (show res = 0 from hqq.symm)
              have HB9 := Lib.hid (HB4.out.trans (below_le' HBW.out HB4.out.size))
              clear hqq HQ
              go_wp2_with fail
              go_ret
              exact ⟨by rw [HQ2.out]; rfl, HB9.out⟩
end Go.Proofs.YtbalpfpcbckghaaGreatDoor
namespace Go.Proofs.YtbalpfpcbckghaaGreatDoor
open Go.RowKit Go.Lib
set_option linter.unusedVariables false

theorem tmod_emod (n : Int) (b : Nat) (hb : 0 < b) : (Int.tmod n b < 0 → n % (b : Int) = Int.tmod n b + b) ∧ (¬ Int.tmod n b < 0 → n % (b : Int) = Int.tmod n b) := by
  have h0 : n % (b : Int) = (Int.tmod n b) % (b : Int) := by
    conv => lhs; rw [← Int.tmod_add_mul_tdiv n b]
    rw [Int.add_mul_emod_self_left]
  have ht1 : Int.tmod n b < b := Int.tmod_lt_of_pos n (by omega)
  have ht0 : -(b : Int) < Int.tmod n b := by
    by_cases h : 0 ≤ n
    · have := Int.tmod_nonneg (b : Int) h; omega
    · have h1 := Int.tmod_lt_of_pos (-n) (show (0 : Int) < (b : Int) by omega)
      rw [Int.neg_tmod] at h1; omega
  refine ⟨fun h => ?_, fun h => ?_⟩
  · rw [h0, ← Int.add_emod_right, Int.emod_eq_of_lt (by omega) (by omega)]
  · rw [h0, Int.emod_eq_of_lt (by omega) (by omega)]
set_option maxHeartbeats 1000000 in
theorem wnumber_e (n : Int) (b : Nat) (w : World) (hn0 : -9223372036854775808 ≤ n) (hn1 : n ≤ 9223372036854775807) (hb0 : 0 < b) (hb1 : b ≤ 1000000) :
    Calls Tryz.prog 16 #[.int .i64 n, .int .i64 b] w fun e w' => e = .returned (.int .i64 (((n % (b : Int)).toNat : Nat) : Int)) ∧ w = w' := by
  have hem := tmod_emod n b hb0
  have hem0 := Int.emod_nonneg n (show (b : Int) ≠ 0 by omega)
  have ht1 : Int.tmod n b < b := Int.tmod_lt_of_pos n (by omega)
  have ht0 : -(b : Int) < Int.tmod n b := by
    by_cases h : 0 ≤ n
    · have := Int.tmod_nonneg (b : Int) h; omega
    · have h1 := Int.tmod_lt_of_pos (-n) (show (0 : Int) < (b : Int) by omega)
      rw [Int.neg_tmod] at h1; omega
  have hbz : ((b : Int) == 0) = false := (bne_of (by omega)).2
  obtain ⟨r, hr⟩ : ∃ r, r = ((n % (b : Int)).toNat : Int) := ⟨_, rfl⟩
  rw [← hr]
  by_cases hneg : Int.tmod n b < 0
  · have hd : decide (Int.tmod n b < 0) = true := decide_eq_true hneg
    have HE := Lib.hid (show Int.tmod n b + b = r by have := hem.1 hneg; omega)
    clear hem hem0 hr
    go_enter Tryz.func16, Tryz.ntmps16
    go_wp2_with fail
    go_ret
    exact ⟨ret_int HE.out, rfl⟩
  · have hd : decide (Int.tmod n b < 0) = false := decide_eq_false hneg
    have HE := Lib.hid (show Int.tmod n b = r by have := hem.2 hneg; omega)
    clear hem hem0 hr
    go_enter Tryz.func16, Tryz.ntmps16
    go_wp2_with fail
    go_ret
    exact ⟨ret_int HE.out, rfl⟩
end Go.Proofs.YtbalpfpcbckghaaGreatDoor
namespace Go.Proofs.YtbalpfpcbckghaaGreatDoor
open Go.RowKit Go.Lib
set_option linter.unusedVariables false

theorem star_err : "*" ++ "errors.errorString" = "*errors.errorString" := by decide
theorem row_err (u : TypeId) (h : Tryz.prog.typeName? 3 u = some "*errors.errorString") : u = 224 :=
  typeName_ptr_named (nm := "errors.errorString") (by rw [star_err]; kernel_rfl) (by kernel_rfl) (by decide) u (by rw [star_err]; exact h)
/-- A sentinel that heads the list: its variable's cell. -/
theorem sent_at {n : String} {text : List UInt8} {r : List (String × DataW Unit)} {W : World} (g : Nat) (h : laidMet Tryz.prog ((n, .iface "*errors.errorString" (.ptr (.agg [.lit (.string text)]))) :: r) W)
    (hg : Tryz.prog.globalNamed n = some g) (ht : (Tryz.prog.globals[g]?).map (·.type) = some 80) : ∃ a : Addr, W.cell? ⟨g, 0, none⟩ = some (.iface 224 (.pointer (some a))) := by
  obtain ⟨a, s, hv, _⟩ := laid_sentinel h hg ht Tryz.underlying80 row_err Tryz.underlying224 Tryz.underlying226 rfl rfl Tryz.underlying9 (by kernel_rfl) (by kernel_rfl)
  exact ⟨a, by simpa using World.var?_cell hg hv 0⟩
end Go.Proofs.YtbalpfpcbckghaaGreatDoor
namespace Go.Proofs.YtbalpfpcbckghaaGreatDoor
open Go.ChangeShapes Go.WideShapes Go.ChangeAt Go.RowKit Go.Lib
open Go.ChangeMaps (open_string shut_string)
set_option linter.unusedVariables false

theorem own_knob : ownKnob Tryz.prog.godebug = none := by kernel_rfl

/-- The kit's wrap with a condition, the world's shape kept. -/
theorem handed_and_shaped {H : Type} {enc : TypeId × Value → H} {a : Assume} {C : Checked} {os : Os} {f : FuncId} {fn : Func} {s : ChangeSpec} {conds : List PathCond} {apart fresh handsOn again : Bool} {X : World → Array Value → Prop}
    (hX : ∀ (w w' : World) (args : Array Value), w.heap = w'.heap → X w args → X w' args)
    (own : ownKnob C.prog.godebug = none) (started : os.Started) (noInit : C.prog.inits.idxOf? f = none) (hfn : C.prog.funcs[f]? = some fn)
    (witness : ∃ (w : World) (tape : Tape) (i : Input), w.os = os ∧ (w.forCall tape i).Shaped C.prog ∧ i.vars = [] ∧ Input.okWide C.prog (w.forCall tape i) .any w.heap.size f i ∧
      ((s.pre enc C.prog fn conds apart (w.forCall tape i).memory i.args ∧ X (w.forCall tape i).memory i.args) ∧ sizedMet enc C.prog fn (OpenSpec.ofChange s) apart (w.forCall tape i).memory i.args) ∧ a.holds C.prog (lone (Frame.enter C.prog f i.args .normal) [] (w.forCall tape i)))
    (contract : ∀ (W : World) (base : Nat) (args : Array Value) (ds gs : List (DataW H)) (before : List MemPlace),
      (∀ (j : Nat) t v, fn.params[j]? = some t → args[j]? = some v → Value.okWide C.prog W .any base t v) →
      DataW.Whole enc C.prog fn.params.toList s.vars apart W args.toList ds gs before →
      (DataW.weightsEach C.prog (fn.params.toList ++ s.plain.varTypes C.prog) (ds ++ gs)).all (· ≤ reachBytes) = true → X W args → W.ShapedOpen C.prog →
      Calls C.prog f args W fun e W' => ∃ v, e = .returned v ∧ s.post enc C.prog fn apart fresh handsOn again W args v W') :
    ReturnsInHanded a C os f .any (fun w args => (s.pre enc C.prog fn conds apart w args ∧ X w args) ∧ sizedMet enc C.prog fn (OpenSpec.ofChange s) apart w args) (s.post enc C.prog fn apart fresh handsOn again) := by
  refine returnsInHanded_of_calls own started noInit witness ?_
  intro w tape i _ hsh _ hok hpre hholds
  obtain ⟨_, _, _, fn', hfn', _, _, _, _, hval⟩ := hok
  have e : fn' = fn := Option.some.inj (hfn'.symm.trans hfn)
  subst e
  obtain ⟨⟨⟨ds, gs, before, hw, hc⟩, hx⟩, hz⟩ := hpre
  have hw' := DataW.Whole.of_heap (w' := w.forCall tape i) (by rfl) hw
  refine (contract (w.forCall tape i) w.heap.size i.args ds gs before hval hw' (hz.weights hw) (hX _ _ _ (by rfl) hx) hsh).mono fun e W' ⟨v, he, hp⟩ => ?_
  subst he
  exact ChangeSpec.post_blind hp

theorem i64_range {a : Int} (h : (Lit.int .i64 a).wf = true) : -9223372036854775808 ≤ a ∧ a ≤ 9223372036854775807 := by
  have e1 : IntKind.i64.min = -9223372036854775808 := by decide
  have e2 : IntKind.i64.max = 9223372036854775807 := by decide
  simp [Lit.wf] at h
  omega
theorem room_of {W : World} (h : W.ShapedOpen Tryz.prog) : 14 < W.heap.size := by
  have hsome : (((begin Tryz.prog (fun _ _ => 0) default).world.heap[14]?).bind Obj.row?).isSome = true := by kernel_rfl
  obtain ⟨⟨z, t⟩, hz⟩ := Option.isSome_iff_exists.1 hsome
  have hn : Tryz.prog.globals.size = 15 := by kernel_rfl
  obtain ⟨cs, hc, _⟩ := h.1 14 z t (by rw [hn]; decide) hz
  rcases Nat.lt_or_ge 14 W.heap.size with hlt | hge
  · exact hlt
  · rw [Array.getElem?_eq_none hge] at hc; cases hc

end Go.Proofs.YtbalpfpcbckghaaGreatDoor
