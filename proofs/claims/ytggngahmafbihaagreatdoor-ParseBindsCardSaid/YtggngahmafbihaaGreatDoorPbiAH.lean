/- Contracts of the functions that the statement reaches, and the plain mathematics beneath: several texts joined. -/
import Derived.Deep.AppendLies
import Derived.Maps.AppendAt
import Derived.Deep.RegionHeld3
import Derived.StillTailTactics
import Derived.IntWalk
import Derived.Test.YtggngahmafbihaaGreatDoorPbiAG
import Derived.Test.YtggngahmafbihaaGreatDoorPbiAF
import Derived.Test.YtggngahmafbihaaGreatDoorPbiAE
import Derived.Test.YtggngahmafbihaaGreatDoorPbiAC
import Derived.Test.YtggngahmafbihaaGreatDoorPbiAA
namespace Go.Proofs.YtggngahmafbihaaGreatDoor

def nmCh (c : UInt8) : Bool := (decide (97 ≤ c) && decide (c ≤ 122)) || (decide (48 ≤ c) && decide (c ≤ 57)) || c == 95
/-- Is a text a name? -/
def nameB (s : ByteArray) : Bool :=
  decide (1 ≤ s.size) && decide (s.size ≤ 32) && !(decide (48 ≤ s.data.toList.getD 0 0) && decide (s.data.toList.getD 0 0 ≤ 57)) && s.data.toList.all nmCh && !keysL.contains s

def isExpr (op : Int) : Bool := decide (1 ≤ op) && decide (op ≤ 29) && op != 26
def standsP (op : Int) : Nat → Bool
  | 0 => isExpr op
  | 1 => isExpr op || op == 26
  | 2 => op == 2 || op == 22 || op == 20
  | 3 => op == 2
  | 4 => op == 2 || op == 26
  | 5 => op == 25
  | 6 => op == 52
  | 8 => op == 50
  | _ => decide (40 ≤ op) && decide (op ≤ 51) && op != 50
def namedP (op : Int) : Bool × Bool := if op = 2 ∨ op = 24 ∨ op = 42 ∨ op = 43 then (true, false) else if op = 50 then (true, true) else (false, false)
def loopsP (op : Int) : Bool := op == 42 || op == 43 || op == 44

/-- What is amiss with what a node itself has: 0 nothing, 1 its shape, 2 its name. -/
def ownN (op : Int) (s : ByteArray) (k n : Int) (t : ByteArray) (v : VL) (m : Nat) (role : Nat) (loop : Bool) : Nat :=
  let fair := standsP op role && (loop || (op != 45 && op != 46)) &&
    (if op = 1 then k != 4 && (walk1 k n t v 1 4096).1 == 0 && (k != 0 || n != -9223372036854775808) else k == 0 && n == 0 && t.size == 0 && v.len == 0)
  if !fair || !(rolesP op m).2 || (!(namedP op).1 && s.size != 0) then 1
  else if (namedP op).1 && !nameB s && !((namedP op).2 && s.size == 0) then 2
  else 0
/-- The role of the j-th of what a node has, and whether it stands in a loop. -/
def subRole (op : Int) (m : Nat) (role : Nat) (loop : Bool) (j : Nat) : Nat × Bool :=
  let r := if role = 5 then 0 else if role = 2 ∧ op = 20 ∧ j = 0 then 2 else if role = 4 ∧ op = 26 then 3 else (rolesP op m).1.getD j 0
  (r, (loop && op != 48) || (loopsP op && r == 6))
/-- The first that is amiss: its line, and what. -/
def walkN : NL → (Nat → Nat × Bool) → Nat → Option (Int × Nat)
  | .nil, _, _ => none
  | .cons op ln s k n t v sub r, f, i =>
    if ownN op s k n t v sub.len (f i).1 (f i).2 ≠ 0 then some (ln, ownN op s k n t v sub.len (f i).1 (f i).2)
    else match walkN sub (subRole op sub.len (f i).1 (f i).2) 0 with
      | some e => some e
      | none => walkN r f (i + 1)
def rightN (l : NL) (role : Nat) : Bool := decide (l.tot ≤ 4096) && decide (l.deep ≤ 40) && (walkN l (fun _ => (role, false)) 0).isNone
end Go.Proofs.YtggngahmafbihaaGreatDoor
namespace Go.Proofs.YtggngahmafbihaaGreatDoor
open Go.RowKit Go.Lib
set_option linter.unusedVariables false

/-- A node in a block of its own. -/
def NdB (w : World) (g : Nat) (a b c d e f h i : Value) : Prop := w.heap[g]? = some (.cells #[a, b, c, d, e, f, h, i] 31 (0, 0))
section
variable {w w' : World} {g : Nat} {a b c d e f h i : Value}
theorem NdB.lt (H : NdB w g a b c d e f h i) : g < w.heap.size := by
  rcases Nat.lt_or_ge g w.heap.size with hlt | hge
  · exact hlt
  · unfold NdB at H; rw [Array.getElem?_eq_none hge] at H; cases H
theorem NdB.new (w : World) (a b c d e f h i : Value) : NdB (w.alloc (.cells #[a, b, c, d, e, f, h, i] 31)) w.heap.size a b c d e f h i := heap_alloc_new w _
theorem NdB.c0 (H : NdB w g a b c d e f h i) : w.cell? ⟨g, 0, none⟩ = some a := cell_of_row w g 0 _ _ _ H
theorem NdB.c1 (H : NdB w g a b c d e f h i) : w.cell? ⟨g, 1, none⟩ = some b := cell_of_row w g 1 _ _ _ H
theorem NdB.c2 (H : NdB w g a b c d e f h i) : w.cell? ⟨g, 2, none⟩ = some c := cell_of_row w g 2 _ _ _ H
theorem NdB.c3 (H : NdB w g a b c d e f h i) : w.cell? ⟨g, 3, none⟩ = some d := cell_of_row w g 3 _ _ _ H
theorem NdB.c4 (H : NdB w g a b c d e f h i) : w.cell? ⟨g, 4, none⟩ = some e := cell_of_row w g 4 _ _ _ H
theorem NdB.c5 (H : NdB w g a b c d e f h i) : w.cell? ⟨g, 5, none⟩ = some f := cell_of_row w g 5 _ _ _ H
theorem NdB.c6 (H : NdB w g a b c d e f h i) : w.cell? ⟨g, 6, none⟩ = some h := cell_of_row w g 6 _ _ _ H
theorem NdB.c7 (H : NdB w g a b c d e f h i) : w.cell? ⟨g, 7, none⟩ = some i := cell_of_row w g 7 _ _ _ H
theorem NdB.fr (H : NdB w g a b c d e f h i) (k : Nat) : w.frozen? ⟨g, k, none⟩ = false := by unfold NdB at H; simp [World.frozen?, H]
theorem NdB.below {B : Nat} (H : NdB w g a b c d e f h i) (hb : Below B w w') (hB : g < B) : NdB w' g a b c d e f h i := (hb.block g hB).trans H
theorem NdB.below' (H : NdB w g a b c d e f h i) (hb : Below w.heap.size w w') : NdB w' g a b c d e f h i := (hb.block g H.lt).trans H
theorem NdB.alloc (H : NdB w g a b c d e f h i) (o : Obj) : NdB (w.alloc o) g a b c d e f h i := (Below.heap_alloc w o g H.lt).trans H
end

/-- The i-th node of a list in memory. -/
theorem RpN.nth {w : World} {S : Nat → Prop} {l : NL} {A : Option Addr} {i : Nat} (h : RpN w S l A) (hi : i < l.len) :
    ∃ (b o : Nat) (op ln : Int) (s : ByteArray) (k n : Int) (t : ByteArray) (v : VL) (sub : NL) (va : Option Addr) (vc : Nat) (sa : Option Addr) (sc : Nat),
      A = some ⟨b, o, none⟩ ∧ S b ∧ l.drop i = .cons op ln s k n t v sub (l.drop (i + 1)) ∧
      w.cell? ⟨b, o + i * 8, none⟩ = some (.int .i64 op) ∧ w.cell? ⟨b, o + i * 8 + 1, none⟩ = some (.int .i64 ln) ∧ w.cell? ⟨b, o + i * 8 + 2, none⟩ = some (.string s) ∧
      w.cell? ⟨b, o + i * 8 + 3, none⟩ = some (.int .i64 k) ∧ w.cell? ⟨b, o + i * 8 + 4, none⟩ = some (.int .i64 n) ∧ w.cell? ⟨b, o + i * 8 + 5, none⟩ = some (.string t) ∧
      w.cell? ⟨b, o + i * 8 + 6, none⟩ = some (.slice va v.len vc) ∧ v.len ≤ vc ∧ RpL w S v va ∧
      w.cell? ⟨b, o + i * 8 + 7, none⟩ = some (.slice sa sub.len sc) ∧ sub.len ≤ sc ∧ RpN w S sub sa := by
  obtain ⟨b, o, hA⟩ : ∃ b o, A = some ⟨b, o, none⟩ := by
    cases l with
    | nil => simp [NL.len] at hi
    | cons => obtain ⟨b, o, _, _, _, _, e, _⟩ := h; exact ⟨b, o, e⟩
  subst hA
  obtain ⟨op, ln, s, k, n, t, v, sub, hd⟩ := NL.drop_of_lt i l hi
  have hdr := RpN.drop i l b o h
  rw [hd] at hdr
  obtain ⟨b', o', va, vc, sa, sc, e, hS, c0, c1, c2, c3, c4, c5, c6, h6, hv, c7, h7, hs, _⟩ := hdr
  injection e with e
  injection e with e1 e2
  subst e1
  subst e2
  rw [Nat.mul_comm 8 i] at c0 c1 c2 c3 c4 c5 c6 c7
  exact ⟨b, o, op, ln, s, k, n, t, v, sub, va, vc, sa, sc, rfl, hS, hd, c0, c1, c2, c3, c4, c5, c6, h6, hv, c7, h7, hs⟩

namespace NL
theorem fit_drop : ∀ (i : Nat) (l : NL), l.fit → (l.drop i).fit
  | 0, l, h => by rw [NL.drop]; exact h
  | i + 1, .nil, h => h
  | i + 1, .cons _ _ _ _ _ _ _ _ r, h => fit_drop i r h.2.2.2.2.2.2
theorem tot_drop : ∀ (i : Nat) (l : NL), (l.drop i).tot ≤ l.tot
  | 0, l => by rw [NL.drop]; exact Nat.le_refl _
  | i + 1, .nil => Nat.le_refl _
  | i + 1, .cons _ _ _ _ _ _ _ sub r => by have := tot_drop i r; simp only [NL.drop, NL.tot]; omega
theorem deep_tot : ∀ l : NL, l.deep ≤ l.tot
  | .nil => Nat.le_refl _
  | .cons _ _ _ _ _ _ _ sub r => by
    have := deep_tot sub; have := deep_tot r
    simp only [NL.deep, NL.tot]
    exact Nat.max_le.2 ⟨by omega, by omega⟩
end NL

/-- How many nodes there are, up to one more than may be. -/
def countN : NL → Int → Int
  | .nil, n => n
  | .cons _ _ _ _ _ _ _ sub r, n => if 4096 < n + 1 then n + 1 else if 4096 < countN sub (n + 1) then countN sub (n + 1) else countN r (countN sub (n + 1))
theorem countN_eq : ∀ (l : NL) (n : Int), 0 ≤ n → n ≤ 4096 → countN l n = if n + l.tot ≤ 4096 then n + l.tot else 4097
  | .nil, n, h0, h1 => by
    rw [countN, if_pos (by simp only [NL.tot]; omega)]; simp [NL.tot]
  | .cons op ln s k m t v sub r, n, h0, h1 => by
    rw [countN]
    obtain ⟨T, hT⟩ : ∃ T, T = (NL.cons op ln s k m t v sub r).tot := ⟨_, rfl⟩
    rw [← hT]
    simp only [NL.tot] at hT
    by_cases h : 4096 < n + 1
    · rw [if_pos h, if_neg (by omega)]; omega
    · rw [if_neg h]
      have e1 := countN_eq sub (n + 1) (by omega) (by omega)
      by_cases h2 : n + 1 + sub.tot ≤ 4096
      · rw [if_pos h2] at e1
        rw [e1, if_neg (by omega), countN_eq r _ (by omega) h2]
        by_cases h3 : n + 1 + sub.tot + r.tot ≤ 4096
        · rw [if_pos h3, if_pos (by omega)]; omega
        · rw [if_neg h3, if_neg (by omega)]
      · rw [if_neg h2] at e1
        rw [e1, if_pos (by omega), if_neg (by omega)]
theorem countN_range (l : NL) (n : Int) (h0 : 0 ≤ n) (h1 : n ≤ 4096) : 0 ≤ countN l n ∧ countN l n ≤ 4097 := by
  rw [countN_eq l n h0 h1]; split <;> omega
end Go.Proofs.YtggngahmafbihaaGreatDoor
namespace Go.Proofs.YtggngahmafbihaaGreatDoor
open Go.RowKit Go.Lib
set_option linter.unusedVariables false

/-- The cells of a row of nodes. -/
def NRow (w : World) (S : Nat → Prop) : NL → List Value → Prop
  | .nil, xs => xs = []
  | .cons op ln s k n t v sub r, xs => ∃ (va : Option Addr) (vc : Nat) (sa : Option Addr) (sc : Nat) (ys : List Value), xs = [.int .i64 op, .int .i64 ln, .string s, .int .i64 k, .int .i64 n, .string t, .slice va v.len vc, .slice sa sub.len sc] ++ ys ∧
      v.len ≤ vc ∧ RpL w S v va ∧ sub.len ≤ sc ∧ RpN w S sub sa ∧ NRow w S r ys
theorem nrow_len {w : World} {S : Nat → Prop} : ∀ (l : NL) (xs : List Value), NRow w S l xs → xs.length = l.len * 8
  | .nil, xs, h => by rw [show xs = [] from h]; rfl
  | .cons _ _ _ _ _ _ _ _ r, xs, ⟨_, _, _, _, ys, h, _, _, _, _, hr⟩ => by
    rw [h, List.length_append, nrow_len r ys hr, NL.len]
    simp only [List.length_cons, List.length_nil]; omega
theorem nrow_one {w : World} {S : Nat → Prop} : ∀ (l : NL) (xs : List Value), NRow w S l xs → ∀ u ∈ xs, u.oneCell' = true
  | .nil, xs, h, u, hu => by rw [show xs = [] from h] at hu; cases hu
  | .cons _ _ _ _ _ _ _ _ r, xs, ⟨_, _, _, _, ys, h, _, _, _, _, hr⟩, u, hu => by
    rw [h, List.mem_append] at hu
    rcases hu with hu | hu
    · simp only [List.mem_cons, List.not_mem_nil, or_false] at hu
      rcases hu with rfl | rfl | rfl | rfl | rfl | rfl | rfl | rfl <;> rfl
    · exact nrow_one r ys hr u hu
theorem nrow_keep {w w' : World} {S S' : Nat → Prop} (hw : ∀ b, S b → w'.heap[b]? = w.heap[b]?) (hS : ∀ b, S b → S' b) : ∀ (l : NL) (xs : List Value), NRow w S l xs → NRow w' S' l xs
  | .nil, _, h => h
  | .cons _ _ _ _ _ _ _ _ r, xs, ⟨va, vc, sa, sc, ys, h, h1, h2, h3, h4, hr⟩ => ⟨va, vc, sa, sc, ys, h, h1, RpL.keep hw hS _ _ h2, h3, RpN.keep hw hS _ _ h4, nrow_keep hw hS r ys hr⟩
theorem nrow_app {w : World} {S : Nat → Prop} : ∀ (a b : NL) (xs ys : List Value), NRow w S a xs → NRow w S b ys → NRow w S (a.app b) (xs ++ ys)
  | .nil, b, xs, ys, h, hb => by rw [show xs = [] from h, NL.app]; exact hb
  | .cons _ _ _ _ _ _ _ _ r, b, xs, ys, ⟨va, vc, sa, sc, zs, h, h1, h2, h3, h4, hr⟩, hb => ⟨va, vc, sa, sc, zs ++ ys, by rw [h, List.append_assoc], h1, h2, h3, h4, nrow_app r b zs ys hr hb⟩
/-- A row in memory has such cells. -/
theorem nrow_of {w : World} {S : Nat → Prop} : ∀ (l : NL) (A : Option Addr), RpN w S l A → ∃ xs, NRow w S l xs ∧ ∀ b o, A = some ⟨b, o, none⟩ → ∀ (j : Nat) (u : Value), xs[j]? = some u → w.cell? ⟨b, o + j, none⟩ = some u
  | .nil, A, _ => ⟨[], rfl, fun b o _ j u h => by simp at h⟩
  | .cons op ln s k n t v sub r, A, ⟨b', o', va, vc, sa, sc, hA, hb, h0, h1, h2, h3, h4, h5, h6, hv, hvr, h7, hc, hs, hr⟩ => by
    obtain ⟨ys, hy, hc2⟩ := nrow_of r _ hr
    refine ⟨_, ⟨va, vc, sa, sc, ys, rfl, hv, hvr, hc, hs, hy⟩, fun b o e j u hu => ?_⟩
    rw [hA] at e
    injection e with e
    injection e with e1 e2
    subst e1; subst e2
    match j with
    | 0 => rw [← hu]; exact h0
    | 1 => rw [← hu]; exact h1
    | 2 => rw [← hu]; exact h2
    | 3 => rw [← hu]; exact h3
    | 4 => rw [← hu]; exact h4
    | 5 => rw [← hu]; exact h5
    | 6 => rw [← hu]; exact h6
    | 7 => rw [← hu]; exact h7
    | j + 8 =>
      have := hc2 b' (o' + 8) rfl j u (by simpa using hu)
      rw [show o' + (j + 8) = o' + 8 + j from by omega]; exact this
/-- Where such cells lie, there is the row. -/
theorem rpn_of {w : World} {S : Nat → Prop} {b : Nat} (hb : S b) : ∀ (l : NL) (xs : List Value) (o : Nat), NRow w S l xs → (∀ (j : Nat) (u : Value), xs[j]? = some u → w.cell? ⟨b, o + j, none⟩ = some u) → RpN w S l (some ⟨b, o, none⟩)
  | .nil, _, _, _, _ => trivial
  | .cons op ln s k n t v sub r, xs, o, ⟨va, vc, sa, sc, ys, h, h1, h2, h3, h4, hr⟩, hc => by
    subst h
    refine ⟨b, o, va, vc, sa, sc, rfl, hb, hc 0 _ rfl, hc 1 _ rfl, hc 2 _ rfl, hc 3 _ rfl, hc 4 _ rfl, hc 5 _ rfl, hc 6 _ rfl, h1, h2, hc 7 _ rfl, h3, h4, rpn_of hb r ys (o + 8) hr (fun j u hu => ?_)⟩
    have := hc (j + 8) u (by simpa using hu)
    rw [show o + 8 + j = o + (j + 8) from by omega]; exact this
end Go.Proofs.YtggngahmafbihaaGreatDoor
namespace Go.Proofs.YtggngahmafbihaaGreatDoor
open Go.RowKit Go.Lib
set_option linter.unusedVariables false

theorem pnode_info : (Tryz.prog.info? 31).map (fun i => (i.zero, i.size, i.bytes)) = some (some (.agg #[.int .i64 0, .int .i64 0, .string ⟨#[]⟩, .int .i64 0, .int .i64 0, .string ⟨#[]⟩, .slice none 0 0, .slice none 0 0]), 8, 112) := by kernel_rfl

/-- Blocks of a sort, but for one value's. -/
def SN (w : World) (D : Nat → Prop) (V : Value) : Nat → Prop := fun b => D b ∧ b < w.heap.size ∧ V.ownBlock ≠ some b
/-- A row of nodes of the call's own, all in blocks of a sort. -/
def OwnN (w : World) (D : Nat → Prop) (V : Value) (l : NL) : Prop := ∃ xs, w.ownsRow 0 31 8 V l.len xs ∧ (∀ g, V.ownBlock = some g → D g) ∧ NRow w (SN w D V) l xs
theorem OwnN.nil (w : World) (D : Nat → Prop) : OwnN w D (.slice none 0 0) .nil := ⟨[], World.ownsRow_nil _ _ _ _, fun g e => (by cases e), rfl⟩
theorem OwnN.form {w : World} {D : Nat → Prop} {V : Value} {l : NL} (h : OwnN w D V l) : ∃ (A : Option Addr) (c : Nat), V = .slice A l.len c := by
  obtain ⟨xs, h, _⟩ := h; exact own_form h
theorem OwnN.ge {w : World} {D : Nat → Prop} {V : Value} {l : NL} (h : OwnN w D V l) (k : Nat) (hk : V.ownBlock = some k) : D k ∧ k < w.heap.size := by
  obtain ⟨xs, ho, hD, _⟩ := h; exact ⟨hD k hk, (ho.lt k hk).2⟩
theorem OwnN.wide {w : World} {D D' : Nat → Prop} {V : Value} {l : NL} (h : OwnN w D V l) (hb : ∀ k, D k → k < w.heap.size → D' k) : OwnN w D' V l := by
  have hg := h.ge
  obtain ⟨xs, ho, hD, hx⟩ := h
  exact ⟨xs, ho, fun g hg' => hb g (hD g hg') (hg g hg').2, nrow_keep (fun _ _ => rfl) (fun b hb' => ⟨hb b hb'.1 hb'.2.1, hb'.2⟩) l xs hx⟩
/-- Kept, where all of its blocks are as they were. -/
theorem OwnN.keep {w w' : World} {D : Nat → Prop} {V : Value} {l : NL} (h : OwnN w D V l) (hw : ∀ b, D b → b < w.heap.size → w'.heap[b]? = w.heap[b]?) (hz : w.heap.size ≤ w'.heap.size) : OwnN w' D V l := by
  have hg := h.ge
  obtain ⟨xs, ho, hD, hx⟩ := h
  refine ⟨xs, ?_, hD, nrow_keep (fun b hb => hw b hb.1 hb.2.1) (fun b hb => ⟨hb.1, Nat.lt_of_lt_of_le hb.2.1 hz, hb.2.2⟩) l xs hx⟩
  obtain ⟨h1, h2⟩ := ho
  refine ⟨h1, ?_⟩
  rcases h2 with h2 | ⟨g, cap, cur, hv, hg0, hh, r⟩
  · exact .inl h2
  · have := hg g (by rw [hv]; rfl)
    exact .inr ⟨g, cap, cur, hv, hg0, (hw g this.1 this.2).trans hh, r⟩
theorem OwnN.grown {w w' : World} {D : Nat → Prop} {P : Nat} {V : Value} {l : NL} (h : OwnN w D V l) (hg : w.grownBy w' (some P)) (hP : ¬ D P) : OwnN w' D V l :=
  h.keep (fun b h1 h2 => hg.block b h2 (fun e => by injection e with e; subst e; exact hP h1)) hg.size
theorem OwnN.below {w w' : World} {D : Nat → Prop} {V : Value} {l : NL} (h : OwnN w D V l) (hg : Below w.heap.size w w') : OwnN w' D V l := h.keep (fun b h1 h2 => hg.block b h2) hg.size
/-- What it reads as. -/
theorem OwnN.kids {w : World} {D : Nat → Prop} {V : Value} {l : NL} (h : OwnN w D V l) : ∃ A c, V = .slice A l.len c ∧ l.len ≤ c ∧ (A = none → c = 0) ∧ RpN w (fun k => D k ∧ k < w.heap.size) l A := by
  have hl := h.ge
  obtain ⟨xs, ho, hD, hx⟩ := h
  have hx' := nrow_keep (w' := w) (S' := fun k => D k ∧ k < w.heap.size) (fun _ _ => rfl) (fun b hb => ⟨hb.1, hb.2.1⟩) l xs hx
  rcases ho.2 with ⟨rfl, h0⟩ | ⟨g, cap, cur, rfl, hbg, hg, hnc, hcm, hcs, ht⟩
  · have hl : l = .nil := by
      cases l with
      | nil => rfl
      | cons => simp [NL.len] at h0
    subst hl
    exact ⟨none, 0, rfl, Nat.le_refl _, fun _ => rfl, trivial⟩
  · refine ⟨some ⟨g, 0, none⟩, cap, rfl, hnc, (fun e => by cases e), rpn_of (S := fun k => D k ∧ k < w.heap.size) (hl g rfl) l xs 0 hx' (fun j u hu => ?_)⟩
    have h := ho.cells (g := g) rfl j u hu
    have e : (⟨g, 0, none⟩ : Addr).add j = ⟨g, 0 + j, none⟩ := by unfold Addr.add; split <;> simp_all
    rw [e] at h; exact h

/-- A node as a call gives it: its eight values; what it has is a row of the call's own. -/
def nd8 (op ln : Int) (s : ByteArray) (k n : Int) (t : ByteArray) (va : Option Addr) (vc : Nat) (V : Value) : Array Value := #[.int .i64 op, .int .i64 ln, .string s, .int .i64 k, .int .i64 n, .string t, .slice va 0 vc, V]
/-- One node's cells, as a row. -/
theorem OwnN.row1 {w : World} {D : Nat → Prop} {V : Value} {sub : NL} (h : OwnN w D V sub) (op ln : Int) (s : ByteArray) (k n : Int) (t : ByteArray) (va : Option Addr) (vc : Nat) :
    NRow w (fun k => D k ∧ k < w.heap.size) (nd op ln s k n t sub) (nd8 op ln s k n t va vc V).toList := by
  obtain ⟨A, c, rfl, hc, _, hr⟩ := h.kids
  exact ⟨va, vc, A, c, [], rfl, Nat.zero_le _, trivial, hc, hr, rfl⟩
/-- A row of some nodes laid anew. -/
theorem OwnN.lit {w : World} {D : Nat → Prop} {l : NL} {cs : Array Value} (hx : NRow w (fun k => D k ∧ k < w.heap.size) l cs.toList) (hb : D w.heap.size) (hl : l.len ≤ 1000000000000) :
    OwnN (w.alloc (.cells cs 31)) D (.slice (some ⟨w.heap.size, 0, none⟩) l.len l.len) l := by
  have hz : cs.size = l.len * 8 := by have := nrow_len l _ hx; simpa using this
  refine ⟨cs.toList, World.ownsRow_lit w cs l.len (Nat.zero_le _) (by unfold maxLen; omega) hz, fun g e => ?_, nrow_keep (fun b hb => Below.heap_alloc _ _ _ hb.2) (fun b hb => ⟨hb.1, by simp; omega, fun e => ?_⟩) l _ hx⟩
  · simp [Value.ownBlock] at e
    rw [← e]; exact hb
  · simp [Value.ownBlock] at e
    omega

/-- What an append to such a row is: the row, joined. -/
theorem OwnN.joined {w w' : World} {D : Nat → Prop} {V V' : Value} {a b : NL} {xs ys : List Value} (ho : w.ownsRow 0 31 8 V a.len xs) (hD : ∀ g, V.ownBlock = some g → D g) (hn : D w.heap.size) (hx : NRow w (SN w D V) a xs) (hy : NRow w (SN w D V) b ys)
    (ho' : w'.ownsRow 0 31 8 V' (a.len + b.len) (xs ++ ys)) (hg : w.grownBy w' V.ownBlock) (hob : V'.ownBlock = V.ownBlock ∨ V'.ownBlock = some w.heap.size) : OwnN w' D V' (a.app b) := by
  have hk : ∀ k, SN w D V k → w'.heap[k]? = w.heap[k]? := fun k hk => hg.block k hk.2.1 (fun e => hk.2.2 e.symm)
  have hS : ∀ k, SN w D V k → SN w' D V' k := fun k hk => ⟨hk.1, Nat.lt_of_lt_of_le hk.2.1 hg.size, fun e => by
    rcases hob with h | h
    · exact hk.2.2 (h.symm.trans e)
    · rw [h] at e; injection e with e; have := hk.2.1; omega⟩
  refine ⟨xs ++ ys, by rw [NL.len_app]; exact ho', fun g e => ?_, nrow_app a b xs ys (nrow_keep hk hS a xs hx) (nrow_keep hk hS b ys hy)⟩
  rcases hob with h | h
  · exact hD g (h.symm.trans e)
  · rw [h] at e; injection e with e; rw [← e]; exact hn

/-- append of nodes that lie somewhere to a row of the call's own, run. -/
theorem run_app_nodes {P : Program} {T ty : TypeId} {i : TypeInfo} {z : Value} (w : World) (ht : P.underlying T = some (.slice 31)) (hi : P.info? 31 = some i) (hz : i.zero = some z) (hsize : i.size = 8) (hby : i.bytes = 112) (hzs : z.cells.size = 8)
    {D : Nat → Prop} {V : Value} {a b : NL} (hV : OwnN w D V a) {A : Option Addr} {c : Nat} (hb : RpN w (SN w D V) b A) (hA : A = none → c = 0) (hl : a.len + b.len ≤ 1000000000000) (hn : D w.heap.size) :
    ∃ A' c' w', (Builtin.append_ #[T, T] ty #[V, .slice A b.len c]).run P w = .ok (.slice A' (a.len + b.len) c') w' ∧ OwnN w' D (.slice A' (a.len + b.len) c') (a.app b) ∧ w.grownBy w' V.ownBlock ∧
      ((Value.slice A' (a.len + b.len) c').ownBlock = V.ownBlock ∨ (Value.slice A' (a.len + b.len) c').ownBlock = some w.heap.size) := by
  obtain ⟨xs, ho, hD, hx⟩ := hV
  obtain ⟨ys, hy, hcell⟩ := nrow_of b A hb
  by_cases hN : A = none
  · subst hN
    have hb0 : b = .nil := by
      cases b with
      | nil => rfl
      | cons => obtain ⟨_, _, _, _, _, _, e, _⟩ := hb; cases e
    subst hb0
    obtain rfl : c = 0 := hA rfl
    obtain ⟨A', c', rfl⟩ := own_form ho
    refine ⟨A', c', w, ?_, ?_, ⟨rfl, rfl, rfl, Nat.le_refl _, fun _ _ _ => rfl⟩, .inl rfl⟩
    · have := run_append_owned_none (P := P) (w := w) 0 T ty _ i 8 ht hi _ a.len xs ho
      simpa [NL.len] using this
    · rw [NL.app_nil]
      exact ⟨xs, ho, hD, hx⟩
  · obtain ⟨ad, rfl⟩ : ∃ ad, A = some ad := by
      cases A with
      | none => exact absurd rfl hN
      | some ad => exact ⟨ad, rfl⟩
    have hnews : ∀ j u, ys[j]? = some u → w.cell? (ad.add j) = some u := by
      intro j u hu
      cases b with
      | nil => rw [show ys = [] from hy] at hu; simp at hu
      | cons =>
        obtain ⟨g, o, _, _, _, _, e, _⟩ := hb
        injection e with e
        subst e
        rw [show (⟨g, o, none⟩ : Addr).add j = ⟨g, o + j, none⟩ from by unfold Addr.add; split <;> simp_all]
        exact hcell g o rfl j u hu
    obtain ⟨V', w', hr, h2, h3, _, h5⟩ := run_append_own_at (P := P) w 0 T ty _ i z 8 112 ht hi hz hsize hby hzs (by decide) V a.len xs ho ad b.len c ys (nrow_len b ys hy) hnews (nrow_one b ys hy) (by unfold maxLen; omega) (by omega) (Nat.zero_le _)
    obtain ⟨A', c', rfl⟩ := own_form h2
    exact ⟨A', c', w', hr, OwnN.joined ho hD hn hx hy h2 h3 h5, h3, h5⟩
theorem RpN.sn {w : World} {D D' : Nat → Prop} {V : Value} {b : NL} {A : Option Addr} (h : RpN w (fun k => D' k ∧ k < w.heap.size) b A) (hB : ∀ k, D' k → k < w.heap.size → D k) (hV : ∀ g, V.ownBlock = some g → ¬ D' g) : RpN w (SN w D V) b A :=
  h.keep (fun _ _ => rfl) (fun k hk => ⟨hB k hk.1 hk.2, hk.2, fun e => hV k e hk.1⟩)

/-- The parser: its block, its words, how many of them the row can hold, where the errors lie. -/
structure PCtx where
  P : Nat
  A : Option Addr
  c : Nat
  l : List Tok
  ea : Nat → Addr
/-- The words lie below the parser. -/
def TksAt (w : World) (X : PCtx) : Prop := ∀ (j : Nat) (t : Tok), X.l[j]? = some t → ∃ (g : Nat) (sa : Option Addr) (sc : Nat), X.A = some ⟨g, 0, none⟩ ∧ g < X.P ∧ TkIn w g (7 * j) t sa sc
/-- What is amiss, in memory. -/
def ErrV (w : World) (X : PCtx) (ev : Value) : Option (Option Int) → Prop
  | none => ev = .nilIface
  | some none => ev = .iface 270 (.pointer (some (X.ea 112)))
  | some (some line) => ∃ A, X.P < A ∧ ev = .iface 70 (.pointer (some ⟨A, 0, none⟩)) ∧ w.heap[A]? = some (.cells #[.int .i64 line, .iface 270 (.pointer (some (X.ea 111)))] 73 (0, 0))
def PsAt (w : World) (X : PCtx) (pos : Nat) (deep : Int) (ev : Value) : Prop := w.heap[X.P]? = some (.cells #[.slice X.A X.l.length X.c, .int .i64 pos, .int .i64 deep, ev] 65 (0, 0))
structure PSt (w : World) (X : PCtx) (p : PS) : Prop where
  st : ∃ ev, PsAt w X p.pos p.deep ev ∧ ErrV w X ev p.err
  tk : TksAt w X
  er : ErrsAt w X.ea
  room : 24 < X.P
  pos : p.pos ≤ X.l.length
  len : X.l.length ≤ 1000000

section
variable {w w' : World} {X : PCtx} {p : PS}
theorem heap_lt {w : World} {g : Nat} {o : Obj} (h : w.heap[g]? = some o) : g < w.heap.size := by
  rcases Nat.lt_or_ge g w.heap.size with hlt | hge
  · exact hlt
  · rw [Array.getElem?_eq_none hge] at h; cases h
theorem PSt.lt (h : PSt w X p) : X.P < w.heap.size := by obtain ⟨ev, h, _⟩ := h.st; exact heap_lt h
/-- Kept, where all below the parser, its own block and what is amiss are as they were. -/
theorem PSt.keep (h : PSt w X p) (hw : ∀ b, b ≤ X.P → w'.heap[b]? = w.heap[b]?) (hA : ∀ (A : Nat) (line : Int), X.P < A → w.heap[A]? = some (.cells #[.int .i64 line, .iface 270 (.pointer (some (X.ea 111)))] 73 (0, 0)) → w'.heap[A]? = w.heap[A]?) (hz : w.heap.size ≤ w'.heap.size) : PSt w' X p := by
  obtain ⟨ev, h1, h2⟩ := h.st
  refine ⟨⟨ev, (hw _ (Nat.le_refl _)).trans h1, ?_⟩, fun j t hj => ?_, h.er.keep (fun b hb => hw b (by have := h.room; omega)) hz, h.room, h.pos, h.len⟩
  · revert h2
    cases p.err with
    | none => exact fun h => h
    | some e =>
      cases e with
      | none => exact fun h => h
      | some line => exact fun ⟨A, hA1, hA2, hA3⟩ => ⟨A, hA1, hA2, (hA A line hA1 hA3).trans hA3⟩
  · obtain ⟨g, sa, sc, e1, e2, e3⟩ := h.tk j t hj
    have hk : ∀ k, w'.cell? ⟨g, k, none⟩ = w.cell? ⟨g, k, none⟩ := fun k => World.cell?_of_block (w := w) (hw g (Nat.le_of_lt e2))
    exact ⟨g, sa, sc, e1, e2, ⟨(hk _).trans e3.c0, (hk _).trans e3.c1, (hk _).trans e3.c2, (hk _).trans e3.c3, (hk _).trans e3.c4, (hk _).trans e3.c5, (hk _).trans e3.c6⟩⟩
theorem PSt.below (h : PSt w X p) (hb : Below w.heap.size w w') : PSt w' X p := h.keep (fun b hb' => hb.block b (by have := h.lt; omega)) (fun A line _ hA => hb.block A (heap_lt hA)) hb.size
/-- An append to a row of nodes leaves the parser as it was. -/
theorem PSt.app {D : Nat → Prop} {V : Value} {l : NL} (h : PSt w X p) (ho : OwnN w D V l) (hP : ∀ k, D k → X.P < k) (hg : w.grownBy w' V.ownBlock) : PSt w' X p := by
  refine h.keep (fun b hb' => hg.block b (by have := h.lt; omega) (fun e => by have := hP b (ho.ge b e.symm).1; omega)) (fun A line _ hA => hg.block A (heap_lt hA) (fun e => ?_)) hg.size
  obtain ⟨xs, ho, _⟩ := ho
  rcases ho.2 with ⟨rfl, _⟩ | ⟨g, cap, cur, rfl, _, hh, _⟩
  · cases e
  · have e : A = g := by simpa [Value.ownBlock] using e
    subst e
    rw [hA] at hh
    injection hh with hh
    injection hh with _ hh _
    exact absurd hh (by decide)
end
/-- How a step of the parser's leaves the world. -/
structure Mvd (w w' : World) (X : PCtx) (p : PS) : Prop where
  st : PSt w' X p
  grown : w.grownBy w' (some X.P)
theorem Mvd.of {w : World} {X : PCtx} {p : PS} (h : PSt w X p) : Mvd w w X p := ⟨h, only_refl _ _⟩
theorem Mvd.trans {a b c : World} {X : PCtx} {p q : PS} (h : Mvd a b X p) (g : Mvd b c X q) : Mvd a c X q := ⟨g.st, only_trans h.grown g.grown⟩
theorem Mvd.below {a b c : World} {X : PCtx} {p : PS} (h : Mvd a b X p) (g : Below b.heap.size b c) : Mvd a c X p := ⟨h.st.below g, only_trans h.grown (only_below g _)⟩
theorem Mvd.drew {a b : World} {X : PCtx} {p : PS} (h : Mvd a b X p) : Mvd a b.drew X p := h.below (Below.drew (Below.refl _ _))
theorem Mvd.alloc {a b : World} {X : PCtx} {p : PS} (h : Mvd a b X p) (o : Obj) : Mvd a (b.alloc o) X p := h.below ((Below.refl _ _).alloc (Nat.le_refl _) o)
theorem Mvd.app {a w w' : World} {X : PCtx} {p : PS} {D : Nat → Prop} {V : Value} {l : NL} (h : Mvd a w X p) (ho : OwnN w D V l) (hP : ∀ k, D k → X.P < k) (hb : ∀ k, D k → a.heap.size ≤ k) (hg : w.grownBy w' V.ownBlock) : Mvd a w' X p :=
  ⟨h.st.app ho hP hg, ⟨hg.os.trans h.grown.os, hg.tape.trans h.grown.tape, hg.output.trans h.grown.output, Nat.le_trans h.grown.size hg.size, fun k hk hne => (hg.block k (Nat.lt_of_lt_of_le hk h.grown.size) (fun e => by have := hb k (ho.ge k e.symm).1; omega)).trans (h.grown.block k hk hne)⟩⟩
end Go.Proofs.YtggngahmafbihaaGreatDoor
namespace Go.Proofs.YtggngahmafbihaaGreatDoor
open Go.RowKit Go.Lib
set_option linter.unusedVariables false

section
variable {w w' : World} {X : PCtx} {pos : Nat} {deep : Int} {ev : Value}
theorem PsAt.c0 (h : PsAt w X pos deep ev) : w.cell? ⟨X.P, 0, none⟩ = some (.slice X.A X.l.length X.c) := cell_of_row w X.P 0 _ _ _ h
theorem PsAt.c1 (h : PsAt w X pos deep ev) : w.cell? ⟨X.P, 1, none⟩ = some (.int .i64 pos) := cell_of_row w X.P 1 _ _ _ h
theorem PsAt.c2 (h : PsAt w X pos deep ev) : w.cell? ⟨X.P, 2, none⟩ = some (.int .i64 deep) := cell_of_row w X.P 2 _ _ _ h
theorem PsAt.c3 (h : PsAt w X pos deep ev) : w.cell? ⟨X.P, 3, none⟩ = some ev := cell_of_row w X.P 3 _ _ _ h
theorem PsAt.fr (h : PsAt w X pos deep ev) (k : Nat) : w.frozen? ⟨X.P, k, none⟩ = false := by unfold PsAt at h; simp [World.frozen?, h]
theorem PsAt.set1 (h : PsAt w X pos deep ev) (j : Nat) : PsAt (w.setCell ⟨X.P, 1, none⟩ (.int .i64 j)) X j deep ev := by
  unfold PsAt at h ⊢; simp [World.setCell, Array.getElem?_modify, h]
theorem PsAt.set2 (h : PsAt w X pos deep ev) (j : Int) : PsAt (w.setCell ⟨X.P, 2, none⟩ (.int .i64 j)) X pos j ev := by
  unfold PsAt at h ⊢; simp [World.setCell, Array.getElem?_modify, h]
theorem PsAt.set3 (h : PsAt w X pos deep ev) (u : Value) : PsAt (w.setCell ⟨X.P, 3, none⟩ u) X pos deep u := by
  unfold PsAt at h ⊢; simp [World.setCell, Array.getElem?_modify, h]
end
/-- The parser's own block, opened. -/
theorem PSt.at_ {w : World} {X : PCtx} {p : PS} (h : PSt w X p) : ∃ ev, PsAt w X p.pos p.deep ev ∧ ErrV w X ev p.err := h.st
theorem PSt.tok {w : World} {X : PCtx} {p : PS} (h : PSt w X p) {j : Nat} {t : Tok} (hj : X.l[j]? = some t) : ∃ (g : Nat) (sa : Option Addr) (sc : Nat), X.A = some ⟨g, 0, none⟩ ∧ g < X.P ∧
    w.cell? ⟨g, j * 7, none⟩ = some (.int .i64 t.kind) ∧ w.cell? ⟨g, j * 7 + 1, none⟩ = some (.int .i64 t.line) ∧ w.cell? ⟨g, j * 7 + 2, none⟩ = some (.string t.s) ∧ w.cell? ⟨g, j * 7 + 3, none⟩ = some (.int .i64 t.k) ∧
    w.cell? ⟨g, j * 7 + 4, none⟩ = some (.int .i64 t.n) ∧ w.cell? ⟨g, j * 7 + 5, none⟩ = some (.string t.t) ∧ w.cell? ⟨g, j * 7 + 6, none⟩ = some (.slice sa 0 sc) := by
  obtain ⟨g, sa, sc, e1, e2, e3⟩ := h.tk j t hj
  have := e3.c0; have := e3.c1; have := e3.c2; have := e3.c3; have := e3.c4; have := e3.c5; have := e3.c6
  rw [Nat.mul_comm j 7]
  exact ⟨g, sa, sc, e1, e2, by assumption, by assumption, by assumption, by assumption, by assumption, by assumption, by assumption⟩
theorem errv_some {w : World} {X : PCtx} {ev : Value} {x : Option Int} (h : ErrV w X ev (some x)) : ∃ t v, ev = .iface t v := by
  cases x with
  | none => exact ⟨_, _, h⟩
  | some line => obtain ⟨A, _, h, _⟩ := h; exact ⟨_, _, h⟩
theorem tok_at {l : List Tok} {i : Nat} (h : i < l.length) : ∃ t, l[i]? = some t := ⟨l[i], List.getElem?_eq_getElem h⟩
theorem isS_eq {l : List Tok} {p : PS} {t : Tok} {s : List UInt8} (he : p.err = none) (h : l[p.pos]? = some t) : isS l p s = ((t.kind == 4 || t.kind == 2) && t.s.data.toList == s) := by
  unfold isS; rw [he, h]; rfl
theorem isS_out {l : List Tok} {p : PS} {s : List UInt8} (h : l[p.pos]? = none) : isS l p s = false := by
  unfold isS; rw [h]; exact Bool.and_false _
theorem isS_bad {l : List Tok} {p : PS} {s : List UInt8} {e : Option Int} (h : p.err = some e) : isS l p s = false := by
  unfold isS; rw [h]; rfl
theorem isS_lt {l : List Tok} {p : PS} {s : List UInt8} (h : isS l p s = true) : p.pos < l.length := by
  rcases Nat.lt_or_ge p.pos l.length with hlt | hge
  · exact hlt
  · rw [isS_out (List.getElem?_eq_none hge)] at h; cases h
set_option maxRecDepth 100000 in
set_option maxHeartbeats 1000000 in
theorem is_c (X : PCtx) (p : PS) (s : ByteArray) (w : World) (h : PSt w X p) :
    Calls Tryz.prog 57 #[.pointer (some ⟨X.P, 0, none⟩), .string s] w fun e w' => e = .returned (.bool (isS X.l p s.data.toList)) ∧ Below w.heap.size w w' := by
  obtain ⟨ev, hP, hE⟩ := h.at_
  have c0 := hP.c0; have c1 := hP.c1; have c3 := hP.c3
  cases he : p.err with
  | some x =>
    rw [he] at hE
    obtain ⟨t, v, rfl⟩ := errv_some hE
    have HI := Lib.hid (isS_bad (l := X.l) (s := s.data.toList) he)
    clear h hP hE he
    go_enter Tryz.func57, Tryz.ntmps57
    go_wp2_with fail
    go_quiet (fail)
    go_wp2_with fail
    go_ret
    exact ⟨ret_bool HI.out.symm, rfl, rfl, rfl, Nat.le_refl _, fun _ _ => rfl⟩
  | none =>
    rw [he] at hE
    obtain rfl : ev = .nilIface := hE
    by_cases hp : p.pos < X.l.length
    · obtain ⟨t, ht⟩ := tok_at hp
      obtain ⟨g, sa, sc, hA, hg, t0, t1, t2, t3, t4, t5, t6⟩ := h.tok ht
      have b0 : (0 : Int) ≤ (p.pos : Int) := by omega
      have b1 : (p.pos : Int) < (X.l.length : Int) := by omega
      have b2 : ¬ (X.l.length : Int) ≤ (p.pos : Int) := by omega
      have HI := Lib.hid (isS_eq (s := s.data.toList) he ht)
      rw [hA] at c0
      obtain ⟨n, hn⟩ : ∃ n, n = X.l.length := ⟨_, rfl⟩
      obtain ⟨q, hq⟩ : ∃ q, q = p.pos := ⟨_, rfl⟩
      rw [← hn] at c0 b1 b2
      rw [← hq] at c1 b0 b1 b2 t0 t1 t2 t3 t4 t5 t6
      clear h hP he ht hp hn hq
      obtain ⟨kd, hkd⟩ : ∃ kd, kd = t.kind := ⟨_, rfl⟩
      rw [← hkd] at HI t0
      clear hkd
      by_cases k4 : kd = 4
      · subst k4
        go_enter Tryz.func57, Tryz.ntmps57
        go_wp2_with fail
        go_quiet (fail)
        go_wp2_with fail
        generalize hwq : World.drewN _ _ = wq
        have q0 : wq.cell? ⟨X.P, 0, none⟩ = some (.slice (some ⟨g, 0, none⟩) n X.c) := by rw [← hwq]; exact c0
        have q1 : wq.cell? ⟨X.P, 1, none⟩ = some (.int .i64 q) := by rw [← hwq]; exact c1
        have r0 : wq.cell? ⟨g, q * 7, none⟩ = some (.int .i64 4) := by rw [← hwq]; exact t0
        have r1 : wq.cell? ⟨g, q * 7 + 1, none⟩ = some (.int .i64 t.line) := by rw [← hwq]; exact t1
        have r2 : wq.cell? ⟨g, q * 7 + 2, none⟩ = some (.string t.s) := by rw [← hwq]; exact t2
        have r3 : wq.cell? ⟨g, q * 7 + 3, none⟩ = some (.int .i64 t.k) := by rw [← hwq]; exact t3
        have r4 : wq.cell? ⟨g, q * 7 + 4, none⟩ = some (.int .i64 t.n) := by rw [← hwq]; exact t4
        have r5 : wq.cell? ⟨g, q * 7 + 5, none⟩ = some (.string t.t) := by rw [← hwq]; exact t5
        have r6 : wq.cell? ⟨g, q * 7 + 6, none⟩ = some (.slice sa 0 sc) := by rw [← hwq]; exact t6
        have HQ := Lib.hid (show Below w.heap.size w wq by rw [← hwq]; exact ⟨rfl, rfl, rfl, Nat.le_refl _, fun _ _ => rfl⟩)
        clear hwq c0 c1 c3 t0 t1 t2 t3 t4 t5 t6
        go_region_held3 (fun W => W.cell? ⟨X.P, 0, none⟩ = some (.slice (some ⟨g, 0, none⟩) n X.c) ∧ W.cell? ⟨X.P, 1, none⟩ = some (.int .i64 q) ∧ W.cell? ⟨g, q * 7, none⟩ = some (.int .i64 4) ∧ W.cell? ⟨g, q * 7 + 1, none⟩ = some (.int .i64 t.line) ∧ W.cell? ⟨g, q * 7 + 2, none⟩ = some (.string t.s) ∧ W.cell? ⟨g, q * 7 + 3, none⟩ = some (.int .i64 t.k) ∧ W.cell? ⟨g, q * 7 + 4, none⟩ = some (.int .i64 t.n) ∧ W.cell? ⟨g, q * 7 + 5, none⟩ = some (.string t.t) ∧ W.cell? ⟨g, q * 7 + 6, none⟩ = some (.slice sa 0 sc)) (first | assumption | exact ⟨q0, q1, r0, r1, r2, r3, r4, r5, r6⟩ | go_keep) (fail)
        go_wp2_with fail
        go_ret
        exact ⟨ret_bool (by rw [HI.out, Lib.toList_data, Lib.toList_data]; rfl), (HQ.out.alloc HQ.out.size _).drew⟩
      by_cases k2 : kd = 2
      · subst k2
        clear k4
        go_enter Tryz.func57, Tryz.ntmps57
        go_wp2_with fail
        go_quiet (fail)
        go_wp2_with fail
        generalize hwq : World.drewN _ _ = wq
        have q0 : wq.cell? ⟨X.P, 0, none⟩ = some (.slice (some ⟨g, 0, none⟩) n X.c) := by rw [← hwq]; exact c0
        have q1 : wq.cell? ⟨X.P, 1, none⟩ = some (.int .i64 q) := by rw [← hwq]; exact c1
        have r0 : wq.cell? ⟨g, q * 7, none⟩ = some (.int .i64 2) := by rw [← hwq]; exact t0
        have r1 : wq.cell? ⟨g, q * 7 + 1, none⟩ = some (.int .i64 t.line) := by rw [← hwq]; exact t1
        have r2 : wq.cell? ⟨g, q * 7 + 2, none⟩ = some (.string t.s) := by rw [← hwq]; exact t2
        have r3 : wq.cell? ⟨g, q * 7 + 3, none⟩ = some (.int .i64 t.k) := by rw [← hwq]; exact t3
        have r4 : wq.cell? ⟨g, q * 7 + 4, none⟩ = some (.int .i64 t.n) := by rw [← hwq]; exact t4
        have r5 : wq.cell? ⟨g, q * 7 + 5, none⟩ = some (.string t.t) := by rw [← hwq]; exact t5
        have r6 : wq.cell? ⟨g, q * 7 + 6, none⟩ = some (.slice sa 0 sc) := by rw [← hwq]; exact t6
        have HQ := Lib.hid (show Below w.heap.size w wq by rw [← hwq]; exact ⟨rfl, rfl, rfl, Nat.le_refl _, fun _ _ => rfl⟩)
        clear hwq c0 c1 c3 t0 t1 t2 t3 t4 t5 t6
        go_region_held3 (fun W => W.cell? ⟨X.P, 0, none⟩ = some (.slice (some ⟨g, 0, none⟩) n X.c) ∧ W.cell? ⟨X.P, 1, none⟩ = some (.int .i64 q) ∧ W.cell? ⟨g, q * 7, none⟩ = some (.int .i64 2) ∧ W.cell? ⟨g, q * 7 + 1, none⟩ = some (.int .i64 t.line) ∧ W.cell? ⟨g, q * 7 + 2, none⟩ = some (.string t.s) ∧ W.cell? ⟨g, q * 7 + 3, none⟩ = some (.int .i64 t.k) ∧ W.cell? ⟨g, q * 7 + 4, none⟩ = some (.int .i64 t.n) ∧ W.cell? ⟨g, q * 7 + 5, none⟩ = some (.string t.t) ∧ W.cell? ⟨g, q * 7 + 6, none⟩ = some (.slice sa 0 sc)) (first | assumption | exact ⟨q0, q1, r0, r1, r2, r3, r4, r5, r6⟩ | go_keep) (fail)
        go_wp2_with fail
        go_ret
        exact ⟨ret_bool (by rw [HI.out, Lib.toList_data, Lib.toList_data]; rfl), (HQ.out.alloc HQ.out.size _).drew⟩
      · have n4 : (kd == 4) = false := beq_eq_false_iff_ne.2 k4
        have n2 : (kd == 2) = false := beq_eq_false_iff_ne.2 k2
        rw [n4, n2] at HI
        clear k4 k2
        go_enter Tryz.func57, Tryz.ntmps57
        go_wp2_with fail
        go_quiet (fail)
        go_wp2_with fail
        generalize hwq : World.drewN _ _ = wq
        have q0 : wq.cell? ⟨X.P, 0, none⟩ = some (.slice (some ⟨g, 0, none⟩) n X.c) := by rw [← hwq]; exact c0
        have q1 : wq.cell? ⟨X.P, 1, none⟩ = some (.int .i64 q) := by rw [← hwq]; exact c1
        have r0 : wq.cell? ⟨g, q * 7, none⟩ = some (.int .i64 kd) := by rw [← hwq]; exact t0
        have r1 : wq.cell? ⟨g, q * 7 + 1, none⟩ = some (.int .i64 t.line) := by rw [← hwq]; exact t1
        have r2 : wq.cell? ⟨g, q * 7 + 2, none⟩ = some (.string t.s) := by rw [← hwq]; exact t2
        have r3 : wq.cell? ⟨g, q * 7 + 3, none⟩ = some (.int .i64 t.k) := by rw [← hwq]; exact t3
        have r4 : wq.cell? ⟨g, q * 7 + 4, none⟩ = some (.int .i64 t.n) := by rw [← hwq]; exact t4
        have r5 : wq.cell? ⟨g, q * 7 + 5, none⟩ = some (.string t.t) := by rw [← hwq]; exact t5
        have r6 : wq.cell? ⟨g, q * 7 + 6, none⟩ = some (.slice sa 0 sc) := by rw [← hwq]; exact t6
        have HQ := Lib.hid (show Below w.heap.size w wq by rw [← hwq]; exact ⟨rfl, rfl, rfl, Nat.le_refl _, fun _ _ => rfl⟩)
        clear hwq c0 c1 c3 t0 t1 t2 t3 t4 t5 t6
        go_region_held3 (fun W => W.cell? ⟨X.P, 0, none⟩ = some (.slice (some ⟨g, 0, none⟩) n X.c) ∧ W.cell? ⟨X.P, 1, none⟩ = some (.int .i64 q) ∧ W.cell? ⟨g, q * 7, none⟩ = some (.int .i64 kd) ∧ W.cell? ⟨g, q * 7 + 1, none⟩ = some (.int .i64 t.line) ∧ W.cell? ⟨g, q * 7 + 2, none⟩ = some (.string t.s) ∧ W.cell? ⟨g, q * 7 + 3, none⟩ = some (.int .i64 t.k) ∧ W.cell? ⟨g, q * 7 + 4, none⟩ = some (.int .i64 t.n) ∧ W.cell? ⟨g, q * 7 + 5, none⟩ = some (.string t.t) ∧ W.cell? ⟨g, q * 7 + 6, none⟩ = some (.slice sa 0 sc)) (first | assumption | exact ⟨q0, q1, r0, r1, r2, r3, r4, r5, r6⟩ | go_keep) (fail)
        go_wp2_with fail
        go_ret
        exact ⟨ret_bool HI.out.symm, (HQ.out.alloc HQ.out.size _).drew⟩
    · have hout : X.l[p.pos]? = none := List.getElem?_eq_none (by omega)
      have HI := Lib.hid (isS_out (s := s.data.toList) hout)
      have b2 : (X.l.length : Int) ≤ (p.pos : Int) := by omega
      clear h hP he hp hout
      go_enter Tryz.func57, Tryz.ntmps57
      go_wp2_with fail
      go_quiet (fail)
      go_wp2_with fail
      go_ret
      exact ⟨ret_bool HI.out.symm, rfl, rfl, rfl, Nat.le_refl _, fun _ _ => rfl⟩

theorem ErrV.keep {w w' : World} {X : PCtx} {ev : Value} {x : Option (Option Int)} (h : ErrV w X ev x) (hw : ∀ b, X.P < b → b < w.heap.size → w'.heap[b]? = w.heap[b]?) : ErrV w' X ev x := by
  cases x with
  | none => exact h
  | some e =>
    cases e with
    | none => exact h
    | some line => obtain ⟨A, h1, h2, h3⟩ := h; exact ⟨A, h1, h2, (hw A h1 (heap_lt h3)).trans h3⟩
/-- The parser elsewhere, all below it being as it was. -/
theorem PSt.moved {w w' : World} {X : PCtx} {p q : PS} {ev : Value} (h : PSt w X p) (hw : ∀ b, b < X.P → w'.heap[b]? = w.heap[b]?) (hz : w.heap.size ≤ w'.heap.size) (hP : PsAt w' X q.pos q.deep ev) (hE : ErrV w' X ev q.err) (hpos : q.pos ≤ X.l.length) : PSt w' X q :=
  ⟨⟨ev, hP, hE⟩, fun j t hj => by
    obtain ⟨g, sa, sc, e1, e2, e3⟩ := h.tk j t hj
    have hk : ∀ k, w'.cell? ⟨g, k, none⟩ = w.cell? ⟨g, k, none⟩ := fun k => World.cell?_of_block (w := w) (hw g e2)
    exact ⟨g, sa, sc, e1, e2, ⟨(hk _).trans e3.c0, (hk _).trans e3.c1, (hk _).trans e3.c2, (hk _).trans e3.c3, (hk _).trans e3.c4, (hk _).trans e3.c5, (hk _).trans e3.c6⟩⟩,
   h.er.keep (fun b hb => hw b (by have := h.room; omega)) hz, h.room, hpos, h.len⟩
theorem size_set (w : World) (a : Addr) (v : Value) : (w.setCell a v).heap.size = w.heap.size := by simp [World.setCell]
theorem Mvd.next {a w : World} {X : PCtx} {p : PS} (h : Mvd a w X p) (hp : p.pos < X.l.length) : Mvd a (w.setCell ⟨X.P, 1, none⟩ (.int .i64 (p.pos + 1 : Nat))) X (nextS p) := by
  obtain ⟨ev, hP, hE⟩ := h.st.at_
  refine ⟨h.st.moved (fun b hb => Below.heap_setCell _ _ _ _ (by show b ≠ X.P; omega)) (by rw [size_set]; exact Nat.le_refl _) (hP.set1 (p.pos + 1)) (hE.keep (fun b hb _ => Below.heap_setCell _ _ _ _ (by show b ≠ X.P; omega))) hp, only_setCell h.grown (.inl rfl) _⟩
theorem Mvd.dive {a w : World} {X : PCtx} {p : PS} (h : Mvd a w X p) (d : Int) : Mvd a (w.setCell ⟨X.P, 2, none⟩ (.int .i64 d)) X { p with deep := d } := by
  obtain ⟨ev, hP, hE⟩ := h.st.at_
  refine ⟨h.st.moved (fun b hb => Below.heap_setCell _ _ _ _ (by show b ≠ X.P; omega)) (by rw [size_set]; exact Nat.le_refl _) (hP.set2 d) (hE.keep (fun b hb _ => Below.heap_setCell _ _ _ _ (by show b ≠ X.P; omega))) h.st.pos, only_setCell h.grown (.inl rfl) _⟩
theorem Mvd.deepErr {a w : World} {X : PCtx} {p : PS} (h : Mvd a w X p) : Mvd a (w.setCell ⟨X.P, 3, none⟩ (.iface 270 (.pointer (some (X.ea 112))))) X { p with err := some none } := by
  obtain ⟨ev, hP, hE⟩ := h.st.at_
  exact ⟨h.st.moved (fun b hb => Below.heap_setCell _ _ _ _ (by show b ≠ X.P; omega)) (by rw [size_set]; exact Nat.le_refl _) (hP.set3 _) rfl h.st.pos, only_setCell h.grown (.inl rfl) _⟩
theorem Mvd.lineErr {a w : World} {X : PCtx} {p : PS} (h : Mvd a w X p) (line : Int) :
    Mvd a ((w.alloc (.cells #[.int .i64 line, .iface 270 (.pointer (some (X.ea 111)))] 73)).setCell ⟨X.P, 3, none⟩ (.iface 70 (.pointer (some ⟨w.heap.size, 0, none⟩)))) X { p with err := some (some line) } := by
  have hlt := h.st.lt
  have h2 := h.alloc (.cells #[.int .i64 line, .iface 270 (.pointer (some (X.ea 111)))] 73)
  obtain ⟨ev, hP, hE⟩ := h2.st.at_
  refine ⟨h2.st.moved (fun b hb => Below.heap_setCell _ _ _ _ (by show b ≠ X.P; omega)) (by rw [size_set]; exact Nat.le_refl _) (hP.set3 _) ⟨w.heap.size, hlt, rfl, ?_⟩ h.st.pos, only_setCell h2.grown (.inl rfl) _⟩
  rw [Below.heap_setCell _ _ _ _ (by show w.heap.size ≠ X.P; omega)]
  exact heap_alloc_new w _

set_option maxRecDepth 100000 in
set_option maxHeartbeats 1000000 in
theorem may_c (X : PCtx) (p : PS) (s : ByteArray) (w : World) (h : PSt w X p) :
    Calls Tryz.prog 65 #[.pointer (some ⟨X.P, 0, none⟩), .string s] w fun e w' => e = .returned (.bool (isS X.l p s.data.toList)) ∧ Mvd w w' X (if isS X.l p s.data.toList then nextS p else p) := by
  have IC := Lib.hid (is_c X p s w h)
  have HM := Lib.hid (Mvd.of h)
  have hlen := h.len
  have HLT := Lib.hid (isS_lt (l := X.l) (p := p) (s := s.data.toList))
  obtain ⟨b, hb⟩ : ∃ b, b = isS X.l p s.data.toList := ⟨_, rfl⟩
  rw [← hb] at IC HLT ⊢
  clear hb h
  cases b with
  | false =>
    go_enter Tryz.func65, Tryz.ntmps65
    go_wp2_with fail
    refine IC.out.mono ?_
    rintro e w1 ⟨rfl, hb1⟩
    have HM1 := Lib.hid (HM.out.below hb1)
    clear hb1
    go_wp2_with fail
    go_ret
    exact ⟨rfl, HM1.out⟩
  | true =>
    have hlt := HLT.out rfl
    go_enter Tryz.func65, Tryz.ntmps65
    go_wp2_with fail
    refine IC.out.mono ?_
    rintro e w1 ⟨rfl, hb1⟩
    have hm1 := HM.out.below hb1
    obtain ⟨ev, hP, hE⟩ := hm1.st.at_
    have c1 := hP.c1
    have f1 := hP.fr 1
    have HM1 := Lib.hid hm1
    clear hb1 hm1 hP hE
    go_wp2_with fail
    go_ret
    exact ⟨rfl, HM1.out.next hlt⟩
end Go.Proofs.YtggngahmafbihaaGreatDoor
namespace Go.Proofs.YtggngahmafbihaaGreatDoor
open Go.RowKit Go.Lib
set_option linter.unusedVariables false

theorem lineS_at {l : List Tok} {p : PS} {t : Tok} (h : l[p.pos]? = some t) : lineS l p = t.line := by unfold lineS; rw [h]
theorem lineS_last {l : List Tok} {p : PS} {t : Tok} (h : l[p.pos]? = none) (hl : l[l.length - 1]? = some t) : lineS l p = t.line := by unfold lineS; rw [h, List.getLast?_eq_getElem?, hl]
theorem lineS_none {l : List Tok} {p : PS} (h : l.length = 0) : lineS l p = 1 := by
  have : l = [] := List.eq_nil_of_length_eq_zero h
  subst this; rfl

set_option maxRecDepth 100000 in
set_option maxHeartbeats 1000000 in
theorem line_pc (X : PCtx) (p : PS) (w : World) (h : PSt w X p) :
    Calls Tryz.prog 64 #[.pointer (some ⟨X.P, 0, none⟩)] w fun e w' => e = .returned (.int .i64 (lineS X.l p)) ∧ Below w.heap.size w w' := by
  obtain ⟨ev, hP, hE⟩ := h.at_
  have c0 := hP.c0; have c1 := hP.c1
  by_cases hp : p.pos < X.l.length
  · obtain ⟨t, ht⟩ := tok_at hp
    obtain ⟨g, sa, sc, hA, hg, t0, t1, t2, t3, t4, t5, t6⟩ := h.tok ht
    have b0 : (0 : Int) ≤ (p.pos : Int) := by omega
    have b1 : (p.pos : Int) < (X.l.length : Int) := by omega
    have HI := Lib.hid (lineS_at ht)
    rw [hA] at c0
    obtain ⟨n, hn⟩ : ∃ n, n = X.l.length := ⟨_, rfl⟩
    obtain ⟨q, hq⟩ : ∃ q, q = p.pos := ⟨_, rfl⟩
    rw [← hn] at c0 b1
    rw [← hq] at c1 b0 b1 t1
    clear h hP hE ht hp hn hq t0 t2 t3 t4 t5 t6
    go_enter Tryz.func64, Tryz.ntmps64
    go_wp2_with fail
    go_quiet (fail)
    go_wp2_with fail
    go_quiet (fail)
    go_wp2_with fail
    go_ret
    exact ⟨ret_int HI.out.symm, rfl, rfl, rfl, Nat.le_refl _, fun _ _ => rfl⟩
  · have hout : X.l[p.pos]? = none := List.getElem?_eq_none (by omega)
    have b2 : ¬ (p.pos : Int) < (X.l.length : Int) := by omega
    by_cases hz : X.l.length = 0
    · have HI := Lib.hid (lineS_none (p := p) hz)
      rw [hz] at c0 b2
      clear h hP hE hp hout hz
      go_enter Tryz.func64, Tryz.ntmps64
      go_wp2_with fail
      go_quiet (fail)
      go_wp2_with fail
      go_ret
      exact ⟨ret_int HI.out.symm, rfl, rfl, rfl, Nat.le_refl _, fun _ _ => rfl⟩
    · obtain ⟨n, hn⟩ : ∃ n, X.l.length = n + 1 := ⟨X.l.length - 1, by omega⟩
      obtain ⟨t, ht⟩ := tok_at (l := X.l) (i := X.l.length - 1) (by omega)
      have HI := Lib.hid (lineS_last hout ht)
      rw [show X.l.length - 1 = n by omega] at ht
      obtain ⟨g, sa, sc, hA, hg, t0, t1, t2, t3, t4, t5, t6⟩ := h.tok ht
      rw [hA] at c0
      rw [hn] at c0 b2
      have b3 : (0 : Int) < ((n + 1 : Nat) : Int) := by omega
      have b0 : (0 : Int) ≤ (n : Int) := by omega
      have b1 : (n : Int) < ((n + 1 : Nat) : Int) := by omega
      have b4 : IntKind.i64.wrap (((n + 1 : Nat) : Int) - 1) = (n : Int) := by
        have := h.len
        rw [show (((n + 1 : Nat) : Int) - 1) = (n : Int) by omega]
        exact IntWalk.i64_in _ ⟨by omega, by omega⟩
      obtain ⟨m, hm⟩ : ∃ m, m = n + 1 := ⟨_, rfl⟩
      rw [← hm] at c0 b2 b3 b1 b4
      clear h hP hE hp hout hz ht hn hm t0 t2 t3 t4 t5 t6
      go_enter Tryz.func64, Tryz.ntmps64
      go_wp2_with fail
      go_quiet (fail)
      go_wp2_with fail
      go_quiet (fail)
      go_wp2_with fail
      go_ret
      exact ⟨ret_int HI.out.symm, rfl, rfl, rfl, Nat.le_refl _, fun _ _ => rfl⟩

theorem failS_none {l : List Tok} {p : PS} (h : p.err = none) : failS l p = { p with err := some (some (lineS l p)) } := by unfold failS; rw [h]; rfl
theorem failS_some {l : List Tok} {p : PS} {e : Option Int} (h : p.err = some e) : failS l p = p := by unfold failS; rw [h]; rfl
set_option maxRecDepth 100000 in
set_option maxHeartbeats 2000000 in
theorem fail_c (X : PCtx) (p : PS) (w : World) (h : PSt w X p) :
    Calls Tryz.prog 27 #[.pointer (some ⟨X.P, 0, none⟩)] w fun e w' => e = .returned (.tuple #[]) ∧ Mvd w w' X (failS X.l p) := by
  have hpl := h.lt
  have hsyn := h.er.syn
  have HM := Lib.hid (Mvd.of h)
  obtain ⟨ev, hP, hE⟩ := h.at_
  have c0 := hP.c0; have c1 := hP.c1; have c3 := hP.c3; have f3 := hP.fr 3
  cases he : p.err with
  | some x =>
    rw [he] at hE
    obtain ⟨t, v, rfl⟩ := errv_some hE
    rw [failS_some he]
    clear h hP hE he
    go_enter Tryz.func27, Tryz.ntmps27
    go_wp2_with fail
    refine bodyPost_ret (results_none rfl _ _ _) rfl ?_
    exact ⟨rfl, HM.out⟩
  | none =>
    rw [he] at hE
    obtain rfl : ev = .nilIface := hE
    rw [failS_none he]
    by_cases hp : p.pos < X.l.length
    · obtain ⟨t, ht⟩ := tok_at hp
      obtain ⟨g, sa, sc, hA, hg, t0, t1, t2, t3, t4, t5, t6⟩ := h.tok ht
      have b0 : (0 : Int) ≤ (p.pos : Int) := by omega
      have b1 : (p.pos : Int) < (X.l.length : Int) := by omega
      rw [lineS_at ht]
      rw [hA] at c0
      obtain ⟨n, hn⟩ : ∃ n, n = X.l.length := ⟨_, rfl⟩
      obtain ⟨q, hq⟩ : ∃ q, q = p.pos := ⟨_, rfl⟩
      rw [← hn] at c0 b1
      rw [← hq] at c1 b0 b1 t1
      have HPP := Lib.hid hP
      clear h hP ht hp hn hq t0 t2 t3 t4 t5 t6
      go_enter Tryz.func27, Tryz.ntmps27
      go_wp2_with fail
      go_quiet (fail)
      go_wp2_with fail
      go_quiet (fail)
      generalize hwq : World.drewN _ _ = wq
      have hbq : Below w.heap.size w wq := by rw [← hwq]; exact ⟨rfl, rfl, rfl, Nat.le_refl _, fun _ _ => rfl⟩
      have HMQ := Lib.hid (HM.out.below hbq)
      have hPq := (hbq.block _ hpl).trans HPP.out
      have k3 := fun o => (PsAt.c3 ((Below.heap_alloc wq o _ (heap_lt hPq)).trans hPq))
      have g3 := fun o => (PsAt.fr ((Below.heap_alloc wq o _ (heap_lt hPq)).trans hPq) 3)
      have ksyn : wq.cell? ⟨1, 0, none⟩ = some (.iface 270 (.pointer (some (X.ea 111)))) := by rw [← hwq]; exact hsyn
      clear hwq hbq hPq
      go_wp2_with fail
      go_end0
      exact ⟨rfl, HMQ.out.lineErr t.line⟩
    · have hout : X.l[p.pos]? = none := List.getElem?_eq_none (by omega)
      have b2 : ¬ (p.pos : Int) < (X.l.length : Int) := by omega
      by_cases hz : X.l.length = 0
      · rw [lineS_none hz]
        rw [hz] at c0 b2
        have HPP := Lib.hid hP
        clear h hP hp hout hz
        go_enter Tryz.func27, Tryz.ntmps27
        go_wp2_with fail
        go_quiet (fail)
        generalize hwq : World.drewN _ _ = wq
        have hbq : Below w.heap.size w wq := by rw [← hwq]; exact ⟨rfl, rfl, rfl, Nat.le_refl _, fun _ _ => rfl⟩
        have HMQ := Lib.hid (HM.out.below hbq)
        have hPq := (hbq.block _ hpl).trans HPP.out
        have k3 := fun o => (PsAt.c3 ((Below.heap_alloc wq o _ (heap_lt hPq)).trans hPq))
        have g3 := fun o => (PsAt.fr ((Below.heap_alloc wq o _ (heap_lt hPq)).trans hPq) 3)
        have ksyn : wq.cell? ⟨1, 0, none⟩ = some (.iface 270 (.pointer (some (X.ea 111)))) := by rw [← hwq]; exact hsyn
        have kc0 : wq.cell? ⟨X.P, 0, none⟩ = some (.slice X.A 0 X.c) := by rw [← hwq]; exact c0
        clear hwq hbq hPq
        go_wp2_with fail
        go_end0
        exact ⟨rfl, HMQ.out.lineErr 1⟩
      · obtain ⟨n, hn⟩ : ∃ n, X.l.length = n + 1 := ⟨X.l.length - 1, by omega⟩
        obtain ⟨t, ht⟩ := tok_at (l := X.l) (i := X.l.length - 1) (by omega)
        rw [lineS_last hout ht]
        rw [show X.l.length - 1 = n by omega] at ht
        obtain ⟨g, sa, sc, hA, hg, t0, t1, t2, t3, t4, t5, t6⟩ := h.tok ht
        rw [hA] at c0
        rw [hn] at c0 b2
        have b3 : (0 : Int) < ((n + 1 : Nat) : Int) := by omega
        have b0 : (0 : Int) ≤ (n : Int) := by omega
        have b1 : (n : Int) < ((n + 1 : Nat) : Int) := by omega
        have b4 : IntKind.i64.wrap (((n + 1 : Nat) : Int) - 1) = (n : Int) := by
          have := h.len
          rw [show (((n + 1 : Nat) : Int) - 1) = (n : Int) by omega]
          exact IntWalk.i64_in _ ⟨by omega, by omega⟩
        obtain ⟨m, hm⟩ : ∃ m, m = n + 1 := ⟨_, rfl⟩
        rw [← hm] at c0 b2 b3 b1 b4
        have HPP := Lib.hid hP
        clear h hP hp hout hz ht hn hm t0 t2 t3 t4 t5 t6
        go_enter Tryz.func27, Tryz.ntmps27
        go_wp2_with fail
        go_quiet (fail)
        go_wp2_with fail
        go_quiet (fail)
        generalize hwq : World.drewN _ _ = wq
        have hbq : Below w.heap.size w wq := by rw [← hwq]; exact ⟨rfl, rfl, rfl, Nat.le_refl _, fun _ _ => rfl⟩
        have HMQ := Lib.hid (HM.out.below hbq)
        have hPq := (hbq.block _ hpl).trans HPP.out
        have k3 := fun o => (PsAt.c3 ((Below.heap_alloc wq o _ (heap_lt hPq)).trans hPq))
        have g3 := fun o => (PsAt.fr ((Below.heap_alloc wq o _ (heap_lt hPq)).trans hPq) 3)
        have ksyn : wq.cell? ⟨1, 0, none⟩ = some (.iface 270 (.pointer (some (X.ea 111)))) := by rw [← hwq]; exact hsyn
        clear hwq hbq hPq
        go_wp2_with fail
        go_end0
        exact ⟨rfl, HMQ.out.lineErr t.line⟩

set_option maxHeartbeats 1000000 in
theorem must_c (X : PCtx) (p : PS) (s : ByteArray) (w : World) (h : PSt w X p) :
    Calls Tryz.prog 66 #[.pointer (some ⟨X.P, 0, none⟩), .string s] w fun e w' => e = .returned (.tuple #[]) ∧ Mvd w w' X (mustS X.l p s.data.toList) := by
  have MC := Lib.hid (may_c X p s w h)
  unfold mustS
  obtain ⟨b, hb⟩ : ∃ b, b = isS X.l p s.data.toList := ⟨_, rfl⟩
  rw [← hb] at MC ⊢
  clear hb h
  cases b with
  | true =>
    go_enter Tryz.func66, Tryz.ntmps66
    go_wp2_with fail
    refine MC.out.mono ?_
    rintro e w1 ⟨rfl, hm⟩
    have HM := Lib.hid hm
    clear hm
    go_wp2_with fail
    go_end0
    exact ⟨rfl, HM.out⟩
  | false =>
    go_enter Tryz.func66, Tryz.ntmps66
    go_wp2_with fail
    refine MC.out.mono ?_
    rintro e w1 ⟨rfl, hm⟩
    have FC := Lib.hid (fail_c X p w1 hm.st)
    have HM := Lib.hid hm
    clear hm
    go_wp2_with fail
    refine FC.out.mono ?_
    rintro e w2 ⟨rfl, hm2⟩
    have HM2 := Lib.hid (HM.out.trans hm2)
    clear hm2
    go_wp2_with fail
    go_end0
    exact ⟨rfl, HM2.out⟩

theorem downS_ok {p : PS} (h : p.err = none) (hd : p.deep + 1 ≤ 160) : downS p = { p with deep := p.deep + 1 } := by unfold downS; rw [if_neg (by rintro ⟨a, _⟩; omega)]
theorem downS_far {p : PS} (h : p.err = none) (hd : 160 < p.deep + 1) : downS p = { p with deep := p.deep + 1, err := some none } := by unfold downS; rw [if_pos ⟨hd, by rw [h]; rfl⟩]
theorem downS_bad {p : PS} {e : Option Int} (h : p.err = some e) : downS p = { p with deep := p.deep + 1 } := by unfold downS; rw [if_neg (by rintro ⟨_, a⟩; rw [h] at a; cases a)]
set_option maxHeartbeats 1000000 in
theorem down_c (X : PCtx) (p : PS) (w : World) (h : PSt w X p) (h0 : 0 ≤ p.deep) (h1 : p.deep ≤ 1000) :
    Calls Tryz.prog 59 #[.pointer (some ⟨X.P, 0, none⟩)] w fun e w' => e = .returned (.bool (downS p).err.isNone) ∧ Mvd w w' X (downS p) := by
  have hpl := h.lt
  have hrm := h.room
  have hdp := h.er.deep
  have HM := Lib.hid (Mvd.of h)
  obtain ⟨ev, hP, hE⟩ := h.at_
  have c2 := hP.c2; have c3 := hP.c3; have f3 := hP.fr 3; have f2 := hP.fr 2
  obtain ⟨d, hd⟩ : ∃ d, d = p.deep := ⟨_, rfl⟩
  have b0 : IntKind.i64.wrap (d + 1) = d + 1 := IntWalk.i64_in _ ⟨by omega, by omega⟩
  cases he : p.err with
  | some x =>
    rw [he] at hE
    obtain ⟨t, v, rfl⟩ := errv_some hE
    rw [downS_bad he, he]
    have HD := Lib.hid (HM.out.dive (d + 1))
    rw [he] at HD
    rw [← hd] at h0 h1 c2 ⊢
    clear h hP hE he hd
    by_cases hx : (160 : Int) < d + 1
    · go_enter Tryz.func59, Tryz.ntmps59
      go_wp2_with fail
      go_ret
      exact ⟨rfl, HD.out⟩
    · go_enter Tryz.func59, Tryz.ntmps59
      go_wp2_with fail
      go_ret
      exact ⟨rfl, HD.out⟩
  | none =>
    rw [he] at hE
    obtain rfl : ev = .nilIface := hE
    have HD := Lib.hid (HM.out.dive (d + 1))
    rw [he] at HD
    by_cases hx : (160 : Int) < d + 1
    · rw [downS_far he (by omega)]
      have HX := Lib.hid HD.out.deepErr
      rw [← hd] at h0 h1 c2 ⊢
      clear h hP he hd
      go_enter Tryz.func59, Tryz.ntmps59
      go_wp2_with fail
      go_ret
      exact ⟨rfl, HX.out⟩
    · rw [downS_ok he (by omega), he]
      rw [← hd] at h0 h1 c2 ⊢
      clear h hP he hd
      go_enter Tryz.func59, Tryz.ntmps59
      go_wp2_with fail
      go_ret
      exact ⟨rfl, HD.out⟩

set_option maxHeartbeats 1000000 in
theorem up_c (X : PCtx) (p : PS) (w : World) (h : PSt w X p) (h0 : 0 ≤ p.deep) (h1 : p.deep ≤ 1000) :
    Calls Tryz.prog 60 #[.pointer (some ⟨X.P, 0, none⟩)] w fun e w' => e = .returned (.tuple #[]) ∧ Mvd w w' X (upS p) := by
  have HD := Lib.hid ((Mvd.of h).dive (p.deep - 1))
  obtain ⟨ev, hP, hE⟩ := h.at_
  have c2 := hP.c2; have f2 := hP.fr 2
  have b0 : IntKind.i64.wrap (p.deep - 1) = p.deep - 1 := IntWalk.i64_in _ ⟨by omega, by omega⟩
  unfold upS
  clear h hP hE
  go_enter Tryz.func60, Tryz.ntmps60
  go_wp2_with fail
  go_end0
  exact ⟨rfl, HD.out⟩
end Go.Proofs.YtggngahmafbihaaGreatDoor
namespace Go.Proofs.YtggngahmafbihaaGreatDoor
open Go.RowKit Go.Lib
set_option linter.unusedVariables false

end Go.Proofs.YtggngahmafbihaaGreatDoor
