/- Contracts of the functions that the statement reaches, and the plain mathematics beneath: several texts joined. -/
import Derived.Below
import Derived.Laws.OwnMore
import Derived.Laws.Rows
import Derived.Deep.Draws
import Derived.Test.YtggngahmafbihaaGreatDoorProg
import Derived.WalkKit
import Derived.WalkSpells
import Derived.Lib.Hide
import Derived.BigQuiet
import Derived.Deep.QuietTactic
import Derived.RegionTactic
import Derived.BigRegion
import Derived.Outline
import Derived.Deep.LoopGhost
import Derived.IntWalk
import Derived.Laws.AppendOwn
import Derived.OwnWalk
import Derived.Laws.IdiomStrings
import Derived.Laws.BytesArg
import Derived.Handy
import Derived.WalkSmall
namespace Go.Proofs.YtggngahmafbihaaGreatDoor
open Go.RowKit

/-- A list of values: each has a kind, a number, a text and items. -/
inductive VL where
  | nil : VL
  | cons (k n : Int) (s : ByteArray) (sub : VL) (rest : VL) : VL

namespace VL
def len : VL → Nat
  | .nil => 0
  | .cons _ _ _ _ r => r.len + 1
def app : VL → VL → VL
  | .nil, b => b
  | .cons k n s sub r, b => .cons k n s sub (r.app b)
theorem app_nil : ∀ a : VL, a.app .nil = a
  | .nil => rfl
  | .cons k n s sub r => by rw [app, app_nil r]
theorem len_app : ∀ a b : VL, (a.app b).len = a.len + b.len
  | .nil, b => by simp [app, len]
  | .cons k n s sub r, b => by simp [app, len, len_app r]; omega
def take : Nat → VL → VL
  | 0, _ => .nil
  | _ + 1, .nil => .nil
  | i + 1, .cons k n s sub r => .cons k n s sub (r.take i)
def drop : Nat → VL → VL
  | 0, l => l
  | _ + 1, .nil => .nil
  | i + 1, .cons _ _ _ _ r => r.drop i
theorem drop_len : ∀ l : VL, l.drop l.len = .nil
  | .nil => rfl
  | .cons k n s sub r => by rw [len, drop, drop_len r]
theorem take_len : ∀ l : VL, l.take l.len = l
  | .nil => rfl
  | .cons k n s sub r => by rw [len, take, take_len r]
theorem len_drop : ∀ (i : Nat) (l : VL), (l.drop i).len = l.len - i
  | 0, l => by rw [drop]; rfl
  | i + 1, .nil => by simp [drop, len]
  | i + 1, .cons k n s sub r => by rw [drop, len_drop i r, len]; omega
theorem drop_of_lt : ∀ (i : Nat) (l : VL), i < l.len → ∃ k n s sub, l.drop i = .cons k n s sub (l.drop (i + 1))
  | _, .nil, h => by simp [len] at h
  | 0, .cons k n s sub r, _ => ⟨k, n, s, sub, by rw [drop, drop, drop]⟩
  | i + 1, .cons k n s sub r, h => by
    rw [len] at h
    obtain ⟨k', n', s', sub', e⟩ := drop_of_lt i r (by omega)
    exact ⟨k', n', s', sub', by rw [drop, drop, e]⟩
theorem take_succ : ∀ (i : Nat) (l : VL) (k n : Int) (s : ByteArray) (sub : VL), l.drop i = .cons k n s sub (l.drop (i + 1)) → l.take (i + 1) = (l.take i).app (.cons k n s sub .nil)
  | 0, .nil, k, n, s, sub, h => by simp [drop] at h
  | 0, .cons k n s sub r, k', n', s', sub', h => by
    simp only [drop] at h
    injection h with h1 h2 h3 h4 _
    subst h1; subst h2; subst h3; subst h4
    simp [take, app]
  | i + 1, .nil, k, n, s, sub, h => by simp [drop] at h
  | i + 1, .cons k0 n0 s0 sub0 r, k, n, s, sub, h => by
    rw [drop, drop] at h
    rw [take, take_succ i r k n s sub h, take, app]
end VL

/-- A list of values in memory: its cells, from an address on; all in blocks of a sort. -/
def RpL (w : World) (S : Nat → Prop) : VL → Option Addr → Prop
  | .nil, _ => True
  | .cons k n s sub rest, A => ∃ (b o : Nat) (sa : Option Addr) (sc : Nat), A = some ⟨b, o, none⟩ ∧ S b ∧
      w.cell? ⟨b, o, none⟩ = some (.int .i64 k) ∧ w.cell? ⟨b, o + 1, none⟩ = some (.int .i64 n) ∧ w.cell? ⟨b, o + 2, none⟩ = some (.string s) ∧
      w.cell? ⟨b, o + 3, none⟩ = some (.slice sa sub.len sc) ∧ sub.len ≤ sc ∧ RpL w S sub sa ∧ RpL w S rest (some ⟨b, o + 4, none⟩)

theorem RpL.keep {w w' : World} {S S' : Nat → Prop} (hw : ∀ b, S b → w'.heap[b]? = w.heap[b]?) (hS : ∀ b, S b → S' b) : ∀ (l : VL) (A : Option Addr), RpL w S l A → RpL w' S' l A
  | .nil, _, _ => trivial
  | .cons k n s sub rest, A, ⟨b, o, sa, sc, hA, hb, h0, h1, h2, h3, hc, hs, hr⟩ => by
    have hk : ∀ p : Addr, p.block = b → w'.cell? p = w.cell? p := fun p hp => World.cell?_of_block (w := w) (hw p.block (by rw [hp]; exact hb))
    exact ⟨b, o, sa, sc, hA, hS b hb, (hk _ rfl).trans h0, (hk _ rfl).trans h1, (hk _ rfl).trans h2, (hk _ rfl).trans h3, hc, RpL.keep hw hS sub sa hs, RpL.keep hw hS rest _ hr⟩

theorem RpL.below {w w' : World} {S : Nat → Prop} {B : Nat} {l : VL} {A : Option Addr} (h : RpL w S l A) (hb : Below B w w') (hS : ∀ b, S b → b < B) : RpL w' S l A :=
  h.keep (fun b hbS => hb.block b (hS b hbS)) (fun _ h => h)

theorem RpL.grown {w w' : World} {S : Nat → Prop} {R : Option Nat} {l : VL} {A : Option Addr} (h : RpL w S l A) (hb : w.grownBy w' R) (hS : ∀ b, S b → b < w.heap.size ∧ some b ≠ R) : RpL w' S l A :=
  h.keep (fun b hbS => hb.block b (hS b hbS).1 (hS b hbS).2) (fun _ h => h)

theorem RpL.wide {w : World} {S S' : Nat → Prop} {l : VL} {A : Option Addr} (h : RpL w S l A) (hS : ∀ b, S b → S' b) : RpL w S' l A := h.keep (fun _ _ => rfl) hS

/-- The i-th value of a list in memory. -/
theorem RpL.drop {w : World} {S : Nat → Prop} : ∀ (i : Nat) (l : VL) (b o : Nat), RpL w S l (some ⟨b, o, none⟩) → RpL w S (l.drop i) (some ⟨b, o + 4 * i, none⟩)
  | 0, l, b, o, h => by rw [VL.drop]; exact h
  | i + 1, .nil, _, _, _ => by rw [VL.drop]; trivial
  | i + 1, .cons k n s sub r, b, o, ⟨b', o', sa, sc, hA, _, _, _, _, _, _, _, hr⟩ => by
    injection hA with hA
    injection hA with h1 h2
    subst h1; subst h2
    have := RpL.drop i r b (o + 4) hr
    rw [VL.drop]
    rw [show o + 4 * (i + 1) = o + 4 + 4 * i from by omega]
    exact this
end Go.Proofs.YtggngahmafbihaaGreatDoor
namespace Go.Proofs.YtggngahmafbihaaGreatDoor

/-- A word: its kind, line, text, and the value of a literal. -/
structure Tok where
  kind : Int
  line : Int
  s : ByteArray
  k : Int
  n : Int
  t : ByteArray
end Go.Proofs.YtggngahmafbihaaGreatDoor
namespace Go.Proofs.YtggngahmafbihaaGreatDoor
open Go.RowKit

/-- A list of nodes: each has what it is, a line, a name, a value (kind, number, text, items), and nodes. -/
inductive NL where
  | nil : NL
  | cons (op ln : Int) (s : ByteArray) (k n : Int) (t : ByteArray) (v : VL) (sub : NL) (rest : NL) : NL

namespace NL
def len : NL → Nat
  | .nil => 0
  | .cons _ _ _ _ _ _ _ _ r => r.len + 1
def app : NL → NL → NL
  | .nil, b => b
  | .cons op ln s k n t v sub r, b => .cons op ln s k n t v sub (r.app b)
theorem app_nil : ∀ a : NL, a.app .nil = a
  | .nil => rfl
  | .cons op ln s k n t v sub r => by rw [app, app_nil r]
theorem len_app : ∀ a b : NL, (a.app b).len = a.len + b.len
  | .nil, b => by simp [app, len]
  | .cons op ln s k n t v sub r, b => by simp [app, len, len_app r]; omega
def take : Nat → NL → NL
  | 0, _ => .nil
  | _ + 1, .nil => .nil
  | i + 1, .cons op ln s k n t v sub r => .cons op ln s k n t v sub (r.take i)
def drop : Nat → NL → NL
  | 0, l => l
  | _ + 1, .nil => .nil
  | i + 1, .cons _ _ _ _ _ _ _ _ r => r.drop i
theorem drop_len : ∀ l : NL, l.drop l.len = .nil
  | .nil => rfl
  | .cons op ln s k n t v sub r => by rw [len, drop, drop_len r]
theorem take_len : ∀ l : NL, l.take l.len = l
  | .nil => rfl
  | .cons op ln s k n t v sub r => by rw [len, take, take_len r]
theorem len_drop : ∀ (i : Nat) (l : NL), (l.drop i).len = l.len - i
  | 0, l => by rw [drop]; rfl
  | i + 1, .nil => by simp [drop, len]
  | i + 1, .cons op ln s k n t v sub r => by rw [drop, len_drop i r, len]; omega
theorem drop_of_lt : ∀ (i : Nat) (l : NL), i < l.len → ∃ op ln s k n t v sub, l.drop i = .cons op ln s k n t v sub (l.drop (i + 1))
  | _, .nil, h => by simp [len] at h
  | 0, .cons op ln s k n t v sub r, _ => ⟨op, ln, s, k, n, t, v, sub, by rw [drop, drop, drop]⟩
  | i + 1, .cons op ln s k n t v sub r, h => by
    rw [len] at h
    obtain ⟨op', ln', s', k', n', t', v', sub', e⟩ := drop_of_lt i r (by omega)
    exact ⟨op', ln', s', k', n', t', v', sub', by rw [drop, drop, e]⟩
theorem take_succ : ∀ (i : Nat) (l : NL) (op ln : Int) (s : ByteArray) (k n : Int) (t : ByteArray) (v : VL) (sub : NL), l.drop i = .cons op ln s k n t v sub (l.drop (i + 1)) → l.take (i + 1) = (l.take i).app (.cons op ln s k n t v sub .nil)
  | 0, .nil, op, ln, s, k, n, t, v, sub, h => by simp [drop] at h
  | 0, .cons op ln s k n t v sub r, op', ln', s', k', n', t', v', sub', h => by
    simp only [drop] at h
    injection h with h1 h2 h3 h4 h5 h6 h7 h8 _
    subst h1; subst h2; subst h3; subst h4; subst h5; subst h6; subst h7; subst h8
    simp [take, app]
  | i + 1, .nil, op, ln, s, k, n, t, v, sub, h => by simp [drop] at h
  | i + 1, .cons op0 ln0 s0 k0 n0 t0 v0 sub0 r, op, ln, s, k, n, t, v, sub, h => by
    rw [drop, drop] at h
    rw [take, take_succ i r op ln s k n t v sub h, take, app]
end NL

/-- A list of nodes in memory: its cells, from an address on; all in blocks of a sort. -/
def RpN (w : World) (S : Nat → Prop) : NL → Option Addr → Prop
  | .nil, _ => True
  | .cons op ln s k n t v sub rest, A => ∃ (b o : Nat) (va : Option Addr) (vc : Nat) (sa : Option Addr) (sc : Nat), A = some ⟨b, o, none⟩ ∧ S b ∧
      w.cell? ⟨b, o, none⟩ = some (.int .i64 op) ∧ w.cell? ⟨b, o + 1, none⟩ = some (.int .i64 ln) ∧ w.cell? ⟨b, o + 2, none⟩ = some (.string s) ∧
      w.cell? ⟨b, o + 3, none⟩ = some (.int .i64 k) ∧ w.cell? ⟨b, o + 4, none⟩ = some (.int .i64 n) ∧ w.cell? ⟨b, o + 5, none⟩ = some (.string t) ∧
      w.cell? ⟨b, o + 6, none⟩ = some (.slice va v.len vc) ∧ v.len ≤ vc ∧ RpL w S v va ∧
      w.cell? ⟨b, o + 7, none⟩ = some (.slice sa sub.len sc) ∧ sub.len ≤ sc ∧ RpN w S sub sa ∧ RpN w S rest (some ⟨b, o + 8, none⟩)

theorem RpN.keep {w w' : World} {S S' : Nat → Prop} (hw : ∀ b, S b → w'.heap[b]? = w.heap[b]?) (hS : ∀ b, S b → S' b) : ∀ (l : NL) (A : Option Addr), RpN w S l A → RpN w' S' l A
  | .nil, _, _ => trivial
  | .cons op ln s k n t v sub rest, A, ⟨b, o, va, vc, sa, sc, hA, hb, h0, h1, h2, h3, h4, h5, h6, hv, hvr, h7, hc, hs, hr⟩ => by
    have hk : ∀ p : Addr, p.block = b → w'.cell? p = w.cell? p := fun p hp => World.cell?_of_block (w := w) (hw p.block (by rw [hp]; exact hb))
    exact ⟨b, o, va, vc, sa, sc, hA, hS b hb, (hk _ rfl).trans h0, (hk _ rfl).trans h1, (hk _ rfl).trans h2, (hk _ rfl).trans h3, (hk _ rfl).trans h4, (hk _ rfl).trans h5, (hk _ rfl).trans h6, hv, RpL.keep hw hS v va hvr, (hk _ rfl).trans h7, hc, RpN.keep hw hS sub sa hs, RpN.keep hw hS rest _ hr⟩

theorem RpN.below {w w' : World} {S : Nat → Prop} {B : Nat} {l : NL} {A : Option Addr} (h : RpN w S l A) (hb : Below B w w') (hS : ∀ b, S b → b < B) : RpN w' S l A :=
  h.keep (fun b hbS => hb.block b (hS b hbS)) (fun _ h => h)

theorem RpN.grown {w w' : World} {S : Nat → Prop} {R : Option Nat} {l : NL} {A : Option Addr} (h : RpN w S l A) (hb : w.grownBy w' R) (hS : ∀ b, S b → b < w.heap.size ∧ some b ≠ R) : RpN w' S l A :=
  h.keep (fun b hbS => hb.block b (hS b hbS).1 (hS b hbS).2) (fun _ h => h)

theorem RpN.wide {w : World} {S S' : Nat → Prop} {l : NL} {A : Option Addr} (h : RpN w S l A) (hS : ∀ b, S b → S' b) : RpN w S' l A := h.keep (fun _ _ => rfl) hS

/-- The i-th node of a list in memory. -/
theorem RpN.drop {w : World} {S : Nat → Prop} : ∀ (i : Nat) (l : NL) (b o : Nat), RpN w S l (some ⟨b, o, none⟩) → RpN w S (l.drop i) (some ⟨b, o + 8 * i, none⟩)
  | 0, l, b, o, h => by rw [NL.drop]; exact h
  | i + 1, .nil, _, _, _ => by rw [NL.drop]; trivial
  | i + 1, .cons op ln s k n t v sub r, b, o, ⟨b', o', va, vc, sa, sc, hA, _, _, _, _, _, _, _, _, _, _, _, _, _, hr⟩ => by
    injection hA with hA
    injection hA with h1 h2
    subst h1; subst h2
    have := RpN.drop i r b (o + 8) hr
    rw [NL.drop]
    rw [show o + 8 * (i + 1) = o + 8 + 8 * i from by omega]
    exact this
end Go.Proofs.YtggngahmafbihaaGreatDoor
namespace Go.Proofs.YtggngahmafbihaaGreatDoor

/-- Where the parser stands, how deep, and what is amiss: with a line, or too deep. -/
structure PS where
  pos : Nat
  deep : Int
  err : Option (Option Int)
def nd (op ln : Int) (s : ByteArray) (k n : Int) (t : ByteArray) (sub : NL) : NL := .cons op ln s k n t .nil sub .nil
def nd0 : NL := nd 0 0 ⟨#[]⟩ 0 0 ⟨#[]⟩ .nil
def ndL (op ln : Int) (sub : NL) : NL := nd op ln ⟨#[]⟩ 0 0 ⟨#[]⟩ sub
def NL.op : NL → Int
  | .nil => 0
  | .cons op _ _ _ _ _ _ _ _ => op
def NL.line : NL → Int
  | .nil => 0
  | .cons _ ln _ _ _ _ _ _ _ => ln
def NL.kids : NL → NL
  | .nil => .nil
  | .cons _ _ _ _ _ _ _ sub _ => sub
def lineS (l : List Tok) (p : PS) : Int := match l[p.pos]? with
  | some t => t.line
  | none => match l.getLast? with
    | some t => t.line
    | none => 1
def failS (l : List Tok) (p : PS) : PS := if p.err.isSome then p else { p with err := some (some (lineS l p)) }
def isS (l : List Tok) (p : PS) (s : List UInt8) : Bool := p.err.isNone && match l[p.pos]? with
  | some t => (t.kind == 4 || t.kind == 2) && t.s.data.toList == s
  | none => false
def nextS (p : PS) : PS := { p with pos := p.pos + 1 }
def mustS (l : List Tok) (p : PS) (s : List UInt8) : PS := if isS l p s then nextS p else failS l p
def nameS (l : List Tok) (p : PS) : ByteArray × PS := match p.err, l[p.pos]? with
  | none, some t => if t.kind == 1 then (t.s, nextS p) else (⟨#[]⟩, failS l p)
  | _, _ => (⟨#[]⟩, failS l p)
def downS (p : PS) : PS := if 160 < p.deep + 1 ∧ p.err.isNone then { p with deep := p.deep + 1, err := some none } else { p with deep := p.deep + 1 }
def upS (p : PS) : PS := { p with deep := p.deep - 1 }
def settableS : NL → Bool
  | .nil => false
  | .cons op _ _ _ _ _ _ sub _ => if op = 20 then settableS sub else op == 2 || op == 22
def varsS : NL → Bool
  | .nil => true
  | .cons op _ _ _ _ _ _ sub r => (match r with | .nil => (if op = 26 then sub.op == 2 else op == 2) | _ => op == 2) && varsS r
/-- What stands left of a sign to set. -/
def targetS (n : NL) : Option (Int × NL) := if settableS n then some (27, n) else if n.op = 25 ∧ n.kids.len ≠ 0 ∧ varsS n.kids = true then some (28, n.kids) else none
def levelS : Nat → List (List UInt8 × Int)
  | 0 => [([124, 124], 18)]
  | 1 => [([38, 38], 17)]
  | 2 => [([61, 61], 10), ([33, 61], 11), ([60], 12), ([60, 61], 13), ([62], 14), ([62, 61], 15), ([105, 110], 16)]
  | 3 => [([43], 5), ([45], 6)]
  | 4 => [([42], 7), ([47], 8), ([37], 9)]
  | _ => []
def atInt (l : List Tok) (i : Nat) : Bool := match l[i]? with
  | some t => t.kind == 3 && t.k == 0
  | none => false

/-- What is read. -/
inductive Req where
  | expr | cond | two (k : Nat) | twoL (k : Nat) (n : NL) | one | part | behind (n : NL) | items (e : List UInt8) | row (acc : NL) | codes | codesL (out : NL) (acc : NL) | first | within (e : List UInt8) | caught (line : Int)
  | block (ends : List (List UInt8)) | blockL (ends : List (List UInt8)) (acc : NL) | head | stmt | ifsL (acc : NL) | tryL (acc : NL)

def K_endwhile : List UInt8 := [101, 110, 100, 119, 104, 105, 108, 101]
def K_endfork : List UInt8 := [101, 110, 100, 102, 111, 114, 107]
def K_endfor : List UInt8 := [101, 110, 100, 102, 111, 114]
def K_endif : List UInt8 := [101, 110, 100, 105, 102]
def K_elseif : List UInt8 := [101, 108, 115, 101, 105, 102]
def K_else : List UInt8 := [101, 108, 115, 101]
def K_except : List UInt8 := [101, 120, 99, 101, 112, 116]
def K_finally : List UInt8 := [102, 105, 110, 97, 108, 108, 121]
def K_endtry : List UInt8 := [101, 110, 100, 116, 114, 121]

def prsR (l : List Tok) : Nat → Req → PS → Option (NL × PS)
  | 0, _, _ => none
  | f + 1, .expr, p =>
    (prsR l f .cond p).bind fun (n, p) =>
    if !isS l p [61] then some (n, p)
    else match targetS n with
      | none => some (n, failS l p)
      | some (op, tl) =>
        let p := downS (nextS p)
        if p.err.isNone then
          (prsR l f .expr p).bind fun (x, p) =>
          some (ndL op n.line (tl.app x), upS p)
        else some (ndL op n.line tl, upS p)
  | f + 1, .cond, p =>
    (prsR l f (.two 0) p).bind fun (n, p) =>
    if !isS l p [63] then some (n, p)
    else
      let p := downS (nextS p)
      if p.err.isNone then
        (prsR l f .expr p).bind fun (x, p) =>
        let p := mustS l p [124]
        (prsR l f .cond p).bind fun (y, p) =>
        some (ndL 19 n.line ((n.app x).app y), upS p)
      else some (ndL 19 n.line n, upS p)
  | f + 1, .two k, p =>
    if k ≥ 5 then prsR l f .one p
    else
      (prsR l f (.two (k + 1)) p).bind fun (n, p) =>
      prsR l f (.twoL k n) p
  | f + 1, .twoL k n, p => match (levelS k).find? (fun x => isS l p x.1) with
    | none => some (n, p)
    | some (_, op) =>
      (prsR l f (.two (k + 1)) (nextS p)).bind fun (y, p) =>
      prsR l f (.twoL k (ndL op n.line (n.app y))) p
  | f + 1, .one, p =>
    let line := lineS l p
    if isS l p [45] && atInt l (p.pos + 1) then
      match l[p.pos + 1]? with
      | some t => prsR l f (.behind (nd 1 line ⟨#[]⟩ t.k (RowKit.wrap64 (-t.n)) t.t .nil)) (nextS (nextS p))
      | none => some (nd0, p)
    else if isS l p [45] then
      let p := downS (nextS p)
      if p.err.isNone then
        (prsR l f .one p).bind fun (x, p) =>
        some (ndL 3 line x, upS p)
      else some (ndL 3 line .nil, upS p)
    else if isS l p [33] then
      let p := downS (nextS p)
      if p.err.isNone then
        (prsR l f .one p).bind fun (x, p) =>
        some (ndL 4 line x, upS p)
      else some (ndL 4 line .nil, upS p)
    else
      (prsR l f .first p).bind fun (n, p) =>
      prsR l f (.behind n) p
  | f + 1, .part, p =>
    if isS l p [40] then prsR l f (.within [41]) (nextS p)
    else
      let line := lineS l p
      let (s, p) := nameS l p
      some (nd 1 line ⟨#[]⟩ 2 0 s .nil, p)
  | f + 1, .behind n, p =>
    if p.err.isSome then some (n, p)
    else if isS l p [91] then
      let p := downS (nextS p)
      if p.err.isNone then
        (prsR l f .expr p).bind fun (x, p) =>
        if isS l p [46, 46] then
          (prsR l f .expr (nextS p)).bind fun (y, p) =>
          prsR l f (.behind (ndL 21 n.line ((n.app x).app y))) (mustS l (upS p) [93])
        else prsR l f (.behind (ndL 20 n.line (n.app x))) (mustS l (upS p) [93])
      else prsR l f (.behind (ndL 20 n.line n)) (mustS l (upS p) [93])
    else if isS l p [46] then
      (prsR l f .part (nextS p)).bind fun (x, p) =>
      prsR l f (.behind (ndL 22 n.line (n.app x))) p
    else if isS l p [58] then
      (prsR l f .part (nextS p)).bind fun (x, p) =>
      let p := mustS l p [40]
      (prsR l f (.items [41]) p).bind fun (y, p) =>
      prsR l f (.behind (ndL 23 n.line ((n.app x).app y))) p
    else some (n, p)
  | f + 1, .items e, p =>
    let p := downS p
    if p.err.isNone && !isS l p e then
      (prsR l f (.row .nil) p).bind fun (x, p) =>
      some (x, mustS l (upS p) e)
    else some (.nil, mustS l (upS p) e)
  | f + 1, .row acc, p =>
    if p.err.isSome then some (acc, p)
    else
      let line := lineS l p
      if isS l p [64] then
        (prsR l f .expr (nextS p)).bind fun (x, p) =>
        let acc := acc.app (ndL 26 line x)
        if isS l p [44] then prsR l f (.row acc) (nextS p) else some (acc, p)
      else
        (prsR l f .expr p).bind fun (x, p) =>
        let acc := acc.app x
        if isS l p [44] then prsR l f (.row acc) (nextS p) else some (acc, p)
  | f + 1, .codes, p =>
    let line := lineS l p
    if isS l p [97, 110, 121] then some (ndL 25 line .nil, nextS p)
    else
      (prsR l f (.codesL .nil .nil) p).bind fun (x, p) =>
      some (ndL 25 line x, p)
  | f + 1, .codesL o acc, p =>
    if p.err.isSome then some (acc, p)
    else
      (prsR l f .expr p).bind fun (x, p) =>
      let acc := acc.app x
      if isS l p [44] then prsR l f (.codesL o acc) (nextS p) else some (acc, p)
  | f + 1, .first, p =>
    let line := lineS l p
    match p.err, l[p.pos]? with
    | none, some t =>
      if t.kind == 3 then some (nd 1 line ⟨#[]⟩ t.k t.n t.t .nil, nextS p)
      else if t.kind == 1 then
        let p := nextS p
        if isS l p [40] then
          (prsR l f (.items [41]) (nextS p)).bind fun (x, p) =>
          some (nd 24 line t.s 0 0 ⟨#[]⟩ x, p)
        else some (nd 2 line t.s 0 0 ⟨#[]⟩ .nil, p)
      else if isS l p [123] then
        (prsR l f (.items [125]) (nextS p)).bind fun (x, p) =>
        some (ndL 25 line x, p)
      else if isS l p [40] then prsR l f (.within [41]) (nextS p)
      else if isS l p [36] then
        let p := nextS p
        let at_ := lineS l p
        let (s, p) := nameS l p
        some (ndL 22 line ((nd 1 line ⟨#[]⟩ 1 0 ⟨#[]⟩ .nil).app (nd 1 at_ ⟨#[]⟩ 2 0 s .nil)), p)
      else if isS l p [96] then prsR l f (.caught line) (nextS p)
      else some (nd0, failS l p)
    | _, _ => some (nd0, failS l p)
  | f + 1, .within e, p =>
    let p := downS p
    if p.err.isNone then
      (prsR l f .expr p).bind fun (x, p) =>
      some (x, mustS l (upS p) e)
    else some (nd0, mustS l (upS p) e)
  | f + 1, .caught line, p =>
    let p := downS p
    if p.err.isNone then
      (prsR l f .expr p).bind fun (x, p) =>
      let p := mustS l p [33]
      (prsR l f .codes p).bind fun (y, p) =>
      if isS l p [61, 62] then
        (prsR l f .expr (nextS p)).bind fun (z, p) =>
        some (ndL 29 line ((x.app y).app z), mustS l (upS p) [39])
      else some (ndL 29 line (x.app y), mustS l (upS p) [39])
    else some (ndL 29 line .nil, mustS l (upS p) [39])
  | f + 1, .block ends, p =>
    let line := lineS l p
    let p := downS p
    if p.err.isNone then
      (prsR l f (.blockL ends .nil) p).bind fun (x, p) =>
      some (ndL 52 line x, upS p)
    else some (ndL 52 line .nil, upS p)
  | f + 1, .blockL ends acc, p =>
    if p.err.isSome || ends.any (fun e => isS l p e) then some (acc, p)
    else if l.length ≤ p.pos then some (acc, failS l p)
    else
      (prsR l f .stmt p).bind fun (x, p) =>
      prsR l f (.blockL ends (acc.app x)) p
  | f + 1, .head, p => prsR l f (.within [41]) (mustS l p [40])
  | f + 1, .stmt, p =>
    let line := lineS l p
    if isS l p [98, 114, 101, 97, 107] then some (ndL 45 line .nil, mustS l (nextS p) [59])
    else if isS l p [99, 111, 110, 116, 105, 110, 117, 101] then some (ndL 46 line .nil, mustS l (nextS p) [59])
    else if isS l p [114, 101, 116, 117, 114, 110] then
      let p := nextS p
      if isS l p [59] then some (ndL 47 line .nil, mustS l p [59])
      else
        (prsR l f .expr p).bind fun (x, p) =>
        some (ndL 47 line x, mustS l p [59])
    else if isS l p [105, 102] then
      (prsR l f (.ifsL .nil) (nextS p)).bind fun (x, p) =>
      if isS l p K_else then
        (prsR l f (.block [K_endif]) (nextS p)).bind fun (y, p) =>
        some (ndL 41 line (x.app y), mustS l p K_endif)
      else some (ndL 41 line x, mustS l p K_endif)
    else if isS l p [102, 111, 114] then
      let (s, p) := nameS l (nextS p)
      let p := mustS l p [105, 110]
      if isS l p [91] then
        let p := downS (nextS p)
        if p.err.isNone then
          (prsR l f .expr p).bind fun (x, p) =>
          let p := mustS l p [46, 46]
          (prsR l f .expr p).bind fun (y, p) =>
          (prsR l f (.block [K_endfor]) (mustS l (upS p) [93])).bind fun (z, p) =>
          some (nd 43 line s 0 0 ⟨#[]⟩ ((x.app y).app z), mustS l p K_endfor)
        else
          (prsR l f (.block [K_endfor]) (mustS l (upS p) [93])).bind fun (z, p) =>
          some (nd 43 line s 0 0 ⟨#[]⟩ z, mustS l p K_endfor)
      else
        (prsR l f .head p).bind fun (x, p) =>
        (prsR l f (.block [K_endfor]) p).bind fun (z, p) =>
        some (nd 42 line s 0 0 ⟨#[]⟩ (x.app z), mustS l p K_endfor)
    else if isS l p [119, 104, 105, 108, 101] then
      (prsR l f .head (nextS p)).bind fun (x, p) =>
      (prsR l f (.block [K_endwhile]) p).bind fun (z, p) =>
      some (ndL 44 line (x.app z), mustS l p K_endwhile)
    else if isS l p [102, 111, 114, 107] then
      (prsR l f .head (nextS p)).bind fun (x, p) =>
      (prsR l f (.block [K_endfork]) p).bind fun (z, p) =>
      some (ndL 48 line (x.app z), mustS l p K_endfork)
    else if isS l p [116, 114, 121] then
      (prsR l f (.block [K_except, K_finally]) (nextS p)).bind fun (x, p) =>
      if isS l p K_finally then
        (prsR l f (.block [K_endtry]) (nextS p)).bind fun (y, p) =>
        some (ndL 51 line (x.app y), mustS l p K_endtry)
      else
        (prsR l f (.tryL .nil) p).bind fun (y, p) =>
        some (ndL 49 line (x.app y), mustS l p K_endtry)
    else
      (prsR l f .expr p).bind fun (x, p) =>
      some (ndL 40 x.line x, mustS l p [59])
  | f + 1, .ifsL acc, p =>
    (prsR l f .head p).bind fun (x, p) =>
    (prsR l f (.block [K_elseif, K_else, K_endif]) p).bind fun (y, p) =>
    let acc := (acc.app x).app y
    if isS l p K_elseif then prsR l f (.ifsL acc) (nextS p) else some (acc, p)
  | f + 1, .tryL acc, p =>
    if p.err.isSome || !isS l p K_except then some (acc, p)
    else
      let line := lineS l p
      let p := nextS p
      let (s, p) := if isS l p [40] then (⟨#[]⟩, p) else nameS l p
      let p := mustS l p [40]
      let p := downS p
      if p.err.isNone then
        (prsR l f .codes p).bind fun (x, p) =>
        (prsR l f (.block [K_except, K_endtry]) (mustS l (upS p) [41])).bind fun (y, p) =>
        prsR l f (.tryL (acc.app (nd 50 line s 0 0 ⟨#[]⟩ (x.app y)))) p
      else
        (prsR l f (.block [K_except, K_endtry]) (mustS l (upS p) [41])).bind fun (y, p) =>
        prsR l f (.tryL (acc.app (nd 50 line s 0 0 ⟨#[]⟩ y))) p
end Go.Proofs.YtggngahmafbihaaGreatDoor
namespace Go.Proofs.YtggngahmafbihaaGreatDoor
open Go.RowKit Go.Lib

theorem ret_bool {a b : Bool} (h : a = b) : Ending.returned (.bool a) = .returned (.bool b) := by rw [h]
theorem ret_int {k : IntKind} {a b : Int} (h : a = b) : Ending.returned (.int k a) = .returned (.int k b) := by rw [h]

/-- The reader at block R: its text, its place, whether all is right. -/
def RdAt (w : World) (R : Nat) (s : ByteArray) (i : Nat) (ok : Bool) : Prop :=
  w.heap[R]? = some (.cells #[.string s, .int .i64 i, .bool ok] 181 (0, 0))

section
variable {w w' : World} {R : Nat} {s : ByteArray} {i : Nat} {ok : Bool}
theorem RdAt.lt (h : RdAt w R s i ok) : R < w.heap.size := by
  rcases Nat.lt_or_ge R w.heap.size with hlt | hge
  · exact hlt
  · unfold RdAt at h; rw [Array.getElem?_eq_none hge] at h; cases h
theorem RdAt.c0 (h : RdAt w R s i ok) : w.cell? ⟨R, 0, none⟩ = some (.string s) := cell_of_row w R 0 _ _ _ h
theorem RdAt.c1 (h : RdAt w R s i ok) : w.cell? ⟨R, 1, none⟩ = some (.int .i64 i) := cell_of_row w R 1 _ _ _ h
theorem RdAt.c2 (h : RdAt w R s i ok) : w.cell? ⟨R, 2, none⟩ = some (.bool ok) := cell_of_row w R 2 _ _ _ h
theorem RdAt.fr (h : RdAt w R s i ok) (k : Nat) : w.frozen? ⟨R, k, none⟩ = false := by unfold RdAt at h; simp [World.frozen?, h]
theorem RdAt.drewN (h : RdAt w R s i ok) (n : Nat) : RdAt (w.drewN n) R s i ok := h
theorem RdAt.set1 (h : RdAt w R s i ok) (j : Nat) : RdAt (w.setCell ⟨R, 1, none⟩ (.int .i64 j)) R s j ok := by
  unfold RdAt at h ⊢; simp [World.setCell, Array.getElem?_modify, h]
theorem RdAt.set2 (h : RdAt w R s i ok) (b : Bool) : RdAt (w.setCell ⟨R, 2, none⟩ (.bool b)) R s i b := by
  unfold RdAt at h ⊢; simp [World.setCell, Array.getElem?_modify, h]
end

/-- The byte at hand, 0 behind the end. -/
def pk (s : ByteArray) (i : Nat) : UInt8 := s.data.toList.getD i 0
theorem pk_in (s : ByteArray) (i : Nat) (h : i < s.size) : pk s i = s[i] := by
  unfold pk
  rw [List.getD_eq_getElem?_getD, List.getElem?_eq_getElem (by simpa using h)]; rfl
theorem pk_out (s : ByteArray) (i : Nat) (h : ¬ i < s.size) : pk s i = 0 := by
  unfold pk
  rw [List.getD_eq_getElem?_getD, List.getElem?_eq_none (by simpa using h)]; rfl

set_option maxHeartbeats 400000 in
theorem peek_c (R : Nat) (s : ByteArray) (i : Nat) (ok : Bool) (w : World) (h : RdAt w R s i ok) :
    Calls Tryz.prog 185 #[.pointer (some ⟨R, 0, none⟩)] w fun e w' => e = .returned (.int .u8 (pk s i).toNat) ∧ ∃ n, w' = w.drewN n := by
  have h0 := h.c0
  have h1 := h.c1
  clear h
  by_cases hi : i < s.size
  · have hp := Lib.hid (pk_in s i hi)
    go_enter Tryz.func185, Tryz.ntmps185
    go_wp2
    go_quiet (fail)
    go_wp2
    go_quiet (fail)
    go_wp2
    go_ret
    exact ⟨ret_int (by rw [hp.out]), _, World.drewN_drewN _ _ _⟩
  · have hp := Lib.hid (pk_out s i hi)
    go_enter Tryz.func185, Tryz.ntmps185
    go_wp2
    go_quiet (fail)
    go_wp2
    go_ret
    exact ⟨ret_int (by rw [hp.out]; rfl), _, rfl⟩

/-- Is a byte a digit? -/
def digB (c : UInt8) : Bool := decide (48 ≤ c.toNat ∧ c.toNat ≤ 57)

set_option maxHeartbeats 400000 in
theorem digit_c (c : UInt8) (w : World) :
    Calls Tryz.prog 188 #[.int .u8 c.toNat] w fun e w' => e = .returned (.bool (digB c)) ∧ w = w' := by
  by_cases h1 : 48 ≤ (c.toNat : Int)
  · by_cases h2 : (c.toNat : Int) ≤ 57
    · have hh := Lib.hid (show digB c = true from decide_eq_true (by omega))
      go_enter Tryz.func188, Tryz.ntmps188
      go_wp2
      go_ret
      exact ⟨ret_bool hh.out.symm, rfl⟩
    · have hh := Lib.hid (show digB c = false from decide_eq_false (by omega))
      have h2' : 57 < (c.toNat : Int) := by omega
      go_enter Tryz.func188, Tryz.ntmps188
      go_wp2
      go_ret
      exact ⟨ret_bool hh.out.symm, rfl⟩
  · have hh := Lib.hid (show digB c = false from decide_eq_false (by omega))
    have h1' : (c.toNat : Int) < 48 := by omega
    go_enter Tryz.func188, Tryz.ntmps188
    go_wp2
    go_ret
    exact ⟨ret_bool hh.out.symm, rfl⟩

/-- What take leaves: whether all is right, and the place. -/
def tkOk (s : ByteArray) (i : Nat) (ok : Bool) (c : UInt8) : Bool := ok && decide (i < s.size) && pk s i == c
def tkAt (s : ByteArray) (i : Nat) (ok : Bool) (c : UInt8) : Nat := if tkOk s i ok c then i + 1 else i

/-- How a step of the reader's leaves the world. -/
structure Rds (w w' : World) (R : Nat) (s : ByteArray) (i : Nat) (ok : Bool) : Prop where
  at_ : RdAt w' R s i ok
  grown : w.grownBy w' (some R)

theorem only_drewN {a w : World} {row : Option Nat} (h : a.grownBy w row) (n : Nat) : a.grownBy (w.drewN n) row := ⟨h.os, h.tape, h.output, h.size, h.block⟩
theorem only_setCell {a w : World} {g : Nat} (h : a.grownBy w (some g)) {p : Addr} (hp : p.block = g ∨ a.heap.size ≤ p.block) (u : Value) : a.grownBy (w.setCell p u) (some g) :=
  ⟨h.os, h.tape, h.output, by simpa [World.setCell] using h.size, fun i hi hne => (Below.heap_setCell w p u i (by
    rintro rfl
    rcases hp with hp | hp
    · exact hne (by rw [hp])
    · omega)).trans (h.block i hi hne)⟩

section
variable {w w' : World} {R : Nat} {s : ByteArray} {i : Nat} {ok : Bool}
theorem RdAt.drew (h : RdAt w R s i ok) : RdAt w.drew R s i ok := h
theorem only_drew {a w : World} {row : Option Nat} (h : a.grownBy w row) : a.grownBy w.drew row := ⟨h.os, h.tape, h.output, h.size, h.block⟩
theorem only_refl (w : World) (row : Option Nat) : w.grownBy w row := ⟨rfl, rfl, rfl, Nat.le_refl _, fun _ _ _ => rfl⟩
theorem only_trans {a b c : World} {row : Option Nat} (h : a.grownBy b row) (k : b.grownBy c row) : a.grownBy c row :=
  ⟨k.os.trans h.os, k.tape.trans h.tape, k.output.trans h.output, Nat.le_trans h.size k.size, fun i hi hn => (k.block i (Nat.lt_of_lt_of_le hi h.size) hn).trans (h.block i hi hn)⟩
theorem only_below {a w : World} (h : Below a.heap.size a w) (row : Option Nat) : a.grownBy w row := ⟨h.os, h.tape, h.output, h.size, fun i hi _ => h.block i hi⟩

theorem Rds.of (h : RdAt w R s i ok) : Rds w w R s i ok := ⟨h, only_refl _ _⟩
theorem Rds.trans {w1 w2 w3 : World} {j k : Nat} {b c : Bool} (h : Rds w1 w2 R s j b) (g : Rds w2 w3 R s k c) : Rds w1 w3 R s k c := ⟨g.at_, only_trans h.grown g.grown⟩
theorem Rds.drew {w1 w2 : World} (h : Rds w1 w2 R s i ok) : Rds w1 w2.drew R s i ok := ⟨h.at_, only_drew h.grown⟩
theorem Rds.drewN {w1 w2 : World} (h : Rds w1 w2 R s i ok) (n : Nat) : Rds w1 (w2.drewN n) R s i ok := ⟨h.at_, only_drewN h.grown n⟩
theorem Rds.set1 {w1 w2 : World} (h : Rds w1 w2 R s i ok) (j : Nat) : Rds w1 (w2.setCell ⟨R, 1, none⟩ (.int .i64 j)) R s j ok := ⟨h.at_.set1 j, only_setCell h.grown (.inl rfl) _⟩
theorem Rds.set2 {w1 w2 : World} (h : Rds w1 w2 R s i ok) (b : Bool) : Rds w1 (w2.setCell ⟨R, 2, none⟩ (.bool b)) R s i b := ⟨h.at_.set2 b, only_setCell h.grown (.inl rfl) _⟩
end

set_option maxHeartbeats 400000 in
theorem take_c (R : Nat) (s : ByteArray) (i : Nat) (ok : Bool) (c : UInt8) (w : World) (h : RdAt w R s i ok) (hs : s.size ≤ 1000000000) :
    Calls Tryz.prog 224 #[.pointer (some ⟨R, 0, none⟩), .int .u8 c.toNat] w fun e w' => e = .returned (.tuple #[]) ∧ Rds w w' R s (tkAt s i ok c) (tkOk s i ok c) := by
  have h0 := h.c0
  have h1 := h.c1
  have h2 := h.c2
  have f2 := h.fr 2
  have f1 := h.fr 1
  have H := Lib.hid h
  clear h
  cases ok with
  | false =>
    have e1 : tkOk s i false c = false := rfl
    have e2 : tkAt s i false c = i := rfl
    rw [e1, e2]
    clear e1 e2
    go_enter Tryz.func224, Tryz.ntmps224
    go_wp2
    go_region
    go_wp2
    go_end0
    exact ⟨rfl, ((Rds.of H.out).set2 false).drew⟩
  | true =>
    by_cases hi : i < s.size
    · have hp := pk_in s i hi
      have e0 : tkOk s i true c = (pk s i == c) := by simp [tkOk, hi]
      by_cases hc : pk s i = c
      · have e1 : tkOk s i true c = true := by rw [e0, hc]; simp
        have e2 : tkAt s i true c = i + 1 := by unfold tkAt; rw [e1]; rfl
        rw [e1, e2]
        have hq : ((s[i].toNat : Int) == (c.toNat : Int)) = true := by rw [← hp, hc]; simp
        clear e0 e1 e2 hp hc
        go_enter Tryz.func224, Tryz.ntmps224
        go_wp2
        go_region
        go_wp2
        go_end0
        exact ⟨rfl, (((Rds.of H.out).set2 true).set1 (i + 1)).drew⟩
      · have e1 : tkOk s i true c = false := by rw [e0]; simpa using hc
        have e2 : tkAt s i true c = i := by unfold tkAt; rw [e1]; rfl
        rw [e1, e2]
        have hq : ((s[i].toNat : Int) == (c.toNat : Int)) = false := by
          rw [← hp, beq_eq_false_iff_ne]
          intro e
          exact hc (UInt8.toNat_inj.1 (by omega))
        clear e0 e1 e2 hp hc
        go_enter Tryz.func224, Tryz.ntmps224
        go_wp2
        go_region
        go_wp2
        go_end0
        exact ⟨rfl, ((Rds.of H.out).set2 false).drew⟩
    · have e1 : tkOk s i true c = false := by simp [tkOk, hi]
      have e2 : tkAt s i true c = i := by unfold tkAt; rw [e1]; rfl
      rw [e1, e2]
      clear e1 e2
      go_enter Tryz.func224, Tryz.ntmps224
      go_wp2
      go_region
      go_wp2
      go_end0
      exact ⟨rfl, ((Rds.of H.out).set2 false).drew⟩
end Go.Proofs.YtggngahmafbihaaGreatDoor
namespace Go.Proofs.YtggngahmafbihaaGreatDoor
open Go.RowKit Go.Lib

/-- The digits of a number, each taken away from ten times what was read; the place, whether all is right, the number. -/
def numLoop (s : ByteArray) (low high : Int) (neg : Bool) : Nat → Nat → Int → Nat × Bool × Int
  | 0, i, n => (i, true, n)
  | f + 1, i, n =>
    if digB (pk s i) then
      if n < -922337203685477580 ∨ 10 * n < -9223372036854775808 + ((pk s i).toNat - 48 : Int) ∨ (neg = true ∧ 10 * n - ((pk s i).toNat - 48 : Int) < low) ∨ (neg = false ∧ 10 * n - ((pk s i).toNat - 48 : Int) < -high) then (i, false, 0)
      else numLoop s low high neg f (i + 1) (10 * n - ((pk s i).toNat - 48 : Int))
    else (i, true, n)

/-- The number with its sign turned. -/
def negR (r : Nat × Bool × Int) : Nat × Bool × Int := (r.1, r.2.1, if r.2.1 then -r.2.2 else 0)

/-- A number: the place behind it, whether all is right, the number. -/
def numSp (s : ByteArray) (low high : Int) (i : Nat) : Nat × Bool × Int :=
  if pk s i = 45 then
    if digB (pk s (i + 1)) = false ∨ pk s (i + 1) = 48 then (i + 1, false, 0)
    else numLoop s low high true (s.size + 1) (i + 1) 0
  else if pk s i = 48 then (i + 1, true, 0)
  else if digB (pk s i) = false then (i, false, 0)
  else negR (numLoop s low high false (s.size + 1) i 0)

theorem digB_in {s : ByteArray} {i : Nat} (h : digB (pk s i) = true) : i < s.size := by
  rcases Nat.lt_or_ge i s.size with hi | hi
  · exact hi
  · rw [pk_out s i (by omega)] at h; exact absurd h (by decide)
theorem digB_range {c : UInt8} (h : digB c = true) : 48 ≤ c.toNat ∧ c.toNat ≤ 57 := by simpa [digB] using h

theorem numLoop_step (s : ByteArray) (low high : Int) (neg : Bool) (f i : Nat) (n : Int) (h : digB (pk s i) = true)
    (hg : ¬(n < -922337203685477580 ∨ 10 * n < -9223372036854775808 + ((pk s i).toNat - 48 : Int) ∨ (neg = true ∧ 10 * n - ((pk s i).toNat - 48 : Int) < low) ∨ (neg = false ∧ 10 * n - ((pk s i).toNat - 48 : Int) < -high))) :
    numLoop s low high neg (f + 1) i n = numLoop s low high neg f (i + 1) (10 * n - ((pk s i).toNat - 48 : Int)) := by
  rw [numLoop, if_pos h, if_neg hg]
theorem numLoop_bad (s : ByteArray) (low high : Int) (neg : Bool) (f i : Nat) (n : Int) (h : digB (pk s i) = true)
    (hg : n < -922337203685477580 ∨ 10 * n < -9223372036854775808 + ((pk s i).toNat - 48 : Int) ∨ (neg = true ∧ 10 * n - ((pk s i).toNat - 48 : Int) < low) ∨ (neg = false ∧ 10 * n - ((pk s i).toNat - 48 : Int) < -high)) :
    numLoop s low high neg (f + 1) i n = (i, false, 0) := by
  rw [numLoop, if_pos h, if_pos hg]
theorem numLoop_end (s : ByteArray) (low high : Int) (neg : Bool) (f i : Nat) (n : Int) (h : digB (pk s i) = false) : numLoop s low high neg (f + 1) i n = (i, true, n) := by
  rw [numLoop, if_neg (by rw [h]; decide)]

/-- Where all is right at the end the loop's number lies in its range. -/
theorem digit_any (c : UInt8) (x : Int) (hx : x = c.toNat) (w : World) : Calls Tryz.prog 188 #[.int .u8 x] w fun e w' => e = .returned (.bool (digB c)) ∧ w = w' := by
  subst hx; exact digit_c c w

set_option maxRecDepth 100000 in
set_option maxHeartbeats 1000000 in
theorem number_neg (R : Nat) (s : ByteArray) (i : Nat) (low high : Int) (w : World) (h : RdAt w R s i true) (hs : s.size ≤ 1000000000)
    (hl1 : -9223372036854775808 ≤ low) (hl2 : low ≤ 0) (hneg : pk s i = 45) :
    Calls Tryz.prog 187 #[.pointer (some ⟨R, 0, none⟩), .int .i64 low, .int .i64 high] w fun e w' =>
      e = .returned (.int .i64 (numSp s low high i).2.2) ∧ Rds w w' R s (numSp s low high i).1 (numSp s low high i).2.1 := by
  have hi : i < s.size := by
    rcases Nat.lt_or_ge i s.size with hi | hi
    · exact hi
    · rw [pk_out s i (by omega)] at hneg; cases hneg
  have p1 : ((pk s i).toNat : Int) = 45 := by rw [hneg]; rfl
  have k1 : ((pk s i).toNat == 45) = true := by rw [hneg]; rfl
  have pk0 := Lib.hid (fun W hW => peek_c R s i true W hW)
  have tk := fun W hW => take_c R s i true 45 W hW hs
  have e1 : tkOk s i true 45 = true := by simp [tkOk, hi, hneg]
  have e2 : tkAt s i true 45 = i + 1 := by unfold tkAt; rw [e1]; rfl
  rw [e1, e2] at tk
  have TK := Lib.hid tk
  have pk1 := Lib.hid (fun W hW => peek_c R s (i + 1) true W hW)
  clear tk e1 e2
  by_cases hb : digB (pk s (i + 1)) = false ∨ pk s (i + 1) = 48
  · have HS := Lib.hid (show numSp s low high i = (i + 1, false, 0) by unfold numSp; rw [if_pos hneg, if_pos hb])
    have dg := fun W => digit_any (pk s (i + 1)) _ rfl W
    cases hd : digB (pk s (i + 1)) with
    | false =>
      rw [hd] at dg
      have DG := Lib.hid dg
      obtain ⟨c0, hc0⟩ : ∃ c : Nat, c = (pk s i).toNat := ⟨_, rfl⟩
      obtain ⟨c1, hc1⟩ : ∃ c : Nat, c = (pk s (i + 1)).toNat := ⟨_, rfl⟩
      rw [← hc0] at pk0 p1 k1
      rw [← hc1] at pk1 DG
      clear hb dg hneg hd hc0 hc1
      go_enter Tryz.func187, Tryz.ntmps187
      go_wp2_with fail
      refine (pk0.out _ h).mono ?_
      rintro e w1 ⟨rfl, n1, rfl⟩
      go_wp2_with fail
      refine (TK.out _ (h.drewN n1)).mono ?_
      rintro e w2 ⟨rfl, hr2⟩
      go_wp2_with fail
      refine (pk1.out _ hr2.at_).mono ?_
      rintro e w3 ⟨rfl, n3, rfl⟩
      have k2 : ((c1 : Int) == 48) = true ∨ ((c1 : Int) == 48) = false := by cases ((c1 : Int) == 48) <;> simp
      have g2 := hr2.at_.fr 2
      have g3 := hr2.at_.c2
      have HR2 := Lib.hid hr2
      clear hr2
      rcases k2 with k2 | k2
      all_goals
        go_wp2_with fail
        refine (pk1.out _ (HR2.out.at_.drewN n3)).mono ?_
        rintro e w4 ⟨rfl, n4, rfl⟩
        go_wp2_with fail
        refine (DG.out _).mono ?_
        rintro e w5 ⟨rfl, rfl⟩
        go_wp2_with fail
        go_ret
        rw [HS.out]
        exact ⟨ret_int rfl, (((Rds.of h).drewN n1).trans (HR2.out.drewN _)).set2 false⟩
    | true =>
      have hb2 : pk s (i + 1) = 48 := by
        rcases hb with e | e
        · rw [hd] at e; cases e
        · exact e
      rw [hd] at dg
      have DG := Lib.hid (show ∀ W, Calls Tryz.prog 188 #[.int .u8 48] W fun e w' => e = .returned (.bool true) ∧ W = w' from fun W => by
        have := dg W
        rw [hb2] at this
        exact this)
      have PK1 := Lib.hid (show ∀ W, RdAt W R s (i + 1) true → Calls Tryz.prog 185 #[.pointer (some ⟨R, 0, none⟩)] W fun e w' => e = .returned (.int .u8 48) ∧ ∃ n, w' = W.drewN n from fun W hW => by
        have := pk1.out W hW
        rw [hb2] at this
        exact this)
      obtain ⟨c0, hc0⟩ : ∃ c : Nat, c = (pk s i).toNat := ⟨_, rfl⟩
      rw [← hc0] at pk0 p1 k1
      clear hb hb2 dg hneg hd hc0 pk1
      go_enter Tryz.func187, Tryz.ntmps187
      go_wp2_with fail
      refine (pk0.out _ h).mono ?_
      rintro e w1 ⟨rfl, n1, rfl⟩
      go_wp2_with fail
      refine (TK.out _ (h.drewN n1)).mono ?_
      rintro e w2 ⟨rfl, hr2⟩
      go_wp2_with fail
      refine (PK1.out _ hr2.at_).mono ?_
      rintro e w3 ⟨rfl, n3, rfl⟩
      have g2 := hr2.at_.fr 2
      have g3 := hr2.at_.c2
      have HR2 := Lib.hid hr2
      clear hr2
      go_wp2_with fail
      refine (PK1.out _ (HR2.out.at_.drewN n3)).mono ?_
      rintro e w4 ⟨rfl, n4, rfl⟩
      go_wp2_with fail
      refine (DG.out _).mono ?_
      rintro e w5 ⟨rfl, rfl⟩
      go_wp2_with fail
      refine (PK1.out _ (HR2.out.at_.drewN _)).mono ?_
      rintro e w6 ⟨rfl, n6, rfl⟩
      go_wp2_with fail
      go_ret
      rw [HS.out]
      exact ⟨ret_int rfl, (((Rds.of h).drewN n1).trans (HR2.out.drewN _)).set2 false⟩
  · have HS := Lib.hid (show numSp s low high i = numLoop s low high true (s.size + 1) (i + 1) 0 by unfold numSp; rw [if_pos hneg, if_neg hb])
    have hb1 : digB (pk s (i + 1)) = true := by
      cases hd : digB (pk s (i + 1)) with
      | true => rfl
      | false => exact absurd (.inl hd) hb
    have hb2 : ¬ pk s (i + 1) = 48 := fun e => hb (.inr e)
    have p2 : ((pk s (i + 1)).toNat : Int) ≠ 48 := fun e => hb2 (UInt8.toNat_inj.1 (by show (pk s (i + 1)).toNat = 48; omega))
    have k2 : (((pk s (i + 1)).toNat : Int) == 48) = false := by rw [beq_eq_false_iff_ne]; exact p2
    have dg := fun W => digit_any (pk s (i + 1)) _ rfl W
    rw [hb1] at dg
    have DG := Lib.hid dg
    clear hb hb1 hb2 dg p2 hneg
    obtain ⟨c0, hc0⟩ : ∃ c : Nat, c = (pk s i).toNat := ⟨_, rfl⟩
    obtain ⟨c1, hc1⟩ : ∃ c : Nat, c = (pk s (i + 1)).toNat := ⟨_, rfl⟩
    rw [← hc0] at pk0 p1 k1
    rw [← hc1] at pk1 k2 DG
    clear hc0 hc1
    go_enter Tryz.func187, Tryz.ntmps187
    go_wp2_with fail
    refine (pk0.out _ h).mono ?_
    rintro e w1 ⟨rfl, n1, rfl⟩
    go_wp2_with fail
    refine (TK.out _ (h.drewN n1)).mono ?_
    rintro e w2 ⟨rfl, hr2⟩
    go_wp2_with fail
    refine (pk1.out _ hr2.at_).mono ?_
    rintro e w3 ⟨rfl, n3, rfl⟩
    go_wp2_with fail
    refine (pk1.out _ (hr2.at_.drewN n3)).mono ?_
    rintro e w4 ⟨rfl, n4, rfl⟩
    go_wp2_with fail
    refine (DG.out _).mono ?_
    rintro e w5 ⟨rfl, rfl⟩
    go_wp2_with fail
    refine (pk1.out _ (by exact hr2.at_.drewN _)).mono ?_
    rintro e w6 ⟨rfl, n6, rfl⟩
    go_wp2_with fail
    obtain ⟨wL, hwL⟩ : ∃ wL, wL = w2.drewN (n3 + n4 + n6) := ⟨_, rfl⟩
    have hL : Rds w wL R s (i + 1) true := by rw [hwL]; exact (Rds.trans ((Rds.of h).drewN n1) hr2).drewN _
    rw [← hwL]
    have HL := Lib.hid hL
    clear hL hwL hr2
    go_loopg [8] (s.size + 1) (fun k v wr => ∃ (j : Nat) (n : Int), v = .int .i64 n ∧ Rds w wr R s j true ∧ s.size + 1 = j + k - (i + 1) ∧ -9223372036854775808 ≤ n ∧ n ≤ 0 ∧
      Hid (numLoop s low high true k j n = numLoop s low high true (s.size + 1) (i + 1) 0))
    case atStart => exact ⟨i + 1, 0, rfl, HL.out, by omega, by omega, by omega, rfl⟩
    case round =>
      obtain ⟨j, n, rfl, hr, hk, hn1, hn2, hq⟩ := hrel
      have pkj := fun W hW => peek_c R s j true W hW
      have dgj := fun W => digit_any (pk s j) _ rfl W
      have hrj := hr.at_
      have j1 := hrj.c1
      have jf1 := hrj.fr 1
      have jf2 := hrj.fr 2
      have j2 := hrj.c2
      have HR := Lib.hid hr
      clear hr
      cases hd : digB (pk s j) with
      | false =>
        have hex : numLoop s low high true gk j n = (j, true, n) := by
          cases gk with
          | zero => rfl
          | succ f => exact numLoop_end s low high true f j n hd
        have HEX := Lib.hid hex
        rw [hd] at dgj
        obtain ⟨c, hc⟩ : ∃ c : Nat, c = (pk s j).toNat := ⟨_, rfl⟩
        rw [← hc] at pkj dgj
        have PKJ := Lib.hid pkj
        have DGJ := Lib.hid dgj
        clear pkj dgj hd hc hex
        go_wp2_with fail
        refine (PKJ.out _ hrj).mono ?_
        rintro e w7 ⟨rfl, n7, rfl⟩
        go_wp2_with fail
        refine (DGJ.out _).mono ?_
        rintro e w8 ⟨rfl, rfl⟩
        go_wp2_with fail
        go_ret
        rw [HS.out, ← hq.out, HEX.out]
        exact ⟨ret_int rfl, HR.out.drewN _⟩
      | true =>
        have hj := digB_in hd
        obtain ⟨hc1, hc2⟩ := digB_range hd
        obtain ⟨f, rfl⟩ : ∃ f, gk = f + 1 := ⟨gk - 1, by omega⟩
        rw [hd] at dgj
        obtain ⟨c, hc⟩ : ∃ c : Nat, c = (pk s j).toNat := ⟨_, rfl⟩
        rw [← hc] at pkj dgj hc1 hc2
        have PKJ := Lib.hid pkj
        have DGJ := Lib.hid dgj
        have HST := Lib.hid (numLoop_step s low high true f j n hd)
        have HBD := Lib.hid (numLoop_bad s low high true f j n hd)
        rw [← hc] at HST HBD
        clear pkj dgj hd hc
        have hc1' : 48 ≤ (c : Int) := by omega
        have hc2' : (c : Int) ≤ 57 := by omega
        by_cases a1 : n < -922337203685477580
        · have HB := Lib.hid (HBD.out (.inl a1))
          clear HST HBD
          go_wp2_with fail
          refine (PKJ.out _ hrj).mono ?_
          rintro e w7 ⟨rfl, n7, rfl⟩
          go_wp2_with fail
          refine (DGJ.out _).mono ?_
          rintro e w8 ⟨rfl, rfl⟩
          go_wp2_with fail
          refine (PKJ.out _ (hrj.drewN _)).mono ?_
          rintro e w9 ⟨rfl, n9, rfl⟩
          go_wp2_with fail
          go_ret
          rw [HS.out, ← hq.out, HB.out]
          exact ⟨ret_int rfl, (HR.out.drewN _).set2 false⟩
        · have a1' : -922337203685477580 ≤ n := by omega
          clear a1
          by_cases a2 : 10 * n < -9223372036854775808 + ((c : Int) - 48)
          · have HB := Lib.hid (HBD.out (.inr (.inl a2)))
            clear HST HBD
            go_wp2_with fail
            refine (PKJ.out _ hrj).mono ?_
            rintro e w7 ⟨rfl, n7, rfl⟩
            go_wp2_with fail
            refine (DGJ.out _).mono ?_
            rintro e w8 ⟨rfl, rfl⟩
            go_wp2_with fail
            refine (PKJ.out _ (hrj.drewN _)).mono ?_
            rintro e w9 ⟨rfl, n9, rfl⟩
            go_wp2_with fail
            go_ret
            rw [HS.out, ← hq.out, HB.out]
            exact ⟨ret_int rfl, (HR.out.drewN _).set2 false⟩
          · have a2' : -9223372036854775808 + ((c : Int) - 48) ≤ 10 * n := by omega
            clear a2
            by_cases a3 : 10 * n - ((c : Int) - 48) < low
            · have HB := Lib.hid (HBD.out (.inr (.inr (.inl ⟨rfl, a3⟩))))
              clear HST HBD
              go_wp2_with fail
              refine (PKJ.out _ hrj).mono ?_
              rintro e w7 ⟨rfl, n7, rfl⟩
              go_wp2_with fail
              refine (DGJ.out _).mono ?_
              rintro e w8 ⟨rfl, rfl⟩
              go_wp2_with fail
              refine (PKJ.out _ (hrj.drewN _)).mono ?_
              rintro e w9 ⟨rfl, n9, rfl⟩
              go_wp2_with fail
              go_ret
              rw [HS.out, ← hq.out, HB.out]
              exact ⟨ret_int rfl, (HR.out.drewN _).set2 false⟩
            · have a3' : low ≤ 10 * n - ((c : Int) - 48) := by omega
              have HB := Lib.hid (HST.out (by simp; omega))
              clear HST HBD a3
              go_wp2_with fail
              refine (PKJ.out _ hrj).mono ?_
              rintro e w7 ⟨rfl, n7, rfl⟩
              go_wp2_with fail
              refine (DGJ.out _).mono ?_
              rintro e w8 ⟨rfl, rfl⟩
              go_wp2_with fail
              refine (PKJ.out _ (hrj.drewN _)).mono ?_
              rintro e w9 ⟨rfl, n9, rfl⟩
              go_wp2_with fail
              go_roundg f
              case measure => omega
              case rel =>
                refine ⟨j + 1, 10 * n - ((c : Int) - 48), ?_, (HR.out.drewN _).set1 (j + 1), by omega, by omega, by omega, ?_⟩
                · congr 1
                · rw [← HB.out]; exact hq.out
end Go.Proofs.YtggngahmafbihaaGreatDoor
namespace Go.Proofs.YtggngahmafbihaaGreatDoor
open Go.RowKit Go.Lib

set_option maxRecDepth 100000 in
set_option maxHeartbeats 1000000 in
theorem number_pos (R : Nat) (s : ByteArray) (i : Nat) (low high : Int) (w : World) (h : RdAt w R s i true) (hs : s.size ≤ 1000000000)
    (hh1 : 0 ≤ high) (hh2 : high ≤ 9223372036854775807) (hneg : pk s i ≠ 45) :
    Calls Tryz.prog 187 #[.pointer (some ⟨R, 0, none⟩), .int .i64 low, .int .i64 high] w fun e w' =>
      e = .returned (.int .i64 (numSp s low high i).2.2) ∧ Rds w w' R s (numSp s low high i).1 (numSp s low high i).2.1 := by
  have p1 : ((pk s i).toNat : Int) ≠ 45 := fun e => hneg (UInt8.toNat_inj.1 (by show (pk s i).toNat = 45; omega))
  have k1 : (((pk s i).toNat : Int) == 45) = false := by rw [beq_eq_false_iff_ne]; exact p1
  have pk0 := Lib.hid (fun W hW => peek_c R s i true W hW)
  have h1 := h.c1
  have f1 := h.fr 1
  have h2 := h.c2
  have f2 := h.fr 2
  by_cases hz : pk s i = 48
  · have HS := Lib.hid (show numSp s low high i = (i + 1, true, 0) by unfold numSp; rw [if_neg hneg, if_pos hz])
    have hi : i < s.size := by
      rcases Nat.lt_or_ge i s.size with hi | hi
      · exact hi
      · rw [pk_out s i (by omega)] at hz; cases hz
    have PK1 := Lib.hid (show ∀ W, RdAt W R s i true → Calls Tryz.prog 185 #[.pointer (some ⟨R, 0, none⟩)] W fun e w' => e = .returned (.int .u8 48) ∧ ∃ n, w' = W.drewN n from fun W hW => by
      have := pk0.out W hW
      rw [hz] at this
      exact this)
    clear hz hneg p1 k1 pk0
    go_enter Tryz.func187, Tryz.ntmps187
    go_wp2_with fail
    refine (PK1.out _ h).mono ?_
    rintro e w1 ⟨rfl, n1, rfl⟩
    go_wp2_with fail
    refine (PK1.out _ (h.drewN n1)).mono ?_
    rintro e w2 ⟨rfl, n2, rfl⟩
    go_wp2_with fail
    go_ret
    rw [HS.out]
    exact ⟨ret_int rfl, ((Rds.of h).drewN _).set1 (i + 1)⟩
  have p2 : ((pk s i).toNat : Int) ≠ 48 := fun e => hz (UInt8.toNat_inj.1 (by show (pk s i).toNat = 48; omega))
  have k2 : (((pk s i).toNat : Int) == 48) = false := by rw [beq_eq_false_iff_ne]; exact p2
  have dg := fun W => digit_any (pk s i) _ rfl W
  cases hd : digB (pk s i) with
  | false =>
    have HS := Lib.hid (show numSp s low high i = (i, false, 0) by unfold numSp; rw [if_neg hneg, if_neg hz, if_pos hd])
    rw [hd] at dg
    have DG := Lib.hid dg
    obtain ⟨c0, hc0⟩ : ∃ c : Nat, c = (pk s i).toNat := ⟨_, rfl⟩
    rw [← hc0] at pk0 k1 k2 DG
    clear hz hneg p1 p2 dg hd hc0
    go_enter Tryz.func187, Tryz.ntmps187
    go_wp2_with fail
    refine (pk0.out _ h).mono ?_
    rintro e w1 ⟨rfl, n1, rfl⟩
    go_wp2_with fail
    refine (pk0.out _ (h.drewN n1)).mono ?_
    rintro e w2 ⟨rfl, n2, rfl⟩
    go_wp2_with fail
    refine (pk0.out _ (h.drewN _)).mono ?_
    rintro e w4 ⟨rfl, n4, rfl⟩
    go_wp2_with fail
    refine (DG.out _).mono ?_
    rintro e w5 ⟨rfl, rfl⟩
    go_wp2_with fail
    go_ret
    rw [HS.out]
    exact ⟨ret_int rfl, ((Rds.of h).drewN _).set2 false⟩
  | true =>
    have HS := Lib.hid (show numSp s low high i = negR (numLoop s low high false (s.size + 1) i 0) by
      unfold numSp; rw [if_neg hneg, if_neg hz, if_neg (by rw [hd]; decide)])
    rw [hd] at dg
    have DG := Lib.hid dg
    obtain ⟨c0, hc0⟩ : ∃ c : Nat, c = (pk s i).toNat := ⟨_, rfl⟩
    rw [← hc0] at pk0 k1 k2 DG
    clear hz hneg p1 p2 dg hd hc0 h1 f1 h2 f2
    go_enter Tryz.func187, Tryz.ntmps187
    go_wp2_with fail
    refine (pk0.out _ h).mono ?_
    rintro e w1 ⟨rfl, n1, rfl⟩
    go_wp2_with fail
    refine (pk0.out _ (h.drewN n1)).mono ?_
    rintro e w2 ⟨rfl, n2, rfl⟩
    go_wp2_with fail
    refine (pk0.out _ (h.drewN _)).mono ?_
    rintro e w4 ⟨rfl, n4, rfl⟩
    go_wp2_with fail
    refine (DG.out _).mono ?_
    rintro e w5 ⟨rfl, rfl⟩
    go_wp2_with fail
    refine (pk0.out _ (h.drewN _)).mono ?_
    rintro e w6 ⟨rfl, n6, rfl⟩
    go_wp2_with fail
    obtain ⟨wL, hwL⟩ : ∃ wL, wL = w.drewN (n1 + n2 + n4 + n6) := ⟨_, rfl⟩
    have hL : Rds w wL R s i true := by rw [hwL]; exact (Rds.of h).drewN _
    rw [← hwL]
    have HL := Lib.hid hL
    clear hL hwL
    go_loopg [8] (s.size + 1) (fun k v wr => ∃ (j : Nat) (n : Int), v = .int .i64 n ∧ Rds w wr R s j true ∧ s.size + 1 = j + k - i ∧ -high ≤ n ∧ n ≤ 0 ∧
      Hid (numLoop s low high false k j n = numLoop s low high false (s.size + 1) i 0))
    case atStart => exact ⟨i, 0, rfl, HL.out, by omega, by omega, by omega, rfl⟩
    case round =>
      obtain ⟨j, n, rfl, hr, hk, hn1, hn2, hq⟩ := hrel
      have pkj := fun W hW => peek_c R s j true W hW
      have dgj := fun W => digit_any (pk s j) _ rfl W
      have hrj := hr.at_
      have j1 := hrj.c1
      have jf1 := hrj.fr 1
      have jf2 := hrj.fr 2
      have j2 := hrj.c2
      have HR := Lib.hid hr
      clear hr
      cases hd : digB (pk s j) with
      | false =>
        have hex : numLoop s low high false gk j n = (j, true, n) := by
          cases gk with
          | zero => rfl
          | succ f => exact numLoop_end s low high false f j n hd
        have HEX := Lib.hid hex
        rw [hd] at dgj
        obtain ⟨c, hc⟩ : ∃ c : Nat, c = (pk s j).toNat := ⟨_, rfl⟩
        rw [← hc] at pkj dgj
        have PKJ := Lib.hid pkj
        have DGJ := Lib.hid dgj
        clear pkj dgj hd hc hex
        go_wp2_with fail
        refine (PKJ.out _ hrj).mono ?_
        rintro e w7 ⟨rfl, n7, rfl⟩
        go_wp2_with fail
        refine (DGJ.out _).mono ?_
        rintro e w8 ⟨rfl, rfl⟩
        go_wp2_with fail
        go_ret
        rw [HS.out, ← hq.out, HEX.out]
        exact ⟨ret_int rfl, HR.out.drewN _⟩
      | true =>
        have hj := digB_in hd
        obtain ⟨hc1, hc2⟩ := digB_range hd
        obtain ⟨f, rfl⟩ : ∃ f, gk = f + 1 := ⟨gk - 1, by omega⟩
        rw [hd] at dgj
        obtain ⟨c, hc⟩ : ∃ c : Nat, c = (pk s j).toNat := ⟨_, rfl⟩
        rw [← hc] at pkj dgj hc1 hc2
        have PKJ := Lib.hid pkj
        have DGJ := Lib.hid dgj
        have HST := Lib.hid (numLoop_step s low high false f j n hd)
        have HBD := Lib.hid (numLoop_bad s low high false f j n hd)
        rw [← hc] at HST HBD
        clear pkj dgj hd hc
        have hc1' : 48 ≤ (c : Int) := by omega
        have hc2' : (c : Int) ≤ 57 := by omega
        by_cases a1 : n < -922337203685477580
        · have HB := Lib.hid (HBD.out (.inl a1))
          clear HST HBD
          go_wp2_with fail
          refine (PKJ.out _ hrj).mono ?_
          rintro e w7 ⟨rfl, n7, rfl⟩
          go_wp2_with fail
          refine (DGJ.out _).mono ?_
          rintro e w8 ⟨rfl, rfl⟩
          go_wp2_with fail
          refine (PKJ.out _ (hrj.drewN _)).mono ?_
          rintro e w9 ⟨rfl, n9, rfl⟩
          go_wp2_with fail
          go_ret
          rw [HS.out, ← hq.out, HB.out]
          exact ⟨ret_int rfl, (HR.out.drewN _).set2 false⟩
        · have a1' : -922337203685477580 ≤ n := by omega
          clear a1
          by_cases a2 : 10 * n < -9223372036854775808 + ((c : Int) - 48)
          · have HB := Lib.hid (HBD.out (.inr (.inl a2)))
            clear HST HBD
            go_wp2_with fail
            refine (PKJ.out _ hrj).mono ?_
            rintro e w7 ⟨rfl, n7, rfl⟩
            go_wp2_with fail
            refine (DGJ.out _).mono ?_
            rintro e w8 ⟨rfl, rfl⟩
            go_wp2_with fail
            refine (PKJ.out _ (hrj.drewN _)).mono ?_
            rintro e w9 ⟨rfl, n9, rfl⟩
            go_wp2_with fail
            go_ret
            rw [HS.out, ← hq.out, HB.out]
            exact ⟨ret_int rfl, (HR.out.drewN _).set2 false⟩
          · have a2' : -9223372036854775808 + ((c : Int) - 48) ≤ 10 * n := by omega
            clear a2
            by_cases a3 : 10 * n - ((c : Int) - 48) < -high
            · have HB := Lib.hid (HBD.out (.inr (.inr (.inr ⟨rfl, a3⟩))))
              clear HST HBD
              go_wp2_with fail
              refine (PKJ.out _ hrj).mono ?_
              rintro e w7 ⟨rfl, n7, rfl⟩
              go_wp2_with fail
              refine (DGJ.out _).mono ?_
              rintro e w8 ⟨rfl, rfl⟩
              go_wp2_with fail
              refine (PKJ.out _ (hrj.drewN _)).mono ?_
              rintro e w9 ⟨rfl, n9, rfl⟩
              go_wp2_with fail
              go_ret
              rw [HS.out, ← hq.out, HB.out]
              exact ⟨ret_int rfl, (HR.out.drewN _).set2 false⟩
            · have a3' : -high ≤ 10 * n - ((c : Int) - 48) := by omega
              have HB := Lib.hid (HST.out (by simp; omega))
              clear HST HBD a3
              go_wp2_with fail
              refine (PKJ.out _ hrj).mono ?_
              rintro e w7 ⟨rfl, n7, rfl⟩
              go_wp2_with fail
              refine (DGJ.out _).mono ?_
              rintro e w8 ⟨rfl, rfl⟩
              go_wp2_with fail
              refine (PKJ.out _ (hrj.drewN _)).mono ?_
              rintro e w9 ⟨rfl, n9, rfl⟩
              go_wp2_with fail
              go_roundg f
              case measure => omega
              case rel =>
                refine ⟨j + 1, 10 * n - ((c : Int) - 48), ?_, (HR.out.drewN _).set1 (j + 1), by omega, by omega, by omega, ?_⟩
                · congr 1
                · rw [← HB.out]; exact hq.out

theorem number_c (R : Nat) (s : ByteArray) (i : Nat) (low high : Int) (w : World) (h : RdAt w R s i true) (hs : s.size ≤ 1000000000)
    (hl1 : -9223372036854775808 ≤ low) (hl2 : low ≤ 0) (hh1 : 0 ≤ high) (hh2 : high ≤ 9223372036854775807) :
    Calls Tryz.prog 187 #[.pointer (some ⟨R, 0, none⟩), .int .i64 low, .int .i64 high] w fun e w' =>
      e = .returned (.int .i64 (numSp s low high i).2.2) ∧ Rds w w' R s (numSp s low high i).1 (numSp s low high i).2.1 := by
  by_cases hn : pk s i = 45
  · exact number_neg R s i low high w h hs hl1 hl2 hn
  · exact number_pos R s i low high w h hs hh1 hh2 hn
end Go.Proofs.YtggngahmafbihaaGreatDoor
namespace Go.Proofs.YtggngahmafbihaaGreatDoor
open Go.RowKit Go.Lib

theorem take_snoc (s : ByteArray) (k : Nat) (h : k < s.size) : s.data.toList.take (k + 1) = s.data.toList.take k ++ [s[k]] := by
  rw [List.take_succ_eq_append_getElem (by simpa using h)]; rfl

/-- May a byte stand in a text? -/
def prC (c : UInt8) : Bool := decide (32 ≤ c.toNat ∧ c.toNat ≤ 126)
def prB (l : List UInt8) : Bool := l.all prC

theorem prB_bad (s : ByteArray) (k : Nat) (h0 : k < s.size) (h1 : (s[k].toNat : Int) < 32 ∨ 126 < (s[k].toNat : Int)) : prB s.data.toList = false := by
  rw [Bool.eq_false_iff]
  intro hn
  unfold prB at hn
  rw [List.all_eq_true] at hn
  have := hn s[k] (by show s.data[k] ∈ s.data.toList; simp)
  simp only [prC, decide_eq_true_eq] at this
  omega

set_option maxHeartbeats 400000 in
theorem printable_c (s : ByteArray) (w : World) (hs : s.size ≤ 140737488351232) :
    Calls Tryz.prog 225 #[.string s] w fun e w' => e = .returned (.bool (prB s.data.toList)) ∧ w = w' := by
  go_enter Tryz.func225, Tryz.ntmps225
  go_wp2
  go_loop [6] (fun i => ∃ k : Nat, k ≤ s.size ∧ i = .int .i64 k ∧ Hid (prB (s.data.toList.take k) = true)) (fun i => s.size - (intOf i).toNat)
  case atStart => exact ⟨0, Nat.zero_le _, rfl, rfl⟩
  case round =>
    obtain ⟨k, hk, rfl, hall⟩ := hrel
    by_cases hlt : k < s.size
    · have hts := Lib.hid (take_snoc s k hlt)
      go_wp2
      all_goals first
        | (go_ret
           exact ⟨ret_bool (prB_bad s k hlt (by omega)).symm, rfl⟩)
        | (refine ⟨⟨k + 1, by omega, by go_num, ?_⟩, by simp [intOf]; omega⟩
           show prB _ = true
           have hx := hall.out
           unfold prB at hx ⊢
           rw [hts.out, List.all_append, hx, List.all_cons, show prC s[k] = true from decide_eq_true (by omega)]
           rfl)
    · obtain rfl : k = s.size := by omega
      go_wp2
      go_ret
      refine ⟨ret_bool ?_, rfl⟩
      have := hall.out
      rw [List.take_of_length_le (by simp)] at this
      exact this.symm

/-- One byte as a text. -/
theorem one_text (B : Nat) (c : UInt8) (W : World) (h : W.cell? ⟨B, 0, none⟩ = some (.int .u8 c.toNat)) :
    (convert 53 9 (.slice (some ⟨B, 0, none⟩) 1 1)).run Tryz.prog W = .ok (.string ⟨#[c]⟩) W :=
  run_convert_bytes_back W _ _ 5 ⟨B, 0, none⟩ 1 [c] Tryz.underlying53 Tryz.underlying5 Tryz.underlying9 (fun j hj => by
    obtain rfl : j = 0 := by simpa using hj
    exact h)

/-- The bytes of a text in quotes: the place, whether all is right, what was read. -/
def strLoop (s : ByteArray) : Nat → Nat → List UInt8 → Nat × Bool × List UInt8
  | 0, i, l => (i, true, l)
  | f + 1, i, l =>
    if pk s i = 34 then (i, true, l)
    else if pk s i = 92 then
      if pk s (i + 1) = 34 ∨ pk s (i + 1) = 92 then strLoop s f (i + 2) (l ++ [pk s (i + 1)]) else (i + 1, false, l)
    else if prC (pk s i) then strLoop s f (i + 1) (l ++ [pk s i]) else (i, false, l)

theorem Rds.alloc {w1 w2 : World} {R : Nat} {s : ByteArray} {i : Nat} {ok : Bool} (h : Rds w1 w2 R s i ok) (o : Obj) : Rds w1 (w2.alloc o) R s i ok :=
  ⟨(Below.heap_alloc w2 o R h.at_.lt).trans h.at_, ⟨h.grown.os, h.grown.tape, h.grown.output, Nat.le_trans h.grown.size (by simp), fun k hk hne => (Below.heap_alloc w2 o k (Nat.lt_of_lt_of_le hk h.grown.size)).trans (h.grown.block k hk hne)⟩⟩
/-- Behind an append onto a row of the call's own. -/
theorem Rds.append {w1 w2 w3 : World} {R : Nat} {s : ByteArray} {i : Nat} {ok : Bool} {row : Option Nat} (h : Rds w1 w2 R s i ok) (hg : w2.grownBy w3 row) (hR : R < w1.heap.size) (hr : ∀ k, row = some k → w1.heap.size ≤ k) : Rds w1 w3 R s i ok :=
  ⟨(hg.block R h.at_.lt (fun e => by have := hr R e.symm; omega)).trans h.at_,
   ⟨hg.os.trans h.grown.os, hg.tape.trans h.grown.tape, hg.output.trans h.grown.output, Nat.le_trans h.grown.size hg.size,
    fun k hk hne => (hg.block k (Nat.lt_of_lt_of_le hk h.grown.size) (fun e => by have := hr k e.symm; omega)).trans (h.grown.block k hk hne)⟩⟩

theorem u8_info : (Tryz.prog.info? 5).map (fun i => (i.zero, i.size, i.bytes)) = some (some (.int .u8 0), 1, 1) := by kernel_rfl

def u8s (l : List UInt8) : List Value := l.map fun c => Value.int .u8 c.toNat
end Go.Proofs.YtggngahmafbihaaGreatDoor
namespace Go.Proofs.YtggngahmafbihaaGreatDoor
open Go.RowKit Go.Lib

theorem own_keep {W W' : World} {base e size n R : Nat} {v : Value} {xs : List Value} (h : W.ownsRow base e size v n xs) (hg : W.grownBy W' (some R)) (hR : R < base) : W'.ownsRow base e size v n xs := by
  refine ⟨h.1, ?_⟩
  rcases h.2 with h0 | ⟨g, cap, cur, hv, hb, hh, r⟩
  · exact .inl h0
  · have hlt : g < W.heap.size := by
      rcases Nat.lt_or_ge g W.heap.size with hlt | hge
      · exact hlt
      · rw [Array.getElem?_eq_none hge] at hh; cases hh
    exact .inr ⟨g, cap, cur, hv, hb, (hg.block g hlt (fun e => by injection e with e; omega)).trans hh, r⟩

theorem conv_text (W : World) (base : Nat) (v : Value) (l : List UInt8) (h : W.ownsRow base 5 1 v l.length (u8s l)) :
    (convert 53 9 v).run Tryz.prog W = .ok (.string ⟨l.toArray⟩) W := by
  rcases h.2 with ⟨rfl, hl⟩ | ⟨g, cap, cur, rfl, _, hh, hc, _, hsz, ht⟩
  · obtain rfl : l = [] := List.eq_nil_of_length_eq_zero hl
    exact run_convert_bytes_nil W _ 5 Tryz.underlying53 Tryz.underlying5 0 0 _ Tryz.underlying9
  · refine run_convert_bytes_back W _ _ 5 ⟨g, 0, none⟩ cap l Tryz.underlying53 Tryz.underlying5 Tryz.underlying9 (fun j hj => ?_)
    have e : (⟨g, 0, none⟩ : Addr).add j = ⟨g, j, none⟩ := by unfold Addr.add; split <;> simp_all
    rw [e, cell_of_row W g j cur _ _ hh]
    have h1 : (cur.toList.take (l.length * 1))[j]? = (u8s l)[j]? := by rw [ht]
    rw [List.getElem?_take_of_lt (by omega)] at h1
    rw [← Array.getElem?_toList, h1]
    unfold u8s
    rw [List.getElem?_map, List.getElem?_eq_getElem hj]
    rfl

theorem own_ge {W : World} {base e size n : Nat} {v : Value} {xs : List Value} (h : W.ownsRow base e size v n xs) (k : Nat) (hk : v.ownBlock = some k) : base ≤ k := by
  rcases h.2 with ⟨rfl, _⟩ | ⟨g, cap, cur, rfl, hb, _⟩
  · cases hk
  · injection hk with hk; subst hk; exact hb
theorem own_snoc {W : World} {base : Nat} {v : Value} {l : List UInt8} {y : UInt8} (h : W.ownsRow base 5 1 v (l.length + 1) (u8s l ++ [.int .u8 y.toNat])) : W.ownsRow base 5 1 v (l ++ [y]).length (u8s (l ++ [y])) := by
  have e1 : (l ++ [y]).length = l.length + 1 := by simp
  have e2 : u8s (l ++ [y]) = u8s l ++ [.int .u8 y.toNat] := by simp [u8s]
  rw [e1, e2]; exact h
theorem own_set {W : World} {base e size n R : Nat} {v u : Value} {xs : List Value} (h : W.ownsRow base e size v n xs) (hR : R < base) (k : Nat) : (W.setCell ⟨R, k, none⟩ u).ownsRow base e size v n xs :=
  own_keep h (only_setCell (only_refl W _) (.inl rfl) u) hR

theorem strLoop_end (s : ByteArray) (f i : Nat) (l : List UInt8) (h : pk s i = 34) : strLoop s (f + 1) i l = (i, true, l) := by rw [strLoop, if_pos h]
theorem strLoop_esc (s : ByteArray) (f i : Nat) (l : List UInt8) (h : pk s i = 92) (h2 : pk s (i + 1) = 34 ∨ pk s (i + 1) = 92) : strLoop s (f + 1) i l = strLoop s f (i + 2) (l ++ [pk s (i + 1)]) := by
  rw [strLoop, if_neg (by rw [h]; decide), if_pos h, if_pos h2]
theorem strLoop_esc_bad (s : ByteArray) (f i : Nat) (l : List UInt8) (h : pk s i = 92) (h2 : ¬(pk s (i + 1) = 34 ∨ pk s (i + 1) = 92)) : strLoop s (f + 1) i l = (i + 1, false, l) := by
  rw [strLoop, if_neg (by rw [h]; decide), if_pos h, if_neg h2]
theorem strLoop_next (s : ByteArray) (f i : Nat) (l : List UInt8) (h : pk s i ≠ 34) (h1 : pk s i ≠ 92) (h2 : prC (pk s i) = true) : strLoop s (f + 1) i l = strLoop s f (i + 1) (l ++ [pk s i]) := by
  rw [strLoop, if_neg h, if_neg h1, if_pos h2]
theorem strLoop_bad (s : ByteArray) (f i : Nat) (l : List UInt8) (h : pk s i ≠ 34) (h1 : pk s i ≠ 92) (h2 : prC (pk s i) = false) : strLoop s (f + 1) i l = (i, false, l) := by
  rw [strLoop, if_neg h, if_neg h1, if_neg (by rw [h2]; decide)]

theorem ne_byte {x : UInt8} (y : UInt8) (n : Int) (hn : (y.toNat : Int) = n) (h : x ≠ y) : ((x.toNat : Int) == n) = false ∧ ((x.toNat : Int) != n) = true := by
  have : ((x.toNat : Int) == n) = false := by
    rw [beq_eq_false_iff_ne]
    intro e
    exact h (UInt8.toNat_inj.1 (by omega))
  exact ⟨this, by rw [bne, this]; rfl⟩

theorem pk_lt {s : ByteArray} {i : Nat} (h : pk s i ≠ 0) : i < s.size := by
  rcases Nat.lt_or_ge i s.size with hi | hi
  · exact hi
  · exact absurd (pk_out s i (by omega)) h

/-- A text in quotes: the place behind it, whether all is right, its bytes. -/
def strSp (s : ByteArray) (i : Nat) : Nat × Bool × List UInt8 :=
  let r := strLoop s (s.size + 1) (i + 1) []
  (if r.2.1 then r.1 + 1 else r.1, r.2.1, r.2.2)

theorem ret_str {a b : ByteArray} (h : a = b) : Ending.returned (.string a) = .returned (.string b) := by rw [h]

set_option maxRecDepth 100000 in
set_option maxHeartbeats 2000000 in
theorem str_c (R : Nat) (s : ByteArray) (i : Nat) (w : World) (h : RdAt w R s i true) (hs : s.size ≤ 1000000000) (hq : pk s i = 34) :
    Calls Tryz.prog 191 #[.pointer (some ⟨R, 0, none⟩)] w fun e w' => e = .returned (.string ⟨(strSp s i).2.2.toArray⟩) ∧ Rds w w' R s (strSp s i).1 (strSp s i).2.1 := by
  obtain ⟨i0, hi0, hz0, hz1, hz2⟩ := info_parts u8_info
  have hi : i < s.size := pk_lt (by rw [hq]; decide)
  have hRl := h.lt
  have tk := fun W hW => take_c R s i true 34 W hW hs
  have e1 : tkOk s i true 34 = true := by simp [tkOk, hi, hq]
  have e2 : tkAt s i true 34 = i + 1 := by unfold tkAt; rw [e1]; rfl
  rw [e1, e2] at tk
  have TK := Lib.hid tk
  clear tk e1 e2 hq
  have HSP := Lib.hid (show strSp s i = (if (strLoop s (s.size + 1) (i + 1) []).2.1 then (strLoop s (s.size + 1) (i + 1) []).1 + 1 else (strLoop s (s.size + 1) (i + 1) []).1, (strLoop s (s.size + 1) (i + 1) []).2.1, (strLoop s (s.size + 1) (i + 1) []).2.2) from rfl)
  go_enter Tryz.func191, Tryz.ntmps191
  go_wp2_with fail
  refine (TK.out _ h).mono ?_
  rintro e w1 ⟨rfl, hr1⟩
  go_wp2_with fail
  go_loopg [3] (s.size + 1) (fun k b wr => ∃ (bv : Value) (j : Nat) (l : List UInt8), bv = b ∧ wr.ownsRow w.heap.size 5 1 bv l.length (u8s l) ∧ l.length ≤ j ∧ Rds w wr R s j true ∧ j ≤ s.size ∧ s.size + 1 + (i + 1) ≤ j + k ∧
    Hid (strLoop s k j l = strLoop s (s.size + 1) (i + 1) []))
  case atStart => exact ⟨.slice none 0 0, i + 1, [], rfl, World.ownsRow_nil _ _ _ _, Nat.zero_le _, hr1, by omega, by omega, rfl⟩
  case round =>
    obtain ⟨bv, j, l, rfl, hown, hll, hr, hj, hk, hqq⟩ := hrel
    obtain ⟨f, rfl⟩ : ∃ f, gk = f + 1 := ⟨gk - 1, by omega⟩
    have pkj := fun W hW => peek_c R s j true W hW
    have hrj := hr.at_
    have j1 := hrj.c1
    have jf1 := hrj.fr 1
    have jf2 := hrj.fr 2
    have j2 := hrj.c2
    have HR := Lib.hid hr
    have HOWN := Lib.hid hown
    clear hr hown
    obtain ⟨x, hx⟩ : ∃ x, x = pk s j := ⟨_, rfl⟩
    rw [← hx] at pkj
    have PKJ := Lib.hid pkj
    clear pkj
    by_cases h34 : pk s j = 34
    · have HE := Lib.hid (strLoop_end s f j l h34)
      obtain rfl : x = 34 := hx.trans h34
      have tk2 := fun W hW => take_c R s j true 34 W hW hs
      have hj' : j < s.size := pk_lt (by rw [h34]; decide)
      have e1 : tkOk s j true 34 = true := by simp [tkOk, hj', h34]
      have e2 : tkAt s j true 34 = j + 1 := by unfold tkAt; rw [e1]; rfl
      rw [e1, e2] at tk2
      have TK2 := Lib.hid tk2
      clear tk2 e1 e2 h34 hx
      go_wp2_with fail
      refine (PKJ.out _ hrj).mono ?_
      rintro e w7 ⟨rfl, n7, rfl⟩
      go_wp2_with fail
      refine (TK2.out _ (hrj.drewN _)).mono ?_
      rintro e w8 ⟨rfl, hr8⟩
      have hcv := conv_text w8 w.heap.size bv l (own_keep (R := R) (W := wr) HOWN.out (only_trans (only_drewN (only_refl _ _) n7) hr8.grown) hRl)
      go_wp2_with fail
      go_ret
      rw [HSP.out, ← hqq.out, HE.out]
      exact ⟨ret_str rfl, (HR.out.drewN _).trans hr8⟩
    have n34 := ne_byte (x := x) 34 34 rfl (by rw [hx]; exact h34)
    obtain ⟨n34a, n34b⟩ := n34
    by_cases h92 : pk s j = 92
    · obtain rfl : x = 92 := hx.trans h92
      clear n34a n34b
      have hj' : j < s.size := pk_lt (by rw [h92]; decide)
      have HRJ1 := Lib.hid ((Rds.of hrj).set1 (j + 1))
      have pkj1 := fun W hW => peek_c R s (j + 1) true W hW
      obtain ⟨y, hy⟩ : ∃ y, y = pk s (j + 1) := ⟨_, rfl⟩
      rw [← hy] at pkj1
      have PKJ1 := Lib.hid pkj1
      clear pkj1
      by_cases hyy : pk s (j + 1) = 34 ∨ pk s (j + 1) = 92
      · have HE := Lib.hid (strLoop_esc s f j l h92 hyy)
        have hpr : prB [y] = true := by rw [hy]; rcases hyy with e | e <;> rw [e] <;> decide
        have hj2 : j + 1 < s.size := pk_lt (by rcases hyy with e | e <;> rw [e] <;> decide)
        have hPR := Lib.hid (show ∀ W, Calls Tryz.prog 225 #[.string ⟨#[y]⟩] W fun e w' => e = .returned (.bool true) ∧ W = w' from fun W => by
          have := printable_c ⟨#[y]⟩ W (by show 1 ≤ _; omega)
          rw [show (ByteArray.mk #[y]).data.toList = [y] from rfl, hpr] at this
          exact this)
        rw [← hy] at HE
        have yy : (((y.toNat : Int) != 34) = false ∨ (((y.toNat : Int) != 34) = true ∧ ((y.toNat : Int) != 92) = false)) := by
          rw [hy]
          rcases hyy with e | e
          · rw [e]; exact .inl rfl
          · rw [e]; exact .inr ⟨rfl, rfl⟩
        clear hyy hy hx h34 h92 hpr
        rcases yy with yy | ⟨yy1, yy2⟩
        all_goals
          go_wp2_with fail
          refine (PKJ.out _ hrj).mono ?_
          rintro e w7 ⟨rfl, n7, rfl⟩
          go_wp2_with fail
          refine (PKJ.out _ (hrj.drewN _)).mono ?_
          rintro e w8 ⟨rfl, n8, rfl⟩
          go_wp2_with fail
          refine (PKJ1.out _ (HRJ1.out.at_.drewN _)).mono ?_
          rintro e w9 ⟨rfl, n9, rfl⟩
          have ht1 := one_text wr.heap.size y (((wr.setCell ⟨R, 1, none⟩ (.int .i64 ((j : Int) + 1))).drewN (n7 + n8 + n9)).alloc (.cells #[.int .u8 y.toNat] 5)) (by
            have hz : ((wr.setCell ⟨R, 1, none⟩ (.int .i64 ((j : Int) + 1))).drewN (n7 + n8 + n9)).heap.size = wr.heap.size := by simp [World.setCell]
            rw [World.cell?_alloc_at _ _ _ _ hz.symm]; rfl)
          go_wp2_with fail
          refine (hPR.out _).mono ?_
          rintro e w10 ⟨rfl, hw10⟩
          have hrL : Rds wr w10 R s (j + 1) true := by rw [← hw10]; exact (HRJ1.out.drewN _).alloc _
          clear hw10
          have hownq := Lib.hid (own_keep HOWN.out hrL.grown hRl)
          have hrT := Lib.hid (HR.out.trans hrL)
          clear hrL
          go_wp2_with (at_builtin; refine wpList_append_own _ rfl (.tmp 46) (.tmp 48) 53 rfl w.heap.size 5 i0 (.int .u8 0) 1 1 Tryz.underlying53 hi0 hz0 hz1 hz2 rfl (by decide) bv l.length (u8s l) rfl (hownq.out.alloc _) ⟨w10.heap.size, 0, none⟩ 1 1 [.int .u8 y.toNat] rfl rfl ?c1 ?c2 ?c3 ?c4 ?c5 ?_
                       case c1 => exact cell_one_new _ _ _
                       case c2 => intro u hu; simp at hu; subst hu; rfl
                       case c3 => unfold maxLen; omega
                       case c4 => omega
                       case c5 => exact Nat.le_trans hrT.out.grown.size (by simp)
                       intro v' w11 hown' hgrow _
                       have hr11 := Rds.append (hrT.out.alloc _) hgrow hRl (fun k hk => own_ge hownq.out k hk)
                       have q1 := hr11.at_.c1
                       have q2 := hr11.at_.fr 1
                       have HR11 := Lib.hid hr11
                       have HO11 := Lib.hid (own_snoc hown')
                       clear hr11 hown' hgrow)
          go_roundg f
          case measure => omega
          case rel => exact ⟨v', (j + 1) + 1, l ++ [y], rfl, own_set HO11.out hRl 1, by simp; omega, HR11.out.set1 ((j + 1) + 1), by omega, by omega, HE.out.symm.trans hqq.out⟩
      · have HE := Lib.hid (strLoop_esc_bad s f j l h92 hyy)
        have y1 := ne_byte (x := y) 34 34 rfl (by rw [hy]; exact fun e => hyy (.inl e))
        have y2 := ne_byte (x := y) 92 92 rfl (by rw [hy]; exact fun e => hyy (.inr e))
        obtain ⟨y1a, y1b⟩ := y1
        obtain ⟨y2a, y2b⟩ := y2
        have TK3 := Lib.hid (fun W hW => take_c R s (j + 1) false 34 W hW hs)
        clear hyy hy hx h34 h92
        go_wp2_with fail
        refine (PKJ.out _ hrj).mono ?_
        rintro e w7 ⟨rfl, n7, rfl⟩
        go_wp2_with fail
        refine (PKJ.out _ (hrj.drewN _)).mono ?_
        rintro e w8 ⟨rfl, n8, rfl⟩
        go_wp2_with fail
        refine (PKJ1.out _ (HRJ1.out.at_.drewN _)).mono ?_
        rintro e w9 ⟨rfl, n9, rfl⟩
        go_wp2_with fail
        refine (TK3.out _ (by exact (HRJ1.out.at_.drewN _).set2 false)).mono ?_
        rintro e w10 ⟨rfl, hr10⟩
        have hrL : Rds wr w10 R s (j + 1) false := ((HRJ1.out.drewN _).set2 false).trans hr10
        have hcv := conv_text w10 w.heap.size bv l (own_keep HOWN.out hrL.grown hRl)
        go_wp2_with fail
        go_ret
        rw [HSP.out, ← hqq.out, HE.out]
        exact ⟨ret_str rfl, HR.out.trans hrL⟩
    · have n92 := ne_byte (x := x) 92 92 rfl (by rw [hx]; exact h92)
      obtain ⟨n92a, n92b⟩ := n92
      cases hp : prC (pk s j) with
      | false =>
        have HE := Lib.hid (strLoop_bad s f j l h34 h92 hp)
        have hPR := Lib.hid (show ∀ W, Calls Tryz.prog 225 #[.string ⟨#[x]⟩] W fun e w' => e = .returned (.bool false) ∧ W = w' from fun W => by
          have := printable_c ⟨#[x]⟩ W (by show 1 ≤ _; omega)
          rw [show (ByteArray.mk #[x]).data.toList = [x] from rfl, show prB [x] = false by unfold prB; rw [List.all_cons, hx, hp]; rfl] at this
          exact this)
        have TK3 := Lib.hid (fun W hW => take_c R s j false 34 W hW hs)
        clear hp hx h34 h92
        go_wp2_with fail
        refine (PKJ.out _ hrj).mono ?_
        rintro e w7 ⟨rfl, n7, rfl⟩
        go_wp2_with fail
        refine (PKJ.out _ (hrj.drewN _)).mono ?_
        rintro e w8 ⟨rfl, n8, rfl⟩
        have ht1 := one_text wr.heap.size x ((wr.drewN (n7 + n8)).alloc (.cells #[.int .u8 x.toNat] 5)) (by rw [World.cell?_alloc_at _ _ _ _ (show wr.heap.size = (wr.drewN (n7 + n8)).heap.size from rfl)]; rfl)
        go_wp2_with fail
        refine (hPR.out _).mono ?_
        rintro e w10 ⟨rfl, hw10⟩
        have hrL : Rds wr w10 R s j true := by rw [← hw10]; exact ((Rds.of hrj).drewN _).alloc _
        have q2 := hrL.at_.c2
        have q3 := hrL.at_.fr 2
        have HRL := Lib.hid hrL
        clear hw10 hrL
        go_wp2_with fail
        refine (TK3.out _ (HRL.out.set2 false).at_).mono ?_
        rintro e w11 ⟨rfl, hr11⟩
        have hrM : Rds wr w11 R s j false := (HRL.out.set2 false).trans hr11
        have hcv := conv_text w11 w.heap.size bv l (own_keep HOWN.out hrM.grown hRl)
        go_wp2_with fail
        go_ret
        rw [HSP.out, ← hqq.out, HE.out]
        exact ⟨ret_str rfl, HR.out.trans hrM⟩
      | true =>
        have HE := Lib.hid (strLoop_next s f j l h34 h92 hp)
        have hj2 : j < s.size := pk_lt (fun e => by rw [e] at hp; exact absurd hp (by decide))
        have hPR := Lib.hid (show ∀ W, Calls Tryz.prog 225 #[.string ⟨#[x]⟩] W fun e w' => e = .returned (.bool true) ∧ W = w' from fun W => by
          have := printable_c ⟨#[x]⟩ W (by show 1 ≤ _; omega)
          rw [show (ByteArray.mk #[x]).data.toList = [x] from rfl, show prB [x] = true by unfold prB; rw [List.all_cons, hx, hp]; rfl] at this
          exact this)
        rw [← hx] at HE
        clear hp hx h34 h92
        go_wp2_with fail
        refine (PKJ.out _ hrj).mono ?_
        rintro e w7 ⟨rfl, n7, rfl⟩
        go_wp2_with fail
        refine (PKJ.out _ (hrj.drewN _)).mono ?_
        rintro e w8 ⟨rfl, n8, rfl⟩
        have ht1 := one_text wr.heap.size x ((wr.drewN (n7 + n8)).alloc (.cells #[.int .u8 x.toNat] 5)) (by rw [World.cell?_alloc_at _ _ _ _ (show wr.heap.size = (wr.drewN (n7 + n8)).heap.size from rfl)]; rfl)
        go_wp2_with fail
        refine (hPR.out _).mono ?_
        rintro e w10 ⟨rfl, hw10⟩
        have hrL : Rds wr w10 R s j true := by rw [← hw10]; exact ((Rds.of hrj).drewN _).alloc _
        clear hw10
        have hownq := Lib.hid (own_keep HOWN.out hrL.grown hRl)
        have hrT := Lib.hid (HR.out.trans hrL)
        clear hrL
        go_wp2_with (at_builtin; refine wpList_append_own _ rfl (.tmp 46) (.tmp 48) 53 rfl w.heap.size 5 i0 (.int .u8 0) 1 1 Tryz.underlying53 hi0 hz0 hz1 hz2 rfl (by decide) bv l.length (u8s l) rfl (hownq.out.alloc _) ⟨w10.heap.size, 0, none⟩ 1 1 [.int .u8 x.toNat] rfl rfl ?c1 ?c2 ?c3 ?c4 ?c5 ?_
                     case c1 => exact cell_one_new _ _ _
                     case c2 => intro u hu; simp at hu; subst hu; rfl
                     case c3 => unfold maxLen; omega
                     case c4 => omega
                     case c5 => exact Nat.le_trans hrT.out.grown.size (by simp)
                     intro v' w11 hown' hgrow _
                     have hr11 := Rds.append (hrT.out.alloc _) hgrow hRl (fun k hk => own_ge hownq.out k hk)
                     have q1 := hr11.at_.c1
                     have q2 := hr11.at_.fr 1
                     have HR11 := Lib.hid hr11
                     have HO11 := Lib.hid (own_snoc hown')
                     clear hr11 hown' hgrow)
        go_roundg f
        case measure => omega
        case rel => exact ⟨v', j + 1, l ++ [x], rfl, own_set HO11.out hRl 1, by simp; omega, HR11.out.set1 (j + 1), by omega, by omega, HE.out.symm.trans hqq.out⟩
end Go.Proofs.YtggngahmafbihaaGreatDoor
namespace Go.Proofs.YtggngahmafbihaaGreatDoor
open Go.RowKit Go.Lib

/-- The names of the codes, by number. -/
def nmL : List ByteArray := [⟨#[69, 95, 78, 79, 78, 69]⟩, ⟨#[69, 95, 84, 89, 80, 69]⟩, ⟨#[69, 95, 68, 73, 86]⟩, ⟨#[69, 95, 80, 69, 82, 77]⟩, ⟨#[69, 95, 80, 82, 79, 80, 78, 70]⟩, ⟨#[69, 95, 86, 69, 82, 66, 78, 70]⟩,
  ⟨#[69, 95, 86, 65, 82, 78, 70]⟩, ⟨#[69, 95, 73, 78, 86, 73, 78, 68]⟩, ⟨#[69, 95, 82, 69, 67, 77, 79, 86, 69]⟩, ⟨#[69, 95, 77, 65, 88, 82, 69, 67]⟩, ⟨#[69, 95, 82, 65, 78, 71, 69]⟩, ⟨#[69, 95, 65, 82, 71, 83]⟩,
  ⟨#[69, 95, 78, 65, 67, 67]⟩, ⟨#[69, 95, 73, 78, 86, 65, 82, 71]⟩, ⟨#[69, 95, 81, 85, 79, 84, 65]⟩]
theorem nmL_len : nmL.length = 15 := rfl

theorem names_c (w : World) : Calls Tryz.prog 157 #[] w fun e w' => e = .returned (.slice (some ⟨w.heap.size, 0, none⟩) 15 15) ∧ w' = w.alloc (.cells (nmL.map Value.string).toArray 9) := by
  go_enter Tryz.func157, Tryz.ntmps157
  go_wp2
  go_ret
  exact ⟨rfl, rfl⟩

/-- How many letters of a name are at hand, from the k-th on; with fuel. -/
def cpl (s : ByteArray) (i : Nat) (n : ByteArray) : Nat → Nat → Nat
  | 0, k => k
  | f + 1, k => if k < n.size ∧ i + k < s.size ∧ pk s (i + k) = pk n k then cpl s i n f (k + 1) else k
def cp (s : ByteArray) (i : Nat) (n : ByteArray) : Nat := cpl s i n (n.size + 1) 0

/-- What is known behind one name more: the code, how many of its letters, the most letters of any. -/
def codeStep (s : ByteArray) (i : Nat) (n : ByteArray) (c : Nat) (r : Int × Int × Int) : Int × Int × Int :=
  if (cp s i n = n.size ∧ r.2.1 < cp s i n) then (c, cp s i n, max r.2.2 (cp s i n)) else (r.1, r.2.1, max r.2.2 (cp s i n))
def codeTo (s : ByteArray) (i : Nat) : Nat → Int × Int × Int
  | 0 => (0, -1, 0)
  | c + 1 => codeStep s i (nmL.getD c ByteArray.empty) c (codeTo s i c)

/-- A code: the place behind its name, whether all is right, the code. -/
def codeSp (s : ByteArray) (i : Nat) : Nat × Bool × Int :=
  let r := codeTo s i 15
  if r.2.1 < 0 then (i + r.2.2.toNat, false, r.1) else (i + r.2.1.toNat, true, r.1)

theorem cpl_le (s : ByteArray) (i : Nat) (n : ByteArray) : ∀ (f k : Nat), k ≤ n.size → k ≤ cpl s i n f k ∧ cpl s i n f k ≤ n.size
  | 0, k, h => ⟨Nat.le_refl _, h⟩
  | f + 1, k, h => by
    unfold cpl
    split
    · rename_i hc
      have := cpl_le s i n f (k + 1) (by omega)
      omega
    · omega
theorem cp_le (s : ByteArray) (i : Nat) (n : ByteArray) : cp s i n ≤ n.size := (cpl_le s i n _ 0 (Nat.zero_le _)).2

theorem nm_short : ∀ n ∈ nmL, n.size ≤ 20 := by decide

theorem codeTo_range (s : ByteArray) (i : Nat) : ∀ c, c ≤ 15 → (0 ≤ (codeTo s i c).1 ∧ (codeTo s i c).1 ≤ 14) ∧ (-1 ≤ (codeTo s i c).2.1 ∧ (codeTo s i c).2.1 ≤ 20) ∧ (0 ≤ (codeTo s i c).2.2 ∧ (codeTo s i c).2.2 ≤ 20)
  | 0, _ => by simp [codeTo]
  | c + 1, h => by
    obtain ⟨h1, h2, h3⟩ := codeTo_range s i c (by omega)
    have hc : c < nmL.length := by rw [nmL_len]; omega
    have hn : (nmL.getD c ByteArray.empty).size ≤ 20 := by
      rw [List.getD_eq_getElem?_getD, List.getElem?_eq_getElem hc]
      exact nm_short _ (List.getElem_mem hc)
    have hcp := cp_le s i (nmL.getD c ByteArray.empty)
    rw [codeTo, codeStep]
    split
    · refine ⟨?_, ?_, ?_⟩ <;> simp only <;> omega
    · refine ⟨?_, ?_, ?_⟩ <;> simp only <;> omega
end Go.Proofs.YtggngahmafbihaaGreatDoor
namespace Go.Proofs.YtggngahmafbihaaGreatDoor
open Go.RowKit Go.Lib

theorem cpl_step (s : ByteArray) (i : Nat) (n : ByteArray) (f k : Nat) (h : k < n.size ∧ i + k < s.size ∧ pk s (i + k) = pk n k) : cpl s i n (f + 1) k = cpl s i n f (k + 1) := by
  rw [cpl, if_pos h]
theorem cpl_stop (s : ByteArray) (i : Nat) (n : ByteArray) (f k : Nat) (h : ¬(k < n.size ∧ i + k < s.size ∧ pk s (i + k) = pk n k)) : cpl s i n f k = k := by
  cases f with
  | zero => rfl
  | succ f => rw [cpl, if_neg h]

theorem names_cell (w : World) (c : Nat) (hc : c < 15) (n : Nat) : ((w.alloc (.cells (nmL.map Value.string).toArray 9)).drewN n).cell? ⟨w.heap.size, c, none⟩ = some (.string (nmL.getD c ByteArray.empty)) := by
  show (w.alloc (.cells (nmL.map Value.string).toArray 9)).cell? ⟨w.heap.size, c, none⟩ = _
  rw [World.cell?_alloc_at _ _ _ _ rfl]
  have hc' : c < nmL.length := by rw [nmL_len]; omega
  rw [List.getD_eq_getElem?_getD, List.getElem?_eq_getElem hc']
  simp [hc']

set_option maxRecDepth 100000 in
set_option maxHeartbeats 2000000 in
theorem code_c (R : Nat) (s : ByteArray) (i : Nat) (w : World) (h : RdAt w R s i true) (hs : s.size ≤ 1000000000) (hi : i ≤ s.size) :
    Calls Tryz.prog 194 #[.pointer (some ⟨R, 0, none⟩)] w fun e w' => e = .returned (.int .i64 (codeSp s i).2.2) ∧ Rds w w' R s (codeSp s i).1 (codeSp s i).2.1 := by
  have hRl := h.lt
  have HNM := Lib.hid (names_cell w)
  obtain ⟨w1, hw1⟩ : ∃ w1, w1 = w.alloc (.cells (nmL.map Value.string).toArray 9) := ⟨_, rfl⟩
  have hr1 : Rds w w1 R s i true := by rw [hw1]; exact (Rds.of h).alloc _
  have hnm := names_c w
  rw [← hw1] at HNM hnm
  have NMC := Lib.hid (hnm.mono (fun e w' ⟨he, hw⟩ => (⟨he, hw.symm⟩ : e = _ ∧ w1 = w')))
  clear hnm
  have HR1 := Lib.hid hr1
  have a0 := hr1.at_.c0
  have a1 := hr1.at_.c1
  have a2 := hr1.at_.c2
  have af1 := hr1.at_.fr 1
  have af2 := hr1.at_.fr 2
  clear hr1 h
  go_enter Tryz.func194, Tryz.ntmps194
  go_wp2_with fail
  refine NMC.out.mono ?_
  rintro e w' ⟨rfl, rfl⟩
  clear hw1
  go_wp2_with fail
  go_loopg [3, 4, 5, 11] 15 (fun k v3 v4 v5 v11 wr => ∃ (c n : Nat) (x y z : Int), c + k = 15 ∧ v11 = .int .i64 c ∧ wr = w1.drewN n ∧ v3 = .int .i64 x ∧ v4 = .int .i64 y ∧ v5 = .int .i64 z ∧ Hid (codeTo s i c = (x, y, z)))
  case atStart => exact ⟨0, 0, 0, -1, 0, rfl, rfl, rfl, rfl, rfl, rfl, rfl⟩
  case round =>
    obtain ⟨c, n, x, y, z, hck, rfl, rfl, rfl, rfl, rfl, hct⟩ := hrel
    have hrng := codeTo_range s i c (by omega)
    rw [hct.out] at hrng
    obtain ⟨⟨x1, x2⟩, ⟨y1, y2⟩, ⟨z1, z2⟩⟩ := hrng
    simp only at x1 x2 y1 y2 z1 z2
    by_cases hlt : c < 15
    · obtain ⟨f, rfl⟩ : ∃ f, gk = f + 1 := ⟨gk - 1, by omega⟩
      obtain ⟨nm, hnm⟩ : ∃ nm, nm = nmL.getD c ByteArray.empty := ⟨_, rfl⟩
      have hcell := HNM.out c hlt n
      rw [← hnm] at hcell
      have hnl : nm.size ≤ 20 := by
        rw [hnm, List.getD_eq_getElem?_getD, List.getElem?_eq_getElem (by rw [nmL_len]; omega)]
        exact nm_short _ (List.getElem_mem _)
      have HST := Lib.hid (show codeTo s i (c + 1) = codeStep s i nm c (x, y, z) by rw [codeTo, hct.out, hnm])
      clear hnm
      go_wp2_with fail
      go_loopg [8] (nm.size + 1) (fun k' v8 wr => ∃ (m n' : Nat), v8 = .int .i64 m ∧ wr = w1.drewN n' ∧ m ≤ nm.size ∧ nm.size + 1 = m + k' ∧ Hid (cpl s i nm k' m = cp s i nm))
      case atStart => exact ⟨0, n, rfl, rfl, Nat.zero_le _, by omega, rfl⟩
      case round =>
        obtain ⟨m, n', rfl, rfl, hm, hmk, hcp⟩ := hrel
        obtain ⟨f', rfl⟩ : ∃ f', gk = f' + 1 := ⟨gk - 1, by omega⟩
        by_cases hm1 : m < nm.size
        · have t1 : decide ((m : Int) < (nm.size : Int)) = true := by simpa using hm1
          by_cases hm2 : i + m < s.size
          · by_cases hb : pk s (i + m) = pk nm m
            · have HCP := Lib.hid ((cpl_step s i nm f' m ⟨hm1, hm2, hb⟩).symm.trans hcp.out)
              have hq : ((s[i + m].toNat : Int) == (nm[m].toNat : Int)) = true := by rw [← pk_in s _ hm2, ← pk_in nm _ hm1, hb]; simp
              have hm2' : (i : Int) + (m : Int) < (s.size : Int) := by omega
              have g1 : IntKind.i64.wrap ((i : Int) + (m : Int)) = (i : Int) + (m : Int) := IntWalk.i64_in _ ⟨by omega, by omega⟩
              have g2 : (0 : Int) ≤ (i : Int) + (m : Int) := by omega
              have g3 : ((i : Int) + (m : Int)).toNat = i + m := by omega
              clear hb t1
              go_wp2
              go_quiet (fail)
              clear g1
              go_wp2
              go_roundg f'
              case measure => omega
              case rel => exact ⟨m + 1, _, by go_num, rfl, by omega, by omega, HCP.out⟩
            · have HM := Lib.hid (hcp.out.symm.trans (cpl_stop s i nm _ m (fun hh => hb hh.2.2)))
              have hq : ((s[i + m].toNat : Int) == (nm[m].toNat : Int)) = false := by
                rw [← pk_in s _ hm2, ← pk_in nm _ hm1, beq_eq_false_iff_ne]
                intro e
                exact hb (UInt8.toNat_inj.1 (by omega))
              have hm2' : (i : Int) + (m : Int) < (s.size : Int) := by omega
              clear hb t1
              by_cases hfull : m = nm.size
              · have e1 : ((m : Int) == (nm.size : Int)) = true := by rw [hfull]; simp
                by_cases hmore : y < (m : Int)
                · have HS2 := Lib.hid (show codeTo s i (c + 1) = ((c : Int), (m : Int), max z (m : Int)) by rw [HST.out, codeStep, if_pos ⟨by rw [HM.out, hfull], by rw [HM.out]; exact hmore⟩, HM.out])
                  clear hfull
                  have g2 : (0 : Int) ≤ (i : Int) + (m : Int) := by omega
                  have g3 : ((i : Int) + (m : Int)).toNat = i + m := by omega
                  have g1 : IntKind.i64.wrap ((i : Int) + (m : Int)) = (i : Int) + (m : Int) := IntWalk.i64_in _ ⟨by omega, by omega⟩
                  go_wp2
                  go_quiet (fail)
                  clear g1
                  go_wp2
                  all_goals
                    go_roundg f
                    case measure => omega
                    case rel => exact ⟨c + 1, _, _, _, max z (m : Int), by omega, by go_num, rfl, rfl, rfl, (by congr 1; omega), HS2.out⟩
                · have hmore' : (m : Int) ≤ y := by omega
                  have HS2 := Lib.hid (show codeTo s i (c + 1) = (x, y, max z (m : Int)) by rw [HST.out, codeStep, if_neg (by rw [HM.out]; simp only; omega), HM.out])
                  clear hmore hfull
                  have g2 : (0 : Int) ≤ (i : Int) + (m : Int) := by omega
                  have g3 : ((i : Int) + (m : Int)).toNat = i + m := by omega
                  have g1 : IntKind.i64.wrap ((i : Int) + (m : Int)) = (i : Int) + (m : Int) := IntWalk.i64_in _ ⟨by omega, by omega⟩
                  go_wp2
                  go_quiet (fail)
                  clear g1
                  go_wp2
                  all_goals
                    go_roundg f
                    case measure => omega
                    case rel => exact ⟨c + 1, _, _, _, max z (m : Int), by omega, by go_num, rfl, rfl, rfl, (by congr 1; omega), HS2.out⟩
              · have e1 : ((m : Int) == (nm.size : Int)) = false := by rw [beq_eq_false_iff_ne]; omega
                have HS2 := Lib.hid (show codeTo s i (c + 1) = (x, y, max z (m : Int)) by rw [HST.out, codeStep, if_neg (by rw [HM.out]; omega), HM.out])
                clear hfull
                have g2 : (0 : Int) ≤ (i : Int) + (m : Int) := by omega
                have g3 : ((i : Int) + (m : Int)).toNat = i + m := by omega
                have g1 : IntKind.i64.wrap ((i : Int) + (m : Int)) = (i : Int) + (m : Int) := IntWalk.i64_in _ ⟨by omega, by omega⟩
                go_wp2
                go_quiet (fail)
                clear g1
                go_wp2
                all_goals
                  go_roundg f
                  case measure => omega
                  case rel => exact ⟨c + 1, _, _, _, max z (m : Int), by omega, by go_num, rfl, rfl, rfl, (by congr 1; omega), HS2.out⟩
          · have HM := Lib.hid (hcp.out.symm.trans (cpl_stop s i nm _ m (fun hh => hm2 hh.2.1)))
            have hm2' : (s.size : Int) ≤ (i : Int) + (m : Int) := by omega
            have hm2'' : decide ((i : Int) + (m : Int) < (s.size : Int)) = false := by simpa using hm2'
            clear t1 hm2
            by_cases hfull : m = nm.size
            · have e1 : ((m : Int) == (nm.size : Int)) = true := by rw [hfull]; simp
              by_cases hmore : y < (m : Int)
              · have HS2 := Lib.hid (show codeTo s i (c + 1) = ((c : Int), (m : Int), max z (m : Int)) by rw [HST.out, codeStep, if_pos ⟨by rw [HM.out, hfull], by rw [HM.out]; exact hmore⟩, HM.out])
                clear hfull
                have g2 : (0 : Int) ≤ (i : Int) + (m : Int) := by omega
                have g3 : ((i : Int) + (m : Int)).toNat = i + m := by omega
                have g1 : IntKind.i64.wrap ((i : Int) + (m : Int)) = (i : Int) + (m : Int) := IntWalk.i64_in _ ⟨by omega, by omega⟩
                go_wp2
                go_quiet (fail)
                clear g1
                go_wp2
                all_goals
                  go_roundg f
                  case measure => omega
                  case rel => exact ⟨c + 1, _, _, _, max z (m : Int), by omega, by go_num, rfl, rfl, rfl, (by congr 1; omega), HS2.out⟩
              · have hmore' : (m : Int) ≤ y := by omega
                have HS2 := Lib.hid (show codeTo s i (c + 1) = (x, y, max z (m : Int)) by rw [HST.out, codeStep, if_neg (by rw [HM.out]; simp only; omega), HM.out])
                clear hmore hfull
                have g2 : (0 : Int) ≤ (i : Int) + (m : Int) := by omega
                have g3 : ((i : Int) + (m : Int)).toNat = i + m := by omega
                have g1 : IntKind.i64.wrap ((i : Int) + (m : Int)) = (i : Int) + (m : Int) := IntWalk.i64_in _ ⟨by omega, by omega⟩
                go_wp2
                go_quiet (fail)
                clear g1
                go_wp2
                all_goals
                  go_roundg f
                  case measure => omega
                  case rel => exact ⟨c + 1, _, _, _, max z (m : Int), by omega, by go_num, rfl, rfl, rfl, (by congr 1; omega), HS2.out⟩
            · have e1 : ((m : Int) == (nm.size : Int)) = false := by rw [beq_eq_false_iff_ne]; omega
              have HS2 := Lib.hid (show codeTo s i (c + 1) = (x, y, max z (m : Int)) by rw [HST.out, codeStep, if_neg (by rw [HM.out]; omega), HM.out])
              clear hfull
              have g2 : (0 : Int) ≤ (i : Int) + (m : Int) := by omega
              have g3 : ((i : Int) + (m : Int)).toNat = i + m := by omega
              have g1 : IntKind.i64.wrap ((i : Int) + (m : Int)) = (i : Int) + (m : Int) := IntWalk.i64_in _ ⟨by omega, by omega⟩
              go_wp2
              go_quiet (fail)
              clear g1
              go_wp2
              all_goals
                go_roundg f
                case measure => omega
                case rel => exact ⟨c + 1, _, _, _, max z (m : Int), by omega, by go_num, rfl, rfl, rfl, (by congr 1; omega), HS2.out⟩
        · have HM := Lib.hid (hcp.out.symm.trans (cpl_stop s i nm _ m (fun hh => hm1 hh.1)))
          have t1 : decide (m < nm.size) = false := by simpa using hm1
          have hm1' : (nm.size : Int) ≤ (m : Int) := by omega
          clear hm1
          by_cases hfull : m = nm.size
          · have e1 : ((m : Int) == (nm.size : Int)) = true := by rw [hfull]; simp
            by_cases hmore : y < (m : Int)
            · have HS2 := Lib.hid (show codeTo s i (c + 1) = ((c : Int), (m : Int), max z (m : Int)) by rw [HST.out, codeStep, if_pos ⟨by rw [HM.out, hfull], by rw [HM.out]; exact hmore⟩, HM.out])
              clear hfull
              go_wp2
              go_quiet (fail)
              go_wp2
              all_goals
                go_roundg f
                case measure => omega
                case rel => exact ⟨c + 1, _, _, _, max z (m : Int), by omega, by go_num, rfl, rfl, rfl, (by congr 1; omega), HS2.out⟩
            · have hmore' : (m : Int) ≤ y := by omega
              have HS2 := Lib.hid (show codeTo s i (c + 1) = (x, y, max z (m : Int)) by rw [HST.out, codeStep, if_neg (by rw [HM.out]; simp only; omega), HM.out])
              clear hmore hfull
              go_wp2
              go_quiet (fail)
              go_wp2
              all_goals
                go_roundg f
                case measure => omega
                case rel => exact ⟨c + 1, _, _, _, max z (m : Int), by omega, by go_num, rfl, rfl, rfl, (by congr 1; omega), HS2.out⟩
          · have e1 : ((m : Int) == (nm.size : Int)) = false := by rw [beq_eq_false_iff_ne]; omega
            have HS2 := Lib.hid (show codeTo s i (c + 1) = (x, y, max z (m : Int)) by rw [HST.out, codeStep, if_neg (by rw [HM.out]; omega), HM.out])
            clear hfull
            go_wp2
            go_quiet (fail)
            go_wp2
            all_goals
              go_roundg f
              case measure => omega
              case rel => exact ⟨c + 1, _, _, _, max z (m : Int), by omega, by go_num, rfl, rfl, rfl, (by congr 1; omega), HS2.out⟩
    · have hc15 : c = 15 := by omega
      subst hc15
      have HSP := Lib.hid (show codeSp s i = if y < 0 then (i + z.toNat, false, x) else (i + y.toNat, true, x) by unfold codeSp; rw [hct.out])
      obtain ⟨z', rfl⟩ := Int.eq_ofNat_of_zero_le z1
      by_cases hy : y < 0
      · rw [if_pos hy, Int.toNat_natCast] at HSP
        go_wp2
        go_ret
        rw [HSP.out]
        exact ⟨ret_int rfl, ((HR1.out.drewN n).set2 false).set1 (i + z')⟩
      · rw [if_neg hy] at HSP
        have hy' : 0 ≤ y := by omega
        obtain ⟨y', rfl⟩ := Int.eq_ofNat_of_zero_le hy'
        rw [Int.toNat_natCast] at HSP
        clear hy
        go_wp2
        go_ret
        rw [HSP.out]
        exact ⟨ret_int rfl, (HR1.out.drewN n).set1 (i + y')⟩
end Go.Proofs.YtggngahmafbihaaGreatDoor
namespace Go.Proofs.YtggngahmafbihaaGreatDoor
open Go.RowKit Go.Lib

def val1 (k n : Int) (s : ByteArray) (sub : VL) : VL := .cons k n s sub .nil

mutual
/-- A value at a place: the place behind it, whether all is right, the value. -/
def valSp (s : ByteArray) : Nat → Nat → Nat × Bool × VL
  | 0, i => (i, false, .nil)
  | f + 1, i =>
    if pk s i = 35 then ((numSp s (-2147483648) 2147483647 (i + 1)).1, (numSp s (-2147483648) 2147483647 (i + 1)).2.1, val1 1 (numSp s (-2147483648) 2147483647 (i + 1)).2.2 ByteArray.empty .nil)
    else if pk s i = 45 ∨ digB (pk s i) = true then ((numSp s (-9223372036854775808) 9223372036854775807 i).1, (numSp s (-9223372036854775808) 9223372036854775807 i).2.1, val1 0 (numSp s (-9223372036854775808) 9223372036854775807 i).2.2 ByteArray.empty .nil)
    else if pk s i = 34 then ((strSp s i).1, (strSp s i).2.1, val1 2 0 ⟨(strSp s i).2.2.toArray⟩ .nil)
    else if pk s i = 123 then
      if pk s (i + 1) = 125 then (i + 2, true, val1 4 0 ByteArray.empty .nil)
      else ((lstSp s f (i + 1) .nil).1, (lstSp s f (i + 1) .nil).2.1, val1 4 0 ByteArray.empty (lstSp s f (i + 1) .nil).2.2)
    else ((codeSp s i).1, (codeSp s i).2.1, val1 3 (codeSp s i).2.2 ByteArray.empty .nil)
/-- The items of a list, from one of them on. -/
def lstSp (s : ByteArray) : Nat → Nat → VL → Nat × Bool × VL
  | 0, i, acc => (i, false, acc)
  | f + 1, i, acc =>
    if (valSp s f i).2.1 = false then ((valSp s f i).1, false, acc)
    else if pk s (valSp s f i).1 = 44 then
      if pk s ((valSp s f i).1 + 1) = 32 then lstSp s f ((valSp s f i).1 + 2) (acc.app (valSp s f i).2.2)
      else ((valSp s f i).1 + 1, false, acc.app (valSp s f i).2.2)
    else if pk s (valSp s f i).1 = 125 then ((valSp s f i).1 + 1, true, acc.app (valSp s f i).2.2)
    else ((valSp s f i).1, false, acc.app (valSp s f i).2.2)
end

theorem numLoop_place (s : ByteArray) (low high : Int) (neg : Bool) : ∀ (f i : Nat) (n : Int), i ≤ s.size → i ≤ (numLoop s low high neg f i n).1 ∧ (numLoop s low high neg f i n).1 ≤ s.size
  | 0, i, n, h => ⟨Nat.le_refl _, h⟩
  | f + 1, i, n, h => by
    cases hd : digB (pk s i) with
    | false => rw [numLoop_end _ _ _ _ _ _ _ hd]; exact ⟨Nat.le_refl _, h⟩
    | true =>
      have hi := digB_in hd
      by_cases hg : n < -922337203685477580 ∨ 10 * n < -9223372036854775808 + ((pk s i).toNat - 48 : Int) ∨ (neg = true ∧ 10 * n - ((pk s i).toNat - 48 : Int) < low) ∨ (neg = false ∧ 10 * n - ((pk s i).toNat - 48 : Int) < -high)
      · rw [numLoop_bad _ _ _ _ _ _ _ hd hg]; exact ⟨Nat.le_refl _, h⟩
      · rw [numLoop_step _ _ _ _ _ _ _ hd hg]
        have := numLoop_place s low high neg f (i + 1) (10 * n - ((pk s i).toNat - 48 : Int)) (by omega)
        omega

theorem numSp_place (s : ByteArray) (low high : Int) (i : Nat) (h : i ≤ s.size) : i ≤ (numSp s low high i).1 ∧ (numSp s low high i).1 ≤ s.size := by
  unfold numSp
  split
  · rename_i h45
    have hi : i < s.size := pk_lt (by rw [h45]; decide)
    split
    · simp only; omega
    · have := numLoop_place s low high true (s.size + 1) (i + 1) 0 (by omega)
      omega
  · split
    · rename_i h48
      have hi : i < s.size := pk_lt (by rw [h48]; decide)
      simp only; omega
    · split
      · exact ⟨Nat.le_refl _, h⟩
      · exact numLoop_place s low high false (s.size + 1) i 0 h

theorem strLoop_place (s : ByteArray) : ∀ (f i : Nat) (l : List UInt8), i ≤ s.size → i ≤ (strLoop s f i l).1 ∧ (strLoop s f i l).1 ≤ s.size ∧ (0 < f → s.size < i + f → (strLoop s f i l).2.1 = true → pk s (strLoop s f i l).1 = 34)
  | 0, i, l, h => ⟨Nat.le_refl _, h, fun h0 => absurd h0 (by omega)⟩
  | f + 1, i, l, h => by
    by_cases h34 : pk s i = 34
    · rw [strLoop_end _ _ _ _ h34]; exact ⟨Nat.le_refl _, h, fun _ _ _ => h34⟩
    by_cases h92 : pk s i = 92
    · have hi : i < s.size := pk_lt (by rw [h92]; decide)
      by_cases hy : pk s (i + 1) = 34 ∨ pk s (i + 1) = 92
      · rw [strLoop_esc _ _ _ _ h92 hy]
        have hi2 : i + 1 < s.size := pk_lt (by rcases hy with e | e <;> rw [e] <;> decide)
        have := strLoop_place s f (i + 2) (l ++ [pk s (i + 1)]) (by omega)
        exact ⟨by omega, this.2.1, fun _ hb hc => this.2.2 (by omega) (by omega) hc⟩
      · rw [strLoop_esc_bad _ _ _ _ h92 hy]; exact ⟨by simp, by simp only; omega, fun _ _ hc => by cases hc⟩
    cases hp : prC (pk s i) with
    | false => rw [strLoop_bad _ _ _ _ h34 h92 hp]; exact ⟨Nat.le_refl _, h, fun _ _ hc => by cases hc⟩
    | true =>
      have hi : i < s.size := pk_lt (fun e => by rw [e] at hp; exact absurd hp (by decide))
      rw [strLoop_next _ _ _ _ h34 h92 hp]
      have := strLoop_place s f (i + 1) (l ++ [pk s i]) (by omega)
      exact ⟨by omega, this.2.1, fun _ hb hc => this.2.2 (by omega) (by omega) hc⟩

theorem strSp_place (s : ByteArray) (i : Nat) (h : i < s.size) : i ≤ (strSp s i).1 ∧ (strSp s i).1 ≤ s.size := by
  have := strLoop_place s (s.size + 1) (i + 1) [] (by omega)
  unfold strSp
  simp only
  split
  · rename_i hok
    have h34 := this.2.2 (by omega) (by omega) hok
    have := pk_lt (s := s) (i := (strLoop s (s.size + 1) (i + 1) []).1) (by rw [h34]; decide)
    omega
  · omega

theorem cpl_room (s : ByteArray) (i : Nat) (n : ByteArray) : ∀ (f k : Nat), i + k ≤ s.size → i + cpl s i n f k ≤ s.size
  | 0, k, h => h
  | f + 1, k, h => by
    unfold cpl
    split
    · rename_i hc
      exact cpl_room s i n f (k + 1) (by omega)
    · exact h

theorem codeTo_room (s : ByteArray) (i : Nat) (h : i ≤ s.size) : ∀ c, (i : Int) + (codeTo s i c).2.1 ≤ s.size ∧ (i : Int) + (codeTo s i c).2.2 ≤ s.size
  | 0 => by simp [codeTo]; omega
  | c + 1 => by
    obtain ⟨h1, h2⟩ := codeTo_room s i h c
    have h3 := cpl_room s i (nmL.getD c ByteArray.empty) ((nmL.getD c ByteArray.empty).size + 1) 0 (by omega)
    have h4 : i + cp s i (nmL.getD c ByteArray.empty) ≤ s.size := h3
    rw [codeTo, codeStep]
    split <;> simp only <;> omega

theorem codeSp_place (s : ByteArray) (i : Nat) (h : i ≤ s.size) : i ≤ (codeSp s i).1 ∧ (codeSp s i).1 ≤ s.size := by
  have h1 := codeTo_room s i h 15
  have h2 := codeTo_range s i 15 (Nat.le_refl _)
  unfold codeSp
  simp only
  split
  · simp only; omega
  · simp only; omega

mutual
theorem valSp_place (s : ByteArray) : ∀ (f i : Nat), i ≤ s.size → i ≤ (valSp s f i).1 ∧ (valSp s f i).1 ≤ s.size
  | 0, i, h => by rw [valSp]; exact ⟨Nat.le_refl _, h⟩
  | f + 1, i, h => by
    rw [valSp]
    split
    · rename_i e
      have hi : i < s.size := pk_lt (by rw [e]; decide)
      have := numSp_place s (-2147483648) 2147483647 (i + 1) (by omega)
      simp only; omega
    · split
      · exact numSp_place s _ _ i h
      · split
        · rename_i e
          exact strSp_place s i (pk_lt (by rw [e]; decide))
        · split
          · rename_i e
            have hi : i < s.size := pk_lt (by rw [e]; decide)
            split
            · rename_i e2
              have hi2 : i + 1 < s.size := pk_lt (by rw [e2]; decide)
              simp only; omega
            · have := lstSp_place s f (i + 1) .nil (by omega)
              simp only; omega
          · exact codeSp_place s i h
theorem lstSp_place (s : ByteArray) : ∀ (f i : Nat) (acc : VL), i ≤ s.size → i ≤ (lstSp s f i acc).1 ∧ (lstSp s f i acc).1 ≤ s.size
  | 0, i, acc, h => by rw [lstSp]; exact ⟨Nat.le_refl _, h⟩
  | f + 1, i, acc, h => by
    have hv := valSp_place s f i h
    rw [lstSp]
    split
    · exact hv
    · split
      · rename_i e
        have hi : (valSp s f i).1 < s.size := pk_lt (by rw [e]; decide)
        split
        · rename_i e2
          have hi2 : (valSp s f i).1 + 1 < s.size := pk_lt (by rw [e2]; decide)
          have := lstSp_place s f ((valSp s f i).1 + 2) (acc.app (valSp s f i).2.2) (by omega)
          omega
        · simp only; omega
      · split
        · rename_i e
          have hi : (valSp s f i).1 < s.size := pk_lt (by rw [e]; decide)
          simp only; omega
        · exact hv
end

/-- One value comes out. -/
theorem valSp_one (s : ByteArray) (f i : Nat) (h : (valSp s f i).2.1 = true) : ∃ k n t sub, (valSp s f i).2.2 = val1 k n t sub := by
  cases f with
  | zero => rw [valSp] at h; cases h
  | succ f =>
    rw [valSp] at h ⊢
    split
    · exact ⟨_, _, _, _, rfl⟩
    · split
      · exact ⟨_, _, _, _, rfl⟩
      · split
        · exact ⟨_, _, _, _, rfl⟩
        · split
          · split <;> exact ⟨_, _, _, _, rfl⟩
          · exact ⟨_, _, _, _, rfl⟩
end Go.Proofs.YtggngahmafbihaaGreatDoor
