/- Contracts of the functions that the statement reaches, and the plain mathematics beneath: several texts joined. -/
import Derived.Test.YtbalpfpcbckghaaGreatDoorFtxAA
namespace Go.Proofs.YtbalpfpcbckghaaGreatDoor
open Go.RowKit

/-- A list of nodes: each has what it is, a line, a name, a value (kind, number, text, items), and nodes. -/
inductive NL where
  | nil : NL
  | cons (op ln : Int) (s : ByteArray) (k n : Int) (t : ByteArray) (v : VL) (sub : NL) (rest : NL) : NL

namespace NL
def len : NL → Nat
  | .nil => 0
  | .cons _ _ _ _ _ _ _ _ r => r.len + 1
def app : NL → NL → NL
  | .nil, b => b
  | .cons op ln s k n t v sub r, b => .cons op ln s k n t v sub (r.app b)
theorem len_app : ∀ a b : NL, (a.app b).len = a.len + b.len
  | .nil, b => by simp [app, len]
  | .cons op ln s k n t v sub r, b => by simp [app, len, len_app r]; omega
def take : Nat → NL → NL
  | 0, _ => .nil
  | _ + 1, .nil => .nil
  | i + 1, .cons op ln s k n t v sub r => .cons op ln s k n t v sub (r.take i)
def drop : Nat → NL → NL
  | 0, l => l
  | _ + 1, .nil => .nil
  | i + 1, .cons _ _ _ _ _ _ _ _ r => r.drop i
theorem take_app_drop : ∀ (i : Nat) (l : NL), (l.take i).app (l.drop i) = l
  | 0, l => by cases l <;> rfl
  | i + 1, .nil => rfl
  | i + 1, .cons op ln s k n t v sub r => by rw [take, drop, app, take_app_drop i r]
theorem drop_len : ∀ l : NL, l.drop l.len = .nil
  | .nil => rfl
  | .cons op ln s k n t v sub r => by rw [len, drop, drop_len r]
theorem take_len : ∀ l : NL, l.take l.len = l
  | .nil => rfl
  | .cons op ln s k n t v sub r => by rw [len, take, take_len r]
theorem len_drop : ∀ (i : Nat) (l : NL), (l.drop i).len = l.len - i
  | 0, l => by rw [drop]; rfl
  | i + 1, .nil => by simp [drop, len]
  | i + 1, .cons op ln s k n t v sub r => by rw [drop, len_drop i r, len]; omega
theorem drop_of_lt : ∀ (i : Nat) (l : NL), i < l.len → ∃ op ln s k n t v sub, l.drop i = .cons op ln s k n t v sub (l.drop (i + 1))
  | _, .nil, h => by simp [len] at h
  | 0, .cons op ln s k n t v sub r, _ => ⟨op, ln, s, k, n, t, v, sub, by rw [drop, drop, drop]⟩
  | i + 1, .cons op ln s k n t v sub r, h => by
    rw [len] at h
    obtain ⟨op', ln', s', k', n', t', v', sub', e⟩ := drop_of_lt i r (by omega)
    exact ⟨op', ln', s', k', n', t', v', sub', by rw [drop, drop, e]⟩
theorem take_succ : ∀ (i : Nat) (l : NL) (op ln : Int) (s : ByteArray) (k n : Int) (t : ByteArray) (v : VL) (sub : NL), l.drop i = .cons op ln s k n t v sub (l.drop (i + 1)) → l.take (i + 1) = (l.take i).app (.cons op ln s k n t v sub .nil)
  | 0, .nil, op, ln, s, k, n, t, v, sub, h => by simp [drop] at h
  | 0, .cons op ln s k n t v sub r, op', ln', s', k', n', t', v', sub', h => by
    simp only [drop] at h
    injection h with h1 h2 h3 h4 h5 h6 h7 h8 _
    subst h1; subst h2; subst h3; subst h4; subst h5; subst h6; subst h7; subst h8
    simp [take, app]
  | i + 1, .nil, op, ln, s, k, n, t, v, sub, h => by simp [drop] at h
  | i + 1, .cons op0 ln0 s0 k0 n0 t0 v0 sub0 r, op, ln, s, k, n, t, v, sub, h => by
    rw [drop, drop] at h
    rw [take, take_succ i r op ln s k n t v sub h, take, app]
end NL

/-- A list of nodes in memory: its cells, from an address on; all in blocks of a sort. -/
def RpN (w : World) (S : Nat → Prop) : NL → Option Addr → Prop
  | .nil, _ => True
  | .cons op ln s k n t v sub rest, A => ∃ (b o : Nat) (va : Option Addr) (vc : Nat) (sa : Option Addr) (sc : Nat), A = some ⟨b, o, none⟩ ∧ S b ∧
      w.cell? ⟨b, o, none⟩ = some (.int .i64 op) ∧ w.cell? ⟨b, o + 1, none⟩ = some (.int .i64 ln) ∧ w.cell? ⟨b, o + 2, none⟩ = some (.string s) ∧
      w.cell? ⟨b, o + 3, none⟩ = some (.int .i64 k) ∧ w.cell? ⟨b, o + 4, none⟩ = some (.int .i64 n) ∧ w.cell? ⟨b, o + 5, none⟩ = some (.string t) ∧
      w.cell? ⟨b, o + 6, none⟩ = some (.slice va v.len vc) ∧ v.len ≤ vc ∧ RpL w S v va ∧
      w.cell? ⟨b, o + 7, none⟩ = some (.slice sa sub.len sc) ∧ sub.len ≤ sc ∧ RpN w S sub sa ∧ RpN w S rest (some ⟨b, o + 8, none⟩)

theorem RpN.keep {w w' : World} {S S' : Nat → Prop} (hw : ∀ b, S b → w'.heap[b]? = w.heap[b]?) (hS : ∀ b, S b → S' b) : ∀ (l : NL) (A : Option Addr), RpN w S l A → RpN w' S' l A
  | .nil, _, _ => trivial
  | .cons op ln s k n t v sub rest, A, ⟨b, o, va, vc, sa, sc, hA, hb, h0, h1, h2, h3, h4, h5, h6, hv, hvr, h7, hc, hs, hr⟩ => by
    have hk : ∀ p : Addr, p.block = b → w'.cell? p = w.cell? p := fun p hp => World.cell?_of_block (w := w) (hw p.block (by rw [hp]; exact hb))
    exact ⟨b, o, va, vc, sa, sc, hA, hS b hb, (hk _ rfl).trans h0, (hk _ rfl).trans h1, (hk _ rfl).trans h2, (hk _ rfl).trans h3, (hk _ rfl).trans h4, (hk _ rfl).trans h5, (hk _ rfl).trans h6, hv, RpL.keep hw hS v va hvr, (hk _ rfl).trans h7, hc, RpN.keep hw hS sub sa hs, RpN.keep hw hS rest _ hr⟩

theorem RpN.below {w w' : World} {S : Nat → Prop} {B : Nat} {l : NL} {A : Option Addr} (h : RpN w S l A) (hb : Below B w w') (hS : ∀ b, S b → b < B) : RpN w' S l A :=
  h.keep (fun b hbS => hb.block b (hS b hbS)) (fun _ h => h)

theorem RpN.grown {w w' : World} {S : Nat → Prop} {R : Option Nat} {l : NL} {A : Option Addr} (h : RpN w S l A) (hb : w.grownBy w' R) (hS : ∀ b, S b → b < w.heap.size ∧ some b ≠ R) : RpN w' S l A :=
  h.keep (fun b hbS => hb.block b (hS b hbS).1 (hS b hbS).2) (fun _ h => h)

theorem RpN.wide {w : World} {S S' : Nat → Prop} {l : NL} {A : Option Addr} (h : RpN w S l A) (hS : ∀ b, S b → S' b) : RpN w S' l A := h.keep (fun _ _ => rfl) hS

/-- The i-th node of a list in memory. -/
theorem RpN.drop {w : World} {S : Nat → Prop} : ∀ (i : Nat) (l : NL) (b o : Nat), RpN w S l (some ⟨b, o, none⟩) → RpN w S (l.drop i) (some ⟨b, o + 8 * i, none⟩)
  | 0, l, b, o, h => by rw [NL.drop]; exact h
  | i + 1, .nil, _, _, _ => by rw [NL.drop]; trivial
  | i + 1, .cons op ln s k n t v sub r, b, o, ⟨b', o', va, vc, sa, sc, hA, _, _, _, _, _, _, _, _, _, _, _, _, _, hr⟩ => by
    injection hA with hA
    injection hA with h1 h2
    subst h1; subst h2
    have := RpN.drop i r b (o + 8) hr
    rw [NL.drop]
    rw [show o + 8 * (i + 1) = o + 8 + 8 * i from by omega]
    exact this
end Go.Proofs.YtbalpfpcbckghaaGreatDoor
