/-
  Values as plain data (a list of values, each with its items), and how such a list lies in memory.
-/
import Derived.Below
import Derived.Laws.OwnMore
import Derived.Laws.Rows
import Derived.Deep.Draws
namespace Go.Proofs.YtoemnccklakkeaaDoor
open Go.RowKit

/-- A list of values: each has a kind, a number, a text and items. -/
inductive VL where
  | nil : VL
  | cons (k n : Int) (s : ByteArray) (sub : VL) (rest : VL) : VL

namespace VL
def len : VL → Nat
  | .nil => 0
  | .cons _ _ _ _ r => r.len + 1
def app : VL → VL → VL
  | .nil, b => b
  | .cons k n s sub r, b => .cons k n s sub (r.app b)
theorem app_nil : ∀ a : VL, a.app .nil = a
  | .nil => rfl
  | .cons k n s sub r => by rw [app, app_nil r]
theorem app_assoc : ∀ a b c : VL, (a.app b).app c = a.app (b.app c)
  | .nil, _, _ => rfl
  | .cons k n s sub r, b, c => by rw [app, app, app, app_assoc r]
theorem len_app : ∀ a b : VL, (a.app b).len = a.len + b.len
  | .nil, b => by simp [app, len]
  | .cons k n s sub r, b => by simp [app, len, len_app r]; omega
def take : Nat → VL → VL
  | 0, _ => .nil
  | _ + 1, .nil => .nil
  | i + 1, .cons k n s sub r => .cons k n s sub (r.take i)
def drop : Nat → VL → VL
  | 0, l => l
  | _ + 1, .nil => .nil
  | i + 1, .cons _ _ _ _ r => r.drop i
theorem take_app_drop : ∀ (i : Nat) (l : VL), (l.take i).app (l.drop i) = l
  | 0, l => by cases l <;> rfl
  | i + 1, .nil => rfl
  | i + 1, .cons k n s sub r => by rw [take, drop, app, take_app_drop i r]
theorem drop_len : ∀ l : VL, l.drop l.len = .nil
  | .nil => rfl
  | .cons k n s sub r => by rw [len, drop, drop_len r]
theorem take_len : ∀ l : VL, l.take l.len = l
  | .nil => rfl
  | .cons k n s sub r => by rw [len, take, take_len r]
theorem len_drop : ∀ (i : Nat) (l : VL), (l.drop i).len = l.len - i
  | 0, l => by rw [drop]; rfl
  | i + 1, .nil => by simp [drop, len]
  | i + 1, .cons k n s sub r => by rw [drop, len_drop i r, len]; omega
theorem drop_of_lt : ∀ (i : Nat) (l : VL), i < l.len → ∃ k n s sub, l.drop i = .cons k n s sub (l.drop (i + 1))
  | _, .nil, h => by simp [len] at h
  | 0, .cons k n s sub r, _ => ⟨k, n, s, sub, by rw [drop, drop, drop]⟩
  | i + 1, .cons k n s sub r, h => by
    rw [len] at h
    obtain ⟨k', n', s', sub', e⟩ := drop_of_lt i r (by omega)
    exact ⟨k', n', s', sub', by rw [drop, drop, e]⟩
theorem take_succ : ∀ (i : Nat) (l : VL) (k n : Int) (s : ByteArray) (sub : VL), l.drop i = .cons k n s sub (l.drop (i + 1)) → l.take (i + 1) = (l.take i).app (.cons k n s sub .nil)
  | 0, .nil, k, n, s, sub, h => by simp [drop] at h
  | 0, .cons k n s sub r, k', n', s', sub', h => by
    simp only [drop] at h
    injection h with h1 h2 h3 h4 _
    subst h1; subst h2; subst h3; subst h4
    simp [take, app]
  | i + 1, .nil, k, n, s, sub, h => by simp [drop] at h
  | i + 1, .cons k0 n0 s0 sub0 r, k, n, s, sub, h => by
    rw [drop, drop] at h
    rw [take, take_succ i r k n s sub h, take, app]
end VL

/-- A list of values in memory: its cells, from an address on; all in blocks of a sort. -/
def RpL (w : World) (S : Nat → Prop) : VL → Option Addr → Prop
  | .nil, _ => True
  | .cons k n s sub rest, A => ∃ (b o : Nat) (sa : Option Addr) (sc : Nat), A = some ⟨b, o, none⟩ ∧ S b ∧
      w.cell? ⟨b, o, none⟩ = some (.int .i64 k) ∧ w.cell? ⟨b, o + 1, none⟩ = some (.int .i64 n) ∧ w.cell? ⟨b, o + 2, none⟩ = some (.string s) ∧
      w.cell? ⟨b, o + 3, none⟩ = some (.slice sa sub.len sc) ∧ sub.len ≤ sc ∧ RpL w S sub sa ∧ RpL w S rest (some ⟨b, o + 4, none⟩)

theorem RpL.keep {w w' : World} {S S' : Nat → Prop} (hw : ∀ b, S b → w'.heap[b]? = w.heap[b]?) (hS : ∀ b, S b → S' b) : ∀ (l : VL) (A : Option Addr), RpL w S l A → RpL w' S' l A
  | .nil, _, _ => trivial
  | .cons k n s sub rest, A, ⟨b, o, sa, sc, hA, hb, h0, h1, h2, h3, hc, hs, hr⟩ => by
    have hk : ∀ p : Addr, p.block = b → w'.cell? p = w.cell? p := fun p hp => World.cell?_of_block (w := w) (hw p.block (by rw [hp]; exact hb))
    exact ⟨b, o, sa, sc, hA, hS b hb, (hk _ rfl).trans h0, (hk _ rfl).trans h1, (hk _ rfl).trans h2, (hk _ rfl).trans h3, hc, RpL.keep hw hS sub sa hs, RpL.keep hw hS rest _ hr⟩

theorem RpL.below {w w' : World} {S : Nat → Prop} {B : Nat} {l : VL} {A : Option Addr} (h : RpL w S l A) (hb : Below B w w') (hS : ∀ b, S b → b < B) : RpL w' S l A :=
  h.keep (fun b hbS => hb.block b (hS b hbS)) (fun _ h => h)

theorem RpL.grown {w w' : World} {S : Nat → Prop} {R : Option Nat} {l : VL} {A : Option Addr} (h : RpL w S l A) (hb : w.grownBy w' R) (hS : ∀ b, S b → b < w.heap.size ∧ some b ≠ R) : RpL w' S l A :=
  h.keep (fun b hbS => hb.block b (hS b hbS).1 (hS b hbS).2) (fun _ h => h)

theorem RpL.wide {w : World} {S S' : Nat → Prop} {l : VL} {A : Option Addr} (h : RpL w S l A) (hS : ∀ b, S b → S' b) : RpL w S' l A := h.keep (fun _ _ => rfl) hS

/-- The i-th value of a list in memory. -/
theorem RpL.drop {w : World} {S : Nat → Prop} : ∀ (i : Nat) (l : VL) (b o : Nat), RpL w S l (some ⟨b, o, none⟩) → RpL w S (l.drop i) (some ⟨b, o + 4 * i, none⟩)
  | 0, l, b, o, h => by rw [VL.drop]; exact h
  | i + 1, .nil, _, _, _ => by rw [VL.drop]; trivial
  | i + 1, .cons k n s sub r, b, o, ⟨b', o', sa, sc, hA, _, _, _, _, _, _, _, hr⟩ => by
    injection hA with hA
    injection hA with h1 h2
    subst h1; subst h2
    have := RpL.drop i r b (o + 4) hr
    rw [VL.drop]
    rw [show o + 4 * (i + 1) = o + 4 + 4 * i from by omega]
    exact this
end Go.Proofs.YtoemnccklakkeaaDoor
