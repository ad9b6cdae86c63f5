/- Contracts of the functions that the statement reaches, and the plain mathematics beneath: several texts joined. -/
import Derived.Below
import Derived.Laws.OwnMore
import Derived.Laws.Rows
import Derived.Deep.Draws
import Derived.Test.YtgmnbdfbbcpciaaGreatDoorProg
import Derived.WalkKit
import Derived.WalkSpells
import Derived.Lib.Hide
import Derived.BigQuiet
import Derived.Deep.QuietTactic
import Derived.RegionTactic
import Derived.BigRegion
import Derived.Outline
import Derived.Deep.LoopGhost
import Derived.IntWalk
import Derived.Laws.AppendOwn
import Derived.OwnWalk
import Derived.Laws.IdiomStrings
import Derived.Laws.BytesArg
import Derived.Handy
import Derived.WalkSmall
import Derived.Maps.AppendAt
import Derived.Laws.ResultCell
import Derived.Lib.Strings
namespace Go.Proofs.YtgmnbdfbbcpciaaGreatDoor
open Go.RowKit

/-- A list of values: each has a kind, a number, a text and items. -/
inductive VL where
  | nil : VL
  | cons (k n : Int) (s : ByteArray) (sub : VL) (rest : VL) : VL

namespace VL
def len : VL → Nat
  | .nil => 0
  | .cons _ _ _ _ r => r.len + 1
def app : VL → VL → VL
  | .nil, b => b
  | .cons k n s sub r, b => .cons k n s sub (r.app b)
theorem app_nil : ∀ a : VL, a.app .nil = a
  | .nil => rfl
  | .cons k n s sub r => by rw [app, app_nil r]
theorem app_assoc : ∀ a b c : VL, (a.app b).app c = a.app (b.app c)
  | .nil, _, _ => rfl
  | .cons k n s sub r, b, c => by rw [app, app, app, app_assoc r]
theorem len_app : ∀ a b : VL, (a.app b).len = a.len + b.len
  | .nil, b => by simp [app, len]
  | .cons k n s sub r, b => by simp [app, len, len_app r]; omega
def take : Nat → VL → VL
  | 0, _ => .nil
  | _ + 1, .nil => .nil
  | i + 1, .cons k n s sub r => .cons k n s sub (r.take i)
def drop : Nat → VL → VL
  | 0, l => l
  | _ + 1, .nil => .nil
  | i + 1, .cons _ _ _ _ r => r.drop i
theorem take_app_drop : ∀ (i : Nat) (l : VL), (l.take i).app (l.drop i) = l
  | 0, l => by cases l <;> rfl
  | i + 1, .nil => rfl
  | i + 1, .cons k n s sub r => by rw [take, drop, app, take_app_drop i r]
theorem drop_len : ∀ l : VL, l.drop l.len = .nil
  | .nil => rfl
  | .cons k n s sub r => by rw [len, drop, drop_len r]
theorem take_len : ∀ l : VL, l.take l.len = l
  | .nil => rfl
  | .cons k n s sub r => by rw [len, take, take_len r]
theorem len_drop : ∀ (i : Nat) (l : VL), (l.drop i).len = l.len - i
  | 0, l => by rw [drop]; rfl
  | i + 1, .nil => by simp [drop, len]
  | i + 1, .cons k n s sub r => by rw [drop, len_drop i r, len]; omega
theorem drop_of_lt : ∀ (i : Nat) (l : VL), i < l.len → ∃ k n s sub, l.drop i = .cons k n s sub (l.drop (i + 1))
  | _, .nil, h => by simp [len] at h
  | 0, .cons k n s sub r, _ => ⟨k, n, s, sub, by rw [drop, drop, drop]⟩
  | i + 1, .cons k n s sub r, h => by
    rw [len] at h
    obtain ⟨k', n', s', sub', e⟩ := drop_of_lt i r (by omega)
    exact ⟨k', n', s', sub', by rw [drop, drop, e]⟩
theorem take_succ : ∀ (i : Nat) (l : VL) (k n : Int) (s : ByteArray) (sub : VL), l.drop i = .cons k n s sub (l.drop (i + 1)) → l.take (i + 1) = (l.take i).app (.cons k n s sub .nil)
  | 0, .nil, k, n, s, sub, h => by simp [drop] at h
  | 0, .cons k n s sub r, k', n', s', sub', h => by
    simp only [drop] at h
    injection h with h1 h2 h3 h4 _
    subst h1; subst h2; subst h3; subst h4
    simp [take, app]
  | i + 1, .nil, k, n, s, sub, h => by simp [drop] at h
  | i + 1, .cons k0 n0 s0 sub0 r, k, n, s, sub, h => by
    rw [drop, drop] at h
    rw [take, take_succ i r k n s sub h, take, app]
end VL

/-- A list of values in memory: its cells, from an address on; all in blocks of a sort. -/
def RpL (w : World) (S : Nat → Prop) : VL → Option Addr → Prop
  | .nil, _ => True
  | .cons k n s sub rest, A => ∃ (b o : Nat) (sa : Option Addr) (sc : Nat), A = some ⟨b, o, none⟩ ∧ S b ∧
      w.cell? ⟨b, o, none⟩ = some (.int .i64 k) ∧ w.cell? ⟨b, o + 1, none⟩ = some (.int .i64 n) ∧ w.cell? ⟨b, o + 2, none⟩ = some (.string s) ∧
      w.cell? ⟨b, o + 3, none⟩ = some (.slice sa sub.len sc) ∧ sub.len ≤ sc ∧ RpL w S sub sa ∧ RpL w S rest (some ⟨b, o + 4, none⟩)

theorem RpL.keep {w w' : World} {S S' : Nat → Prop} (hw : ∀ b, S b → w'.heap[b]? = w.heap[b]?) (hS : ∀ b, S b → S' b) : ∀ (l : VL) (A : Option Addr), RpL w S l A → RpL w' S' l A
  | .nil, _, _ => trivial
  | .cons k n s sub rest, A, ⟨b, o, sa, sc, hA, hb, h0, h1, h2, h3, hc, hs, hr⟩ => by
    have hk : ∀ p : Addr, p.block = b → w'.cell? p = w.cell? p := fun p hp => World.cell?_of_block (w := w) (hw p.block (by rw [hp]; exact hb))
    exact ⟨b, o, sa, sc, hA, hS b hb, (hk _ rfl).trans h0, (hk _ rfl).trans h1, (hk _ rfl).trans h2, (hk _ rfl).trans h3, hc, RpL.keep hw hS sub sa hs, RpL.keep hw hS rest _ hr⟩

theorem RpL.below {w w' : World} {S : Nat → Prop} {B : Nat} {l : VL} {A : Option Addr} (h : RpL w S l A) (hb : Below B w w') (hS : ∀ b, S b → b < B) : RpL w' S l A :=
  h.keep (fun b hbS => hb.block b (hS b hbS)) (fun _ h => h)

theorem RpL.grown {w w' : World} {S : Nat → Prop} {R : Option Nat} {l : VL} {A : Option Addr} (h : RpL w S l A) (hb : w.grownBy w' R) (hS : ∀ b, S b → b < w.heap.size ∧ some b ≠ R) : RpL w' S l A :=
  h.keep (fun b hbS => hb.block b (hS b hbS).1 (hS b hbS).2) (fun _ h => h)

theorem RpL.wide {w : World} {S S' : Nat → Prop} {l : VL} {A : Option Addr} (h : RpL w S l A) (hS : ∀ b, S b → S' b) : RpL w S' l A := h.keep (fun _ _ => rfl) hS

/-- The i-th value of a list in memory. -/
theorem RpL.drop {w : World} {S : Nat → Prop} : ∀ (i : Nat) (l : VL) (b o : Nat), RpL w S l (some ⟨b, o, none⟩) → RpL w S (l.drop i) (some ⟨b, o + 4 * i, none⟩)
  | 0, l, b, o, h => by rw [VL.drop]; exact h
  | i + 1, .nil, _, _, _ => by rw [VL.drop]; trivial
  | i + 1, .cons k n s sub r, b, o, ⟨b', o', sa, sc, hA, _, _, _, _, _, _, _, hr⟩ => by
    injection hA with hA
    injection hA with h1 h2
    subst h1; subst h2
    have := RpL.drop i r b (o + 4) hr
    rw [VL.drop]
    rw [show o + 4 * (i + 1) = o + 4 + 4 * i from by omega]
    exact this
end Go.Proofs.YtgmnbdfbbcpciaaGreatDoor
namespace Go.Proofs.YtgmnbdfbbcpciaaGreatDoor
open Go.RowKit

/-- A list of nodes: each has what it is, a line, a name, a value (kind, number, text, items), and nodes. -/
inductive NL where
  | nil : NL
  | cons (op ln : Int) (s : ByteArray) (k n : Int) (t : ByteArray) (v : VL) (sub : NL) (rest : NL) : NL

namespace NL
def len : NL → Nat
  | .nil => 0
  | .cons _ _ _ _ _ _ _ _ r => r.len + 1
def app : NL → NL → NL
  | .nil, b => b
  | .cons op ln s k n t v sub r, b => .cons op ln s k n t v sub (r.app b)
theorem app_nil : ∀ a : NL, a.app .nil = a
  | .nil => rfl
  | .cons op ln s k n t v sub r => by rw [app, app_nil r]
theorem app_assoc : ∀ a b c : NL, (a.app b).app c = a.app (b.app c)
  | .nil, _, _ => rfl
  | .cons op ln s k n t v sub r, b, c => by rw [app, app, app, app_assoc r]
theorem len_app : ∀ a b : NL, (a.app b).len = a.len + b.len
  | .nil, b => by simp [app, len]
  | .cons op ln s k n t v sub r, b => by simp [app, len, len_app r]; omega
def take : Nat → NL → NL
  | 0, _ => .nil
  | _ + 1, .nil => .nil
  | i + 1, .cons op ln s k n t v sub r => .cons op ln s k n t v sub (r.take i)
def drop : Nat → NL → NL
  | 0, l => l
  | _ + 1, .nil => .nil
  | i + 1, .cons _ _ _ _ _ _ _ _ r => r.drop i
theorem take_app_drop : ∀ (i : Nat) (l : NL), (l.take i).app (l.drop i) = l
  | 0, l => by cases l <;> rfl
  | i + 1, .nil => rfl
  | i + 1, .cons op ln s k n t v sub r => by rw [take, drop, app, take_app_drop i r]
theorem drop_len : ∀ l : NL, l.drop l.len = .nil
  | .nil => rfl
  | .cons op ln s k n t v sub r => by rw [len, drop, drop_len r]
theorem take_len : ∀ l : NL, l.take l.len = l
  | .nil => rfl
  | .cons op ln s k n t v sub r => by rw [len, take, take_len r]
theorem len_drop : ∀ (i : Nat) (l : NL), (l.drop i).len = l.len - i
  | 0, l => by rw [drop]; rfl
  | i + 1, .nil => by simp [drop, len]
  | i + 1, .cons op ln s k n t v sub r => by rw [drop, len_drop i r, len]; omega
theorem drop_of_lt : ∀ (i : Nat) (l : NL), i < l.len → ∃ op ln s k n t v sub, l.drop i = .cons op ln s k n t v sub (l.drop (i + 1))
  | _, .nil, h => by simp [len] at h
  | 0, .cons op ln s k n t v sub r, _ => ⟨op, ln, s, k, n, t, v, sub, by rw [drop, drop, drop]⟩
  | i + 1, .cons op ln s k n t v sub r, h => by
    rw [len] at h
    obtain ⟨op', ln', s', k', n', t', v', sub', e⟩ := drop_of_lt i r (by omega)
    exact ⟨op', ln', s', k', n', t', v', sub', by rw [drop, drop, e]⟩
theorem take_succ : ∀ (i : Nat) (l : NL) (op ln : Int) (s : ByteArray) (k n : Int) (t : ByteArray) (v : VL) (sub : NL), l.drop i = .cons op ln s k n t v sub (l.drop (i + 1)) → l.take (i + 1) = (l.take i).app (.cons op ln s k n t v sub .nil)
  | 0, .nil, op, ln, s, k, n, t, v, sub, h => by simp [drop] at h
  | 0, .cons op ln s k n t v sub r, op', ln', s', k', n', t', v', sub', h => by
    simp only [drop] at h
    injection h with h1 h2 h3 h4 h5 h6 h7 h8 _
    subst h1; subst h2; subst h3; subst h4; subst h5; subst h6; subst h7; subst h8
    simp [take, app]
  | i + 1, .nil, op, ln, s, k, n, t, v, sub, h => by simp [drop] at h
  | i + 1, .cons op0 ln0 s0 k0 n0 t0 v0 sub0 r, op, ln, s, k, n, t, v, sub, h => by
    rw [drop, drop] at h
    rw [take, take_succ i r op ln s k n t v sub h, take, app]
end NL

/-- A list of nodes in memory: its cells, from an address on; all in blocks of a sort. -/
def RpN (w : World) (S : Nat → Prop) : NL → Option Addr → Prop
  | .nil, _ => True
  | .cons op ln s k n t v sub rest, A => ∃ (b o : Nat) (va : Option Addr) (vc : Nat) (sa : Option Addr) (sc : Nat), A = some ⟨b, o, none⟩ ∧ S b ∧
      w.cell? ⟨b, o, none⟩ = some (.int .i64 op) ∧ w.cell? ⟨b, o + 1, none⟩ = some (.int .i64 ln) ∧ w.cell? ⟨b, o + 2, none⟩ = some (.string s) ∧
      w.cell? ⟨b, o + 3, none⟩ = some (.int .i64 k) ∧ w.cell? ⟨b, o + 4, none⟩ = some (.int .i64 n) ∧ w.cell? ⟨b, o + 5, none⟩ = some (.string t) ∧
      w.cell? ⟨b, o + 6, none⟩ = some (.slice va v.len vc) ∧ v.len ≤ vc ∧ RpL w S v va ∧
      w.cell? ⟨b, o + 7, none⟩ = some (.slice sa sub.len sc) ∧ sub.len ≤ sc ∧ RpN w S sub sa ∧ RpN w S rest (some ⟨b, o + 8, none⟩)

theorem RpN.keep {w w' : World} {S S' : Nat → Prop} (hw : ∀ b, S b → w'.heap[b]? = w.heap[b]?) (hS : ∀ b, S b → S' b) : ∀ (l : NL) (A : Option Addr), RpN w S l A → RpN w' S' l A
  | .nil, _, _ => trivial
  | .cons op ln s k n t v sub rest, A, ⟨b, o, va, vc, sa, sc, hA, hb, h0, h1, h2, h3, h4, h5, h6, hv, hvr, h7, hc, hs, hr⟩ => by
    have hk : ∀ p : Addr, p.block = b → w'.cell? p = w.cell? p := fun p hp => World.cell?_of_block (w := w) (hw p.block (by rw [hp]; exact hb))
    exact ⟨b, o, va, vc, sa, sc, hA, hS b hb, (hk _ rfl).trans h0, (hk _ rfl).trans h1, (hk _ rfl).trans h2, (hk _ rfl).trans h3, (hk _ rfl).trans h4, (hk _ rfl).trans h5, (hk _ rfl).trans h6, hv, RpL.keep hw hS v va hvr, (hk _ rfl).trans h7, hc, RpN.keep hw hS sub sa hs, RpN.keep hw hS rest _ hr⟩

theorem RpN.below {w w' : World} {S : Nat → Prop} {B : Nat} {l : NL} {A : Option Addr} (h : RpN w S l A) (hb : Below B w w') (hS : ∀ b, S b → b < B) : RpN w' S l A :=
  h.keep (fun b hbS => hb.block b (hS b hbS)) (fun _ h => h)

theorem RpN.grown {w w' : World} {S : Nat → Prop} {R : Option Nat} {l : NL} {A : Option Addr} (h : RpN w S l A) (hb : w.grownBy w' R) (hS : ∀ b, S b → b < w.heap.size ∧ some b ≠ R) : RpN w' S l A :=
  h.keep (fun b hbS => hb.block b (hS b hbS).1 (hS b hbS).2) (fun _ h => h)

theorem RpN.wide {w : World} {S S' : Nat → Prop} {l : NL} {A : Option Addr} (h : RpN w S l A) (hS : ∀ b, S b → S' b) : RpN w S' l A := h.keep (fun _ _ => rfl) hS

/-- The i-th node of a list in memory. -/
theorem RpN.drop {w : World} {S : Nat → Prop} : ∀ (i : Nat) (l : NL) (b o : Nat), RpN w S l (some ⟨b, o, none⟩) → RpN w S (l.drop i) (some ⟨b, o + 8 * i, none⟩)
  | 0, l, b, o, h => by rw [NL.drop]; exact h
  | i + 1, .nil, _, _, _ => by rw [NL.drop]; trivial
  | i + 1, .cons op ln s k n t v sub r, b, o, ⟨b', o', va, vc, sa, sc, hA, _, _, _, _, _, _, _, _, _, _, _, _, _, hr⟩ => by
    injection hA with hA
    injection hA with h1 h2
    subst h1; subst h2
    have := RpN.drop i r b (o + 8) hr
    rw [NL.drop]
    rw [show o + 8 * (i + 1) = o + 8 + 8 * i from by omega]
    exact this
end Go.Proofs.YtgmnbdfbbcpciaaGreatDoor
namespace Go.Proofs.YtgmnbdfbbcpciaaGreatDoor
open Go.RowKit Go.Lib

theorem ret_bool {a b : Bool} (h : a = b) : Ending.returned (.bool a) = .returned (.bool b) := by rw [h]
theorem ret_int {k : IntKind} {a b : Int} (h : a = b) : Ending.returned (.int k a) = .returned (.int k b) := by rw [h]

section
variable {w w' : World} {R : Nat} {s : ByteArray} {i : Nat} {ok : Bool}
end

/-- The byte at hand, 0 behind the end. -/
def pk (s : ByteArray) (i : Nat) : UInt8 := s.data.toList.getD i 0
theorem pk_in (s : ByteArray) (i : Nat) (h : i < s.size) : pk s i = s[i] := by
  unfold pk
  rw [List.getD_eq_getElem?_getD, List.getElem?_eq_getElem (by simpa using h)]; rfl
theorem pk_out (s : ByteArray) (i : Nat) (h : ¬ i < s.size) : pk s i = 0 := by
  unfold pk
  rw [List.getD_eq_getElem?_getD, List.getElem?_eq_none (by simpa using h)]; rfl

/-- Is a byte a digit? -/
def digB (c : UInt8) : Bool := decide (48 ≤ c.toNat ∧ c.toNat ≤ 57)

/-- What take leaves: whether all is right, and the place. -/
def tkOk (s : ByteArray) (i : Nat) (ok : Bool) (c : UInt8) : Bool := ok && decide (i < s.size) && pk s i == c
def tkAt (s : ByteArray) (i : Nat) (ok : Bool) (c : UInt8) : Nat := if tkOk s i ok c then i + 1 else i

theorem only_drewN {a w : World} {row : Option Nat} (h : a.grownBy w row) (n : Nat) : a.grownBy (w.drewN n) row := ⟨h.os, h.tape, h.output, h.size, h.block⟩
theorem only_setCell {a w : World} {g : Nat} (h : a.grownBy w (some g)) {p : Addr} (hp : p.block = g ∨ a.heap.size ≤ p.block) (u : Value) : a.grownBy (w.setCell p u) (some g) :=
  ⟨h.os, h.tape, h.output, by simpa [World.setCell] using h.size, fun i hi hne => (Below.heap_setCell w p u i (by
    rintro rfl
    rcases hp with hp | hp
    · exact hne (by rw [hp])
    · omega)).trans (h.block i hi hne)⟩

section
variable {w w' : World} {R : Nat} {s : ByteArray} {i : Nat} {ok : Bool}
theorem only_drew {a w : World} {row : Option Nat} (h : a.grownBy w row) : a.grownBy w.drew row := ⟨h.os, h.tape, h.output, h.size, h.block⟩
theorem only_refl (w : World) (row : Option Nat) : w.grownBy w row := ⟨rfl, rfl, rfl, Nat.le_refl _, fun _ _ _ => rfl⟩
theorem only_trans {a b c : World} {row : Option Nat} (h : a.grownBy b row) (k : b.grownBy c row) : a.grownBy c row :=
  ⟨k.os.trans h.os, k.tape.trans h.tape, k.output.trans h.output, Nat.le_trans h.size k.size, fun i hi hn => (k.block i (Nat.lt_of_lt_of_le hi h.size) hn).trans (h.block i hi hn)⟩
theorem only_below {a w : World} (h : Below a.heap.size a w) (row : Option Nat) : a.grownBy w row := ⟨h.os, h.tape, h.output, h.size, fun i hi _ => h.block i hi⟩

end

end Go.Proofs.YtgmnbdfbbcpciaaGreatDoor
namespace Go.Proofs.YtgmnbdfbbcpciaaGreatDoor
open Go.RowKit Go.Lib

/-- The digits of a number, each taken away from ten times what was read; the place, whether all is right, the number. -/
def numLoop (s : ByteArray) (low high : Int) (neg : Bool) : Nat → Nat → Int → Nat × Bool × Int
  | 0, i, n => (i, true, n)
  | f + 1, i, n =>
    if digB (pk s i) then
      if n < -922337203685477580 ∨ 10 * n < -9223372036854775808 + ((pk s i).toNat - 48 : Int) ∨ (neg = true ∧ 10 * n - ((pk s i).toNat - 48 : Int) < low) ∨ (neg = false ∧ 10 * n - ((pk s i).toNat - 48 : Int) < -high) then (i, false, 0)
      else numLoop s low high neg f (i + 1) (10 * n - ((pk s i).toNat - 48 : Int))
    else (i, true, n)

/-- The number with its sign turned. -/
def negR (r : Nat × Bool × Int) : Nat × Bool × Int := (r.1, r.2.1, if r.2.1 then -r.2.2 else 0)

/-- A number: the place behind it, whether all is right, the number. -/
def numSp (s : ByteArray) (low high : Int) (i : Nat) : Nat × Bool × Int :=
  if pk s i = 45 then
    if digB (pk s (i + 1)) = false ∨ pk s (i + 1) = 48 then (i + 1, false, 0)
    else numLoop s low high true (s.size + 1) (i + 1) 0
  else if pk s i = 48 then (i + 1, true, 0)
  else if digB (pk s i) = false then (i, false, 0)
  else negR (numLoop s low high false (s.size + 1) i 0)

theorem digB_in {s : ByteArray} {i : Nat} (h : digB (pk s i) = true) : i < s.size := by
  rcases Nat.lt_or_ge i s.size with hi | hi
  · exact hi
  · rw [pk_out s i (by omega)] at h; exact absurd h (by decide)
theorem digB_range {c : UInt8} (h : digB c = true) : 48 ≤ c.toNat ∧ c.toNat ≤ 57 := by simpa [digB] using h

theorem numLoop_step (s : ByteArray) (low high : Int) (neg : Bool) (f i : Nat) (n : Int) (h : digB (pk s i) = true)
    (hg : ¬(n < -922337203685477580 ∨ 10 * n < -9223372036854775808 + ((pk s i).toNat - 48 : Int) ∨ (neg = true ∧ 10 * n - ((pk s i).toNat - 48 : Int) < low) ∨ (neg = false ∧ 10 * n - ((pk s i).toNat - 48 : Int) < -high))) :
    numLoop s low high neg (f + 1) i n = numLoop s low high neg f (i + 1) (10 * n - ((pk s i).toNat - 48 : Int)) := by
  rw [numLoop, if_pos h, if_neg hg]
theorem numLoop_bad (s : ByteArray) (low high : Int) (neg : Bool) (f i : Nat) (n : Int) (h : digB (pk s i) = true)
    (hg : n < -922337203685477580 ∨ 10 * n < -9223372036854775808 + ((pk s i).toNat - 48 : Int) ∨ (neg = true ∧ 10 * n - ((pk s i).toNat - 48 : Int) < low) ∨ (neg = false ∧ 10 * n - ((pk s i).toNat - 48 : Int) < -high)) :
    numLoop s low high neg (f + 1) i n = (i, false, 0) := by
  rw [numLoop, if_pos h, if_pos hg]
theorem numLoop_end (s : ByteArray) (low high : Int) (neg : Bool) (f i : Nat) (n : Int) (h : digB (pk s i) = false) : numLoop s low high neg (f + 1) i n = (i, true, n) := by
  rw [numLoop, if_neg (by rw [h]; decide)]

end Go.Proofs.YtgmnbdfbbcpciaaGreatDoor
namespace Go.Proofs.YtgmnbdfbbcpciaaGreatDoor
open Go.RowKit Go.Lib

end Go.Proofs.YtgmnbdfbbcpciaaGreatDoor
namespace Go.Proofs.YtgmnbdfbbcpciaaGreatDoor
open Go.RowKit Go.Lib

theorem take_snoc (s : ByteArray) (k : Nat) (h : k < s.size) : s.data.toList.take (k + 1) = s.data.toList.take k ++ [s[k]] := by
  rw [List.take_succ_eq_append_getElem (by simpa using h)]; rfl

/-- May a byte stand in a text? -/
def prC (c : UInt8) : Bool := decide (32 ≤ c.toNat ∧ c.toNat ≤ 126)
def prB (l : List UInt8) : Bool := l.all prC

theorem prB_bad (s : ByteArray) (k : Nat) (h0 : k < s.size) (h1 : (s[k].toNat : Int) < 32 ∨ 126 < (s[k].toNat : Int)) : prB s.data.toList = false := by
  rw [Bool.eq_false_iff]
  intro hn
  unfold prB at hn
  rw [List.all_eq_true] at hn
  have := hn s[k] (by show s.data[k] ∈ s.data.toList; simp)
  simp only [prC, decide_eq_true_eq] at this
  omega

set_option maxHeartbeats 400000 in
theorem printable_c (s : ByteArray) (w : World) (hs : s.size ≤ 140737488351232) :
    Calls Tryz.prog 91 #[.string s] w fun e w' => e = .returned (.bool (prB s.data.toList)) ∧ w = w' := by
  go_enter Tryz.func91, Tryz.ntmps91
  go_wp2
  go_loop [6] (fun i => ∃ k : Nat, k ≤ s.size ∧ i = .int .i64 k ∧ Hid (prB (s.data.toList.take k) = true)) (fun i => s.size - (intOf i).toNat)
  case atStart => exact ⟨0, Nat.zero_le _, rfl, rfl⟩
  case round =>
    obtain ⟨k, hk, rfl, hall⟩ := hrel
    by_cases hlt : k < s.size
    · have hts := Lib.hid (take_snoc s k hlt)
      go_wp2
      all_goals first
        | (go_ret
           exact ⟨ret_bool (prB_bad s k hlt (by omega)).symm, rfl⟩)
        | (refine ⟨⟨k + 1, by omega, by go_num, ?_⟩, by simp [intOf]; omega⟩
           show prB _ = true
           have hx := hall.out
           unfold prB at hx ⊢
           rw [hts.out, List.all_append, hx, List.all_cons, show prC s[k] = true from decide_eq_true (by omega)]
           rfl)
    · obtain rfl : k = s.size := by omega
      go_wp2
      go_ret
      refine ⟨ret_bool ?_, rfl⟩
      have := hall.out
      rw [List.take_of_length_le (by simp)] at this
      exact this.symm

/-- One byte as a text. -/
theorem one_text (B : Nat) (c : UInt8) (W : World) (h : W.cell? ⟨B, 0, none⟩ = some (.int .u8 c.toNat)) :
    (convert 41 9 (.slice (some ⟨B, 0, none⟩) 1 1)).run Tryz.prog W = .ok (.string ⟨#[c]⟩) W :=
  run_convert_bytes_back W _ _ 5 ⟨B, 0, none⟩ 1 [c] Tryz.underlying41 Tryz.underlying5 Tryz.underlying9 (fun j hj => by
    obtain rfl : j = 0 := by simpa using hj
    exact h)

/-- The bytes of a text in quotes: the place, whether all is right, what was read. -/
def strLoop (s : ByteArray) : Nat → Nat → List UInt8 → Nat × Bool × List UInt8
  | 0, i, l => (i, true, l)
  | f + 1, i, l =>
    if pk s i = 34 then (i, true, l)
    else if pk s i = 92 then
      if pk s (i + 1) = 34 ∨ pk s (i + 1) = 92 then strLoop s f (i + 2) (l ++ [pk s (i + 1)]) else (i + 1, false, l)
    else if prC (pk s i) then strLoop s f (i + 1) (l ++ [pk s i]) else (i, false, l)

theorem u8_info : (Tryz.prog.info? 5).map (fun i => (i.zero, i.size, i.bytes)) = some (some (.int .u8 0), 1, 1) := by kernel_rfl

def u8s (l : List UInt8) : List Value := l.map fun c => Value.int .u8 c.toNat
end Go.Proofs.YtgmnbdfbbcpciaaGreatDoor
namespace Go.Proofs.YtgmnbdfbbcpciaaGreatDoor
open Go.RowKit Go.Lib

theorem own_keep {W W' : World} {base e size n R : Nat} {v : Value} {xs : List Value} (h : W.ownsRow base e size v n xs) (hg : W.grownBy W' (some R)) (hR : R < base) : W'.ownsRow base e size v n xs := by
  refine ⟨h.1, ?_⟩
  rcases h.2 with h0 | ⟨g, cap, cur, hv, hb, hh, r⟩
  · exact .inl h0
  · have hlt : g < W.heap.size := by
      rcases Nat.lt_or_ge g W.heap.size with hlt | hge
      · exact hlt
      · rw [Array.getElem?_eq_none hge] at hh; cases hh
    exact .inr ⟨g, cap, cur, hv, hb, (hg.block g hlt (fun e => by injection e with e; omega)).trans hh, r⟩

theorem conv_text (W : World) (base : Nat) (v : Value) (l : List UInt8) (h : W.ownsRow base 5 1 v l.length (u8s l)) :
    (convert 41 9 v).run Tryz.prog W = .ok (.string ⟨l.toArray⟩) W := by
  rcases h.2 with ⟨rfl, hl⟩ | ⟨g, cap, cur, rfl, _, hh, hc, _, hsz, ht⟩
  · obtain rfl : l = [] := List.eq_nil_of_length_eq_zero hl
    exact run_convert_bytes_nil W _ 5 Tryz.underlying41 Tryz.underlying5 0 0 _ Tryz.underlying9
  · refine run_convert_bytes_back W _ _ 5 ⟨g, 0, none⟩ cap l Tryz.underlying41 Tryz.underlying5 Tryz.underlying9 (fun j hj => ?_)
    have e : (⟨g, 0, none⟩ : Addr).add j = ⟨g, j, none⟩ := by unfold Addr.add; split <;> simp_all
    rw [e, cell_of_row W g j cur _ _ hh]
    have h1 : (cur.toList.take (l.length * 1))[j]? = (u8s l)[j]? := by rw [ht]
    rw [List.getElem?_take_of_lt (by omega)] at h1
    rw [← Array.getElem?_toList, h1]
    unfold u8s
    rw [List.getElem?_map, List.getElem?_eq_getElem hj]
    rfl

theorem own_ge {W : World} {base e size n : Nat} {v : Value} {xs : List Value} (h : W.ownsRow base e size v n xs) (k : Nat) (hk : v.ownBlock = some k) : base ≤ k := by
  rcases h.2 with ⟨rfl, _⟩ | ⟨g, cap, cur, rfl, hb, _⟩
  · cases hk
  · injection hk with hk; subst hk; exact hb
theorem own_snoc {W : World} {base : Nat} {v : Value} {l : List UInt8} {y : UInt8} (h : W.ownsRow base 5 1 v (l.length + 1) (u8s l ++ [.int .u8 y.toNat])) : W.ownsRow base 5 1 v (l ++ [y]).length (u8s (l ++ [y])) := by
  have e1 : (l ++ [y]).length = l.length + 1 := by simp
  have e2 : u8s (l ++ [y]) = u8s l ++ [.int .u8 y.toNat] := by simp [u8s]
  rw [e1, e2]; exact h
theorem own_set {W : World} {base e size n R : Nat} {v u : Value} {xs : List Value} (h : W.ownsRow base e size v n xs) (hR : R < base) (k : Nat) : (W.setCell ⟨R, k, none⟩ u).ownsRow base e size v n xs :=
  own_keep h (only_setCell (only_refl W _) (.inl rfl) u) hR

theorem strLoop_end (s : ByteArray) (f i : Nat) (l : List UInt8) (h : pk s i = 34) : strLoop s (f + 1) i l = (i, true, l) := by rw [strLoop, if_pos h]
theorem strLoop_esc (s : ByteArray) (f i : Nat) (l : List UInt8) (h : pk s i = 92) (h2 : pk s (i + 1) = 34 ∨ pk s (i + 1) = 92) : strLoop s (f + 1) i l = strLoop s f (i + 2) (l ++ [pk s (i + 1)]) := by
  rw [strLoop, if_neg (by rw [h]; decide), if_pos h, if_pos h2]
theorem strLoop_esc_bad (s : ByteArray) (f i : Nat) (l : List UInt8) (h : pk s i = 92) (h2 : ¬(pk s (i + 1) = 34 ∨ pk s (i + 1) = 92)) : strLoop s (f + 1) i l = (i + 1, false, l) := by
  rw [strLoop, if_neg (by rw [h]; decide), if_pos h, if_neg h2]
theorem strLoop_next (s : ByteArray) (f i : Nat) (l : List UInt8) (h : pk s i ≠ 34) (h1 : pk s i ≠ 92) (h2 : prC (pk s i) = true) : strLoop s (f + 1) i l = strLoop s f (i + 1) (l ++ [pk s i]) := by
  rw [strLoop, if_neg h, if_neg h1, if_pos h2]
theorem strLoop_bad (s : ByteArray) (f i : Nat) (l : List UInt8) (h : pk s i ≠ 34) (h1 : pk s i ≠ 92) (h2 : prC (pk s i) = false) : strLoop s (f + 1) i l = (i, false, l) := by
  rw [strLoop, if_neg h, if_neg h1, if_neg (by rw [h2]; decide)]

theorem ne_byte {x : UInt8} (y : UInt8) (n : Int) (hn : (y.toNat : Int) = n) (h : x ≠ y) : ((x.toNat : Int) == n) = false ∧ ((x.toNat : Int) != n) = true := by
  have : ((x.toNat : Int) == n) = false := by
    rw [beq_eq_false_iff_ne]
    intro e
    exact h (UInt8.toNat_inj.1 (by omega))
  exact ⟨this, by rw [bne, this]; rfl⟩

theorem pk_lt {s : ByteArray} {i : Nat} (h : pk s i ≠ 0) : i < s.size := by
  rcases Nat.lt_or_ge i s.size with hi | hi
  · exact hi
  · exact absurd (pk_out s i (by omega)) h

/-- A text in quotes: the place behind it, whether all is right, its bytes. -/
def strSp (s : ByteArray) (i : Nat) : Nat × Bool × List UInt8 :=
  let r := strLoop s (s.size + 1) (i + 1) []
  (if r.2.1 then r.1 + 1 else r.1, r.2.1, r.2.2)

theorem ret_str {a b : ByteArray} (h : a = b) : Ending.returned (.string a) = .returned (.string b) := by rw [h]

end Go.Proofs.YtgmnbdfbbcpciaaGreatDoor
namespace Go.Proofs.YtgmnbdfbbcpciaaGreatDoor
open Go.RowKit Go.Lib

/-- The names of the codes, by number. -/
def nmL : List ByteArray := [⟨#[69, 95, 78, 79, 78, 69]⟩, ⟨#[69, 95, 84, 89, 80, 69]⟩, ⟨#[69, 95, 68, 73, 86]⟩, ⟨#[69, 95, 80, 69, 82, 77]⟩, ⟨#[69, 95, 80, 82, 79, 80, 78, 70]⟩, ⟨#[69, 95, 86, 69, 82, 66, 78, 70]⟩,
  ⟨#[69, 95, 86, 65, 82, 78, 70]⟩, ⟨#[69, 95, 73, 78, 86, 73, 78, 68]⟩, ⟨#[69, 95, 82, 69, 67, 77, 79, 86, 69]⟩, ⟨#[69, 95, 77, 65, 88, 82, 69, 67]⟩, ⟨#[69, 95, 82, 65, 78, 71, 69]⟩, ⟨#[69, 95, 65, 82, 71, 83]⟩,
  ⟨#[69, 95, 78, 65, 67, 67]⟩, ⟨#[69, 95, 73, 78, 86, 65, 82, 71]⟩, ⟨#[69, 95, 81, 85, 79, 84, 65]⟩]
theorem nmL_len : nmL.length = 15 := rfl

theorem names_c (w : World) : Calls Tryz.prog 90 #[] w fun e w' => e = .returned (.slice (some ⟨w.heap.size, 0, none⟩) 15 15) ∧ w' = w.alloc (.cells (nmL.map Value.string).toArray 9) := by
  go_enter Tryz.func90, Tryz.ntmps90
  go_wp2
  go_ret
  exact ⟨rfl, rfl⟩

/-- How many letters of a name are at hand, from the k-th on; with fuel. -/
def cpl (s : ByteArray) (i : Nat) (n : ByteArray) : Nat → Nat → Nat
  | 0, k => k
  | f + 1, k => if k < n.size ∧ i + k < s.size ∧ pk s (i + k) = pk n k then cpl s i n f (k + 1) else k
def cp (s : ByteArray) (i : Nat) (n : ByteArray) : Nat := cpl s i n (n.size + 1) 0

/-- What is known behind one name more: the code, how many of its letters, the most letters of any. -/
def codeStep (s : ByteArray) (i : Nat) (n : ByteArray) (c : Nat) (r : Int × Int × Int) : Int × Int × Int :=
  if (cp s i n = n.size ∧ r.2.1 < cp s i n) then (c, cp s i n, max r.2.2 (cp s i n)) else (r.1, r.2.1, max r.2.2 (cp s i n))
def codeTo (s : ByteArray) (i : Nat) : Nat → Int × Int × Int
  | 0 => (0, -1, 0)
  | c + 1 => codeStep s i (nmL.getD c ByteArray.empty) c (codeTo s i c)

/-- A code: the place behind its name, whether all is right, the code. -/
def codeSp (s : ByteArray) (i : Nat) : Nat × Bool × Int :=
  let r := codeTo s i 15
  if r.2.1 < 0 then (i + r.2.2.toNat, false, r.1) else (i + r.2.1.toNat, true, r.1)

theorem cpl_le (s : ByteArray) (i : Nat) (n : ByteArray) : ∀ (f k : Nat), k ≤ n.size → k ≤ cpl s i n f k ∧ cpl s i n f k ≤ n.size
  | 0, k, h => ⟨Nat.le_refl _, h⟩
  | f + 1, k, h => by
    unfold cpl
    split
    · rename_i hc
      have := cpl_le s i n f (k + 1) (by omega)
      omega
    · omega
theorem cp_le (s : ByteArray) (i : Nat) (n : ByteArray) : cp s i n ≤ n.size := (cpl_le s i n _ 0 (Nat.zero_le _)).2

theorem nm_short : ∀ n ∈ nmL, n.size ≤ 20 := by decide

theorem codeTo_range (s : ByteArray) (i : Nat) : ∀ c, c ≤ 15 → (0 ≤ (codeTo s i c).1 ∧ (codeTo s i c).1 ≤ 14) ∧ (-1 ≤ (codeTo s i c).2.1 ∧ (codeTo s i c).2.1 ≤ 20) ∧ (0 ≤ (codeTo s i c).2.2 ∧ (codeTo s i c).2.2 ≤ 20)
  | 0, _ => by simp [codeTo]
  | c + 1, h => by
    obtain ⟨h1, h2, h3⟩ := codeTo_range s i c (by omega)
    have hc : c < nmL.length := by rw [nmL_len]; omega
    have hn : (nmL.getD c ByteArray.empty).size ≤ 20 := by
      rw [List.getD_eq_getElem?_getD, List.getElem?_eq_getElem hc]
      exact nm_short _ (List.getElem_mem hc)
    have hcp := cp_le s i (nmL.getD c ByteArray.empty)
    rw [codeTo, codeStep]
    split
    · refine ⟨?_, ?_, ?_⟩ <;> simp only <;> omega
    · refine ⟨?_, ?_, ?_⟩ <;> simp only <;> omega
end Go.Proofs.YtgmnbdfbbcpciaaGreatDoor
namespace Go.Proofs.YtgmnbdfbbcpciaaGreatDoor
open Go.RowKit Go.Lib

theorem cpl_step (s : ByteArray) (i : Nat) (n : ByteArray) (f k : Nat) (h : k < n.size ∧ i + k < s.size ∧ pk s (i + k) = pk n k) : cpl s i n (f + 1) k = cpl s i n f (k + 1) := by
  rw [cpl, if_pos h]
theorem cpl_stop (s : ByteArray) (i : Nat) (n : ByteArray) (f k : Nat) (h : ¬(k < n.size ∧ i + k < s.size ∧ pk s (i + k) = pk n k)) : cpl s i n f k = k := by
  cases f with
  | zero => rfl
  | succ f => rw [cpl, if_neg h]

theorem names_cell (w : World) (c : Nat) (hc : c < 15) (n : Nat) : ((w.alloc (.cells (nmL.map Value.string).toArray 9)).drewN n).cell? ⟨w.heap.size, c, none⟩ = some (.string (nmL.getD c ByteArray.empty)) := by
  show (w.alloc (.cells (nmL.map Value.string).toArray 9)).cell? ⟨w.heap.size, c, none⟩ = _
  rw [World.cell?_alloc_at _ _ _ _ rfl]
  have hc' : c < nmL.length := by rw [nmL_len]; omega
  rw [List.getD_eq_getElem?_getD, List.getElem?_eq_getElem hc']
  simp [hc']

end Go.Proofs.YtgmnbdfbbcpciaaGreatDoor
namespace Go.Proofs.YtgmnbdfbbcpciaaGreatDoor
open Go.RowKit Go.Lib

def val1 (k n : Int) (s : ByteArray) (sub : VL) : VL := .cons k n s sub .nil

mutual
/-- A value at a place: the place behind it, whether all is right, the value. -/
def valSp (s : ByteArray) : Nat → Nat → Nat × Bool × VL
  | 0, i => (i, false, .nil)
  | f + 1, i =>
    if pk s i = 35 then ((numSp s (-2147483648) 2147483647 (i + 1)).1, (numSp s (-2147483648) 2147483647 (i + 1)).2.1, val1 1 (numSp s (-2147483648) 2147483647 (i + 1)).2.2 ByteArray.empty .nil)
    else if pk s i = 45 ∨ digB (pk s i) = true then ((numSp s (-9223372036854775808) 9223372036854775807 i).1, (numSp s (-9223372036854775808) 9223372036854775807 i).2.1, val1 0 (numSp s (-9223372036854775808) 9223372036854775807 i).2.2 ByteArray.empty .nil)
    else if pk s i = 34 then ((strSp s i).1, (strSp s i).2.1, val1 2 0 ⟨(strSp s i).2.2.toArray⟩ .nil)
    else if pk s i = 123 then
      if pk s (i + 1) = 125 then (i + 2, true, val1 4 0 ByteArray.empty .nil)
      else ((lstSp s f (i + 1) .nil).1, (lstSp s f (i + 1) .nil).2.1, val1 4 0 ByteArray.empty (lstSp s f (i + 1) .nil).2.2)
    else ((codeSp s i).1, (codeSp s i).2.1, val1 3 (codeSp s i).2.2 ByteArray.empty .nil)
/-- The items of a list, from one of them on. -/
def lstSp (s : ByteArray) : Nat → Nat → VL → Nat × Bool × VL
  | 0, i, acc => (i, false, acc)
  | f + 1, i, acc =>
    if (valSp s f i).2.1 = false then ((valSp s f i).1, false, acc)
    else if pk s (valSp s f i).1 = 44 then
      if pk s ((valSp s f i).1 + 1) = 32 then lstSp s f ((valSp s f i).1 + 2) (acc.app (valSp s f i).2.2)
      else ((valSp s f i).1 + 1, false, acc.app (valSp s f i).2.2)
    else if pk s (valSp s f i).1 = 125 then ((valSp s f i).1 + 1, true, acc.app (valSp s f i).2.2)
    else ((valSp s f i).1, false, acc.app (valSp s f i).2.2)
end

theorem numLoop_place (s : ByteArray) (low high : Int) (neg : Bool) : ∀ (f i : Nat) (n : Int), i ≤ s.size → i ≤ (numLoop s low high neg f i n).1 ∧ (numLoop s low high neg f i n).1 ≤ s.size
  | 0, i, n, h => ⟨Nat.le_refl _, h⟩
  | f + 1, i, n, h => by
    cases hd : digB (pk s i) with
    | false => rw [numLoop_end _ _ _ _ _ _ _ hd]; exact ⟨Nat.le_refl _, h⟩
    | true =>
      have hi := digB_in hd
      by_cases hg : n < -922337203685477580 ∨ 10 * n < -9223372036854775808 + ((pk s i).toNat - 48 : Int) ∨ (neg = true ∧ 10 * n - ((pk s i).toNat - 48 : Int) < low) ∨ (neg = false ∧ 10 * n - ((pk s i).toNat - 48 : Int) < -high)
      · rw [numLoop_bad _ _ _ _ _ _ _ hd hg]; exact ⟨Nat.le_refl _, h⟩
      · rw [numLoop_step _ _ _ _ _ _ _ hd hg]
        have := numLoop_place s low high neg f (i + 1) (10 * n - ((pk s i).toNat - 48 : Int)) (by omega)
        omega

theorem numSp_place (s : ByteArray) (low high : Int) (i : Nat) (h : i ≤ s.size) : i ≤ (numSp s low high i).1 ∧ (numSp s low high i).1 ≤ s.size := by
  unfold numSp
  split
  · rename_i h45
    have hi : i < s.size := pk_lt (by rw [h45]; decide)
    split
    · simp only; omega
    · have := numLoop_place s low high true (s.size + 1) (i + 1) 0 (by omega)
      omega
  · split
    · rename_i h48
      have hi : i < s.size := pk_lt (by rw [h48]; decide)
      simp only; omega
    · split
      · exact ⟨Nat.le_refl _, h⟩
      · exact numLoop_place s low high false (s.size + 1) i 0 h

theorem strLoop_place (s : ByteArray) : ∀ (f i : Nat) (l : List UInt8), i ≤ s.size → i ≤ (strLoop s f i l).1 ∧ (strLoop s f i l).1 ≤ s.size ∧ (0 < f → s.size < i + f → (strLoop s f i l).2.1 = true → pk s (strLoop s f i l).1 = 34)
  | 0, i, l, h => ⟨Nat.le_refl _, h, fun h0 => absurd h0 (by omega)⟩
  | f + 1, i, l, h => by
    by_cases h34 : pk s i = 34
    · rw [strLoop_end _ _ _ _ h34]; exact ⟨Nat.le_refl _, h, fun _ _ _ => h34⟩
    by_cases h92 : pk s i = 92
    · have hi : i < s.size := pk_lt (by rw [h92]; decide)
      by_cases hy : pk s (i + 1) = 34 ∨ pk s (i + 1) = 92
      · rw [strLoop_esc _ _ _ _ h92 hy]
        have hi2 : i + 1 < s.size := pk_lt (by rcases hy with e | e <;> rw [e] <;> decide)
        have := strLoop_place s f (i + 2) (l ++ [pk s (i + 1)]) (by omega)
        exact ⟨by omega, this.2.1, fun _ hb hc => this.2.2 (by omega) (by omega) hc⟩
      · rw [strLoop_esc_bad _ _ _ _ h92 hy]; exact ⟨by simp, by simp only; omega, fun _ _ hc => by cases hc⟩
    cases hp : prC (pk s i) with
    | false => rw [strLoop_bad _ _ _ _ h34 h92 hp]; exact ⟨Nat.le_refl _, h, fun _ _ hc => by cases hc⟩
    | true =>
      have hi : i < s.size := pk_lt (fun e => by rw [e] at hp; exact absurd hp (by decide))
      rw [strLoop_next _ _ _ _ h34 h92 hp]
      have := strLoop_place s f (i + 1) (l ++ [pk s i]) (by omega)
      exact ⟨by omega, this.2.1, fun _ hb hc => this.2.2 (by omega) (by omega) hc⟩

theorem strSp_place (s : ByteArray) (i : Nat) (h : i < s.size) : i ≤ (strSp s i).1 ∧ (strSp s i).1 ≤ s.size := by
  have := strLoop_place s (s.size + 1) (i + 1) [] (by omega)
  unfold strSp
  simp only
  split
  · rename_i hok
    have h34 := this.2.2 (by omega) (by omega) hok
    have := pk_lt (s := s) (i := (strLoop s (s.size + 1) (i + 1) []).1) (by rw [h34]; decide)
    omega
  · omega

theorem cpl_room (s : ByteArray) (i : Nat) (n : ByteArray) : ∀ (f k : Nat), i + k ≤ s.size → i + cpl s i n f k ≤ s.size
  | 0, k, h => h
  | f + 1, k, h => by
    unfold cpl
    split
    · rename_i hc
      exact cpl_room s i n f (k + 1) (by omega)
    · exact h

theorem codeTo_room (s : ByteArray) (i : Nat) (h : i ≤ s.size) : ∀ c, (i : Int) + (codeTo s i c).2.1 ≤ s.size ∧ (i : Int) + (codeTo s i c).2.2 ≤ s.size
  | 0 => by simp [codeTo]; omega
  | c + 1 => by
    obtain ⟨h1, h2⟩ := codeTo_room s i h c
    have h3 := cpl_room s i (nmL.getD c ByteArray.empty) ((nmL.getD c ByteArray.empty).size + 1) 0 (by omega)
    have h4 : i + cp s i (nmL.getD c ByteArray.empty) ≤ s.size := h3
    rw [codeTo, codeStep]
    split <;> simp only <;> omega

theorem codeSp_place (s : ByteArray) (i : Nat) (h : i ≤ s.size) : i ≤ (codeSp s i).1 ∧ (codeSp s i).1 ≤ s.size := by
  have h1 := codeTo_room s i h 15
  have h2 := codeTo_range s i 15 (Nat.le_refl _)
  unfold codeSp
  simp only
  split
  · simp only; omega
  · simp only; omega

mutual
theorem valSp_place (s : ByteArray) : ∀ (f i : Nat), i ≤ s.size → i ≤ (valSp s f i).1 ∧ (valSp s f i).1 ≤ s.size
  | 0, i, h => by rw [valSp]; exact ⟨Nat.le_refl _, h⟩
  | f + 1, i, h => by
    rw [valSp]
    split
    · rename_i e
      have hi : i < s.size := pk_lt (by rw [e]; decide)
      have := numSp_place s (-2147483648) 2147483647 (i + 1) (by omega)
      simp only; omega
    · split
      · exact numSp_place s _ _ i h
      · split
        · rename_i e
          exact strSp_place s i (pk_lt (by rw [e]; decide))
        · split
          · rename_i e
            have hi : i < s.size := pk_lt (by rw [e]; decide)
            split
            · rename_i e2
              have hi2 : i + 1 < s.size := pk_lt (by rw [e2]; decide)
              simp only; omega
            · have := lstSp_place s f (i + 1) .nil (by omega)
              simp only; omega
          · exact codeSp_place s i h
theorem lstSp_place (s : ByteArray) : ∀ (f i : Nat) (acc : VL), i ≤ s.size → i ≤ (lstSp s f i acc).1 ∧ (lstSp s f i acc).1 ≤ s.size
  | 0, i, acc, h => by rw [lstSp]; exact ⟨Nat.le_refl _, h⟩
  | f + 1, i, acc, h => by
    have hv := valSp_place s f i h
    rw [lstSp]
    split
    · exact hv
    · split
      · rename_i e
        have hi : (valSp s f i).1 < s.size := pk_lt (by rw [e]; decide)
        split
        · rename_i e2
          have hi2 : (valSp s f i).1 + 1 < s.size := pk_lt (by rw [e2]; decide)
          have := lstSp_place s f ((valSp s f i).1 + 2) (acc.app (valSp s f i).2.2) (by omega)
          omega
        · simp only; omega
      · split
        · rename_i e
          have hi : (valSp s f i).1 < s.size := pk_lt (by rw [e]; decide)
          simp only; omega
        · exact hv
end

/-- One value comes out. -/
theorem valSp_one (s : ByteArray) (f i : Nat) (h : (valSp s f i).2.1 = true) : ∃ k n t sub, (valSp s f i).2.2 = val1 k n t sub := by
  cases f with
  | zero => rw [valSp] at h; cases h
  | succ f =>
    rw [valSp] at h ⊢
    split
    · exact ⟨_, _, _, _, rfl⟩
    · split
      · exact ⟨_, _, _, _, rfl⟩
      · split
        · exact ⟨_, _, _, _, rfl⟩
        · split
          · split <;> exact ⟨_, _, _, _, rfl⟩
          · exact ⟨_, _, _, _, rfl⟩
end Go.Proofs.YtgmnbdfbbcpciaaGreatDoor
namespace Go.Proofs.YtgmnbdfbbcpciaaGreatDoor
open Go.RowKit Go.Lib

/-- The cells of a list of values, their items in memory. -/
def CellsOf (w : World) (S : Nat → Prop) : VL → List Value → Prop
  | .nil, xs => xs = []
  | .cons k n s sub rest, xs => ∃ (sa : Option Addr) (sc : Nat) (ys : List Value), xs = .int .i64 k :: .int .i64 n :: .string s :: .slice sa sub.len sc :: ys ∧ sub.len ≤ sc ∧ RpL w S sub sa ∧ CellsOf w S rest ys

theorem CellsOf.keep {w w' : World} {S S' : Nat → Prop} (hw : ∀ b, S b → w'.heap[b]? = w.heap[b]?) (hS : ∀ b, S b → S' b) : ∀ (l : VL) (xs : List Value), CellsOf w S l xs → CellsOf w' S' l xs
  | .nil, _, h => h
  | .cons _ _ _ sub rest, _, ⟨sa, sc, ys, hx, hc, hs, hr⟩ => ⟨sa, sc, ys, hx, hc, RpL.keep hw hS sub sa hs, CellsOf.keep hw hS rest ys hr⟩
theorem CellsOf.length {w : World} {S : Nat → Prop} : ∀ (l : VL) (xs : List Value), CellsOf w S l xs → xs.length = l.len * 4
  | .nil, _, h => by have : _ = [] := h; subst this; rfl
  | .cons _ _ _ sub rest, _, ⟨sa, sc, ys, hx, hc, hs, hr⟩ => by
    subst hx
    have := CellsOf.length rest ys hr
    simp only [List.length_cons, VL.len]; omega
theorem CellsOf.one {w : World} {S : Nat → Prop} : ∀ (l : VL) (xs : List Value), CellsOf w S l xs → ∀ u ∈ xs, u.oneCell' = true
  | .nil, _, h => by have : _ = [] := h; subst this; simp
  | .cons _ _ _ sub rest, _, ⟨sa, sc, ys, hx, hc, hs, hr⟩ => by
    subst hx
    intro u hu
    simp only [List.mem_cons] at hu
    rcases hu with rfl | rfl | rfl | rfl | hu
    · rfl
    · rfl
    · rfl
    · rfl
    · exact CellsOf.one rest ys hr u hu
theorem CellsOf.app {w : World} {S : Nat → Prop} : ∀ (l m : VL) (xs ys : List Value), CellsOf w S l xs → CellsOf w S m ys → CellsOf w S (l.app m) (xs ++ ys)
  | .nil, m, xs, ys, h, h2 => by have : xs = [] := h; subst this; exact h2
  | .cons _ _ _ sub rest, m, _, ys, ⟨sa, sc, zs, hx, hc, hs, hr⟩, h2 => by
    subst hx
    exact ⟨sa, sc, zs ++ ys, rfl, hc, hs, CellsOf.app rest m zs ys hr h2⟩
/-- Such cells, laid in a block of the sort, are the list in memory. -/
theorem CellsOf.rep {w : World} {S : Nat → Prop} {g : Nat} (hg : S g) : ∀ (l : VL) (xs : List Value) (o : Nat), CellsOf w S l xs → (∀ j u, xs[j]? = some u → w.cell? ⟨g, o + j, none⟩ = some u) → RpL w S l (some ⟨g, o, none⟩)
  | .nil, _, _, _, _ => trivial
  | .cons k n s sub rest, _, o, ⟨sa, sc, ys, hx, hc, hs, hr⟩, hcell => by
    subst hx
    exact ⟨g, o, sa, sc, rfl, hg, hcell 0 _ rfl, hcell 1 _ rfl, hcell 2 _ rfl, hcell 3 _ rfl, hc, hs,
      CellsOf.rep hg rest ys (o + 4) hr (fun j u hj => by rw [show o + 4 + j = o + (j + 4) from by omega]; exact hcell (j + 4) u hj)⟩

/-- What a row that the call owns reads as. -/
theorem own_rep {w : World} {base : Nat} {v : Value} {l : VL} {xs : List Value} {S : Nat → Prop} (h : w.ownsRow base 31 4 v l.len xs) (hc : CellsOf w S l xs) (hS : ∀ g, v.ownBlock = some g → S g) :
    ∃ (sa : Option Addr) (sc : Nat), v = .slice sa l.len sc ∧ l.len ≤ sc ∧ RpL w S l sa := by
  rcases h.2 with ⟨rfl, hl⟩ | ⟨g, cap, cur, rfl, _, hh, hcap, _, hsz, ht⟩
  · rw [hl]
    refine ⟨none, 0, rfl, Nat.le_refl _, ?_⟩
    cases l with
    | nil => trivial
    | cons => simp [VL.len] at hl
  · refine ⟨some ⟨g, 0, none⟩, cap, rfl, hcap, CellsOf.rep (hS g rfl) l xs 0 hc (fun j u hj => ?_)⟩
    rw [Nat.zero_add, cell_of_row w g j cur _ _ hh, ← Array.getElem?_toList]
    have hlen := CellsOf.length l xs hc
    have hjl : j < xs.length := (List.getElem?_eq_some_iff.1 hj).1
    rw [← ht, List.getElem?_take_of_lt (by omega)] at hj
    exact hj

/-- A struct of four cells in a block of its own. -/
def StB (w : World) (g : Nat) (a b c d : Value) : Prop := w.heap[g]? = some (.cells #[a, b, c, d] 31 (0, 0))
section
variable {w w' : World} {g : Nat} {a b c d : Value}
theorem StB.lt (h : StB w g a b c d) : g < w.heap.size := by
  rcases Nat.lt_or_ge g w.heap.size with hlt | hge
  · exact hlt
  · unfold StB at h; rw [Array.getElem?_eq_none hge] at h; cases h
theorem StB.c0 (h : StB w g a b c d) : w.cell? ⟨g, 0, none⟩ = some a := cell_of_row w g 0 _ _ _ h
theorem StB.c1 (h : StB w g a b c d) : w.cell? ⟨g, 1, none⟩ = some b := cell_of_row w g 1 _ _ _ h
theorem StB.c2 (h : StB w g a b c d) : w.cell? ⟨g, 2, none⟩ = some c := cell_of_row w g 2 _ _ _ h
theorem StB.c3 (h : StB w g a b c d) : w.cell? ⟨g, 3, none⟩ = some d := cell_of_row w g 3 _ _ _ h
theorem StB.fr (h : StB w g a b c d) (k : Nat) : w.frozen? ⟨g, k, none⟩ = false := by unfold StB at h; simp [World.frozen?, h]
theorem StB.new (w : World) (a b c d : Value) : StB (w.alloc (.cells #[a, b, c, d] 31)) w.heap.size a b c d := by
  unfold StB World.alloc; simp
theorem StB.alloc (h : StB w g a b c d) (o : Obj) : StB (w.alloc o) g a b c d := (Below.heap_alloc w o g h.lt).trans h
theorem StB.set3 (h : StB w g a b c d) (u : Value) : StB (w.setCell ⟨g, 3, none⟩ u) g a b c u := by
  unfold StB at h ⊢; simp [World.setCell, Array.getElem?_modify, h]
theorem StB.far (h : StB w g a b c d) {p : Addr} (hp : g ≠ p.block) (u : Value) : StB (w.setCell p u) g a b c d := (Below.heap_setCell w p u g hp).trans h
theorem StB.only (h : StB w g a b c d) {row : Option Nat} (hg : w.grownBy w' row) (hr : some g ≠ row) : StB w' g a b c d := (hg.block g h.lt hr).trans h
theorem StB.drewN (h : StB w g a b c d) (n : Nat) : StB (w.drewN n) g a b c d := h
end

theorem StB.set4 {w : World} {g : Nat} {a b c d : Value} (h : StB w g a b c d) (a' b' c' d' : Value) :
    StB ((((w.setCell ⟨g, 0, none⟩ a').setCell ⟨g, 1, none⟩ b').setCell ⟨g, 2, none⟩ c').setCell ⟨g, 3, none⟩ d') g a' b' c' d' := by
  unfold StB at h ⊢; simp [World.setCell, Array.getElem?_modify, h]

/-- A struct of four cells handed back out of its block. -/
theorem results_cell4 {fn : Func} {p : Tmp} (h : fn.results = #[.cell p 31]) (tmps : Array Value) (w : World) (g : Nat) (hp : tmps.getD p undef = .pointer (some ⟨g, 0, none⟩)) {a b c d : Value} (hS : StB w g a b c d) :
    (results fn tmps).run Tryz.prog w = .ok (.agg #[a, b, c, d]) w := by
  have c0 := hS.c0
  have c1 := hS.c1
  have c2 := hS.c2
  have c3 := hS.c3
  have hp' : (tmps[p]?).getD undef = .pointer (some ⟨g, 0, none⟩) := by simpa using hp
  simp [results, h, hp', go_sem, c0, c1, c2, c3]
theorem ret_cell4 {fn : Func} {p : Tmp} {Q : Ending → World → Prop} {act : Act} {w : World} (h : fn.results = #[.cell p 31]) (g : Nat) (hp : act.tmps.getD p undef = .pointer (some ⟨g, 0, none⟩)) (hd : act.defers = [])
    {a b c d : Value} (hS : StB w g a b c d) (hQ : Q (.returned (.agg #[a, b, c, d])) w) : bodyPost Tryz.prog fn Q .ret act w :=
  bodyPost_ret (results_cell4 h act.tmps w g hp hS) hd hQ

theorem val_info : (Tryz.prog.info? 31).map (fun i => (i.zero, i.size, i.bytes)) = some (some (.agg #[.int .i64 0, .int .i64 0, .string ⟨#[]⟩, .slice none 0 0]), 4, 56) := by kernel_rfl

/-- What the reader's list reads, at a place where a bracket opens. -/
def brSp (s : ByteArray) (f i : Nat) : Nat × Bool × VL :=
  if pk s (i + 1) = 125 then (i + 2, true, val1 4 0 ByteArray.empty .nil)
  else ((lstSp s f (i + 1) .nil).1, (lstSp s f (i + 1) .nil).2.1, val1 4 0 ByteArray.empty (lstSp s f (i + 1) .nil).2.2)

theorem own_form {W : World} {base e size n : Nat} {v : Value} {xs : List Value} (h : W.ownsRow base e size v n xs) : ∃ (A : Option Addr) (C : Nat), v = .slice A n C := by
  rcases h.2 with ⟨rfl, hn⟩ | ⟨g, cap, cur, rfl, _⟩
  · subst hn; exact ⟨none, 0, rfl⟩
  · exact ⟨some ⟨g, 0, none⟩, cap, rfl⟩

theorem heap_set4 (w : World) (g : Nat) (a b c d : Value) (k : Nat) (h : k ≠ g) : ((((w.setCell ⟨g, 0, none⟩ a).setCell ⟨g, 1, none⟩ b).setCell ⟨g, 2, none⟩ c).setCell ⟨g, 3, none⟩ d).heap[k]? = w.heap[k]? := by
  rw [Below.heap_setCell _ _ _ _ h, Below.heap_setCell _ _ _ _ h, Below.heap_setCell _ _ _ _ h, Below.heap_setCell _ _ _ _ h]
theorem size_set4 (w : World) (g : Nat) (a b c d : Value) : ((((w.setCell ⟨g, 0, none⟩ a).setCell ⟨g, 1, none⟩ b).setCell ⟨g, 2, none⟩ c).setCell ⟨g, 3, none⟩ d).heap.size = w.heap.size := by simp [World.setCell]

theorem own_lt {W : World} {base e size n : Nat} {v : Value} {xs : List Value} (h : W.ownsRow base e size v n xs) (k : Nat) (hk : v.ownBlock = some k) : k < W.heap.size := by
  rcases h.2 with ⟨rfl, _⟩ | ⟨g, cap, cur, rfl, hb, hh, _⟩
  · cases hk
  · injection hk with hk
    subst hk
    rcases Nat.lt_or_ge g W.heap.size with hlt | hge
    · exact hlt
    · rw [Array.getElem?_eq_none hge] at hh; cases hh

theorem cell_four_new (w : World) (B : Nat) (hB : B = w.heap.size) (a b c d : Value) (t : TypeId) : ∀ j u, [a, b, c, d][j]? = some u → (w.alloc (.cells #[a, b, c, d] t)).cell? ((⟨B, 0, none⟩ : Addr).add j) = some u := by
  subst hB
  intro j u hj
  have e : (⟨w.heap.size, 0, none⟩ : Addr).add j = ⟨w.heap.size, j, none⟩ := by unfold Addr.add; split <;> simp_all
  rw [e, World.cell?_alloc_at _ _ _ _ rfl]
  simpa using hj

end Go.Proofs.YtgmnbdfbbcpciaaGreatDoor
namespace Go.Proofs.YtgmnbdfbbcpciaaGreatDoor
open Go.RowKit Go.Lib

end Go.Proofs.YtgmnbdfbbcpciaaGreatDoor
namespace Go.Proofs.YtgmnbdfbbcpciaaGreatDoor
open Go.RowKit Go.Lib

end Go.Proofs.YtgmnbdfbbcpciaaGreatDoor
namespace Go.Proofs.YtgmnbdfbbcpciaaGreatDoor
open Go.RowKit Go.Lib
set_option linter.unusedVariables false

/-- An error of package api by its number (0: none), the errors' places given. -/
def errV (ea : Nat → Addr) (c : Nat) : Value := if c = 0 then .nilIface else .iface 148 (.pointer (some (ea c)))
/-- The errors lie where they are told to. -/
structure ErrsAt (w : World) (ea : Nat → Addr) : Prop where
  deep : w.cell? ⟨1, 0, none⟩ = some (.iface 148 (.pointer (some (ea 112))))
  many : w.cell? ⟨0, 0, none⟩ = some (.iface 148 (.pointer (some (ea 104))))
  range : w.cell? ⟨4, 0, none⟩ = some (.iface 148 (.pointer (some (ea 105))))
  shape : w.cell? ⟨2, 0, none⟩ = some (.iface 148 (.pointer (some (ea 103))))
  name : w.cell? ⟨3, 0, none⟩ = some (.iface 148 (.pointer (some (ea 106))))
  room : 10 < w.heap.size

theorem ErrsAt.keep {w w' : World} {ea : Nat → Addr} (h : ErrsAt w ea) (hb : ∀ b, b < 10 → w'.heap[b]? = w.heap[b]?) (hz : w.heap.size ≤ w'.heap.size) : ErrsAt w' ea :=
  have hk : ∀ p : Addr, p.block < 10 → w'.cell? p = w.cell? p := fun p hp => World.cell?_of_block (w := w) (hb p.block hp)
  {
  deep := (hk _ (by decide)).trans h.deep,
  many := (hk _ (by decide)).trans h.many,
  range := (hk _ (by decide)).trans h.range,
  shape := (hk _ (by decide)).trans h.shape,
  name := (hk _ (by decide)).trans h.name,
  room := by have := h.room; omega }
theorem ErrsAt.below {w w' : World} {ea : Nat → Addr} {B : Nat} (h : ErrsAt w ea) (hb : Below B w w') (hB : 10 ≤ B) : ErrsAt w' ea := h.keep (fun b hlt => hb.block b (by omega)) hb.size

/-- What is amiss with what a value itself has. -/
def ownE (k n : Int) (s : ByteArray) (len : Nat) : Nat :=
  if k < 0 ∨ 4 < k then 105
  else if k = 1 ∧ (n < -2147483648 ∨ 2147483647 < n) then 105
  else if k = 3 ∧ (n < 0 ∨ 14 < n) then 105
  else if (k ≠ 2 ∧ s.data.toList ≠ []) ∨ (k ≠ 4 ∧ 0 < len) ∨ ((k = 2 ∨ k = 4) ∧ n ≠ 0) then 103
  else if prB s.data.toList = false then 103
  else 0

set_option maxHeartbeats 2000000 in
theorem own_lo (n : Int) (s : ByteArray) (sa : Option Addr) (len sc : Nat) (ea : Nat → Addr) (w : World) (he : ErrsAt w ea) (k : Int) (hk : k < 0) :
    Calls Tryz.prog 84 #[.agg #[.int .i64 k, .int .i64 n, .string s, .slice sa len sc]] w fun e w' => e = .returned (errV ea 105) ∧ Below w.heap.size w w' := by
  have hb : Below w.heap.size w (w.alloc (.cells #[.int .i64 k, .int .i64 n, .string s, .slice sa len sc] 31)) := (Below.refl _ _).alloc (Nat.le_refl _) _
  have he2 := he.below hb (Nat.le_of_lt he.room)
  have r := he2.range
  have sh := he2.shape
  have HB := Lib.hid hb
  clear hb he2 he
  go_enter Tryz.func84, Tryz.ntmps84
  go_wp2_with fail
  go_ret
  exact ⟨rfl, HB.out⟩

set_option maxHeartbeats 2000000 in
theorem own_hi (n : Int) (s : ByteArray) (sa : Option Addr) (len sc : Nat) (ea : Nat → Addr) (w : World) (he : ErrsAt w ea) (k : Int) (hk : 4 < k) :
    Calls Tryz.prog 84 #[.agg #[.int .i64 k, .int .i64 n, .string s, .slice sa len sc]] w fun e w' => e = .returned (errV ea 105) ∧ Below w.heap.size w w' := by
  have hb : Below w.heap.size w (w.alloc (.cells #[.int .i64 k, .int .i64 n, .string s, .slice sa len sc] 31)) := (Below.refl _ _).alloc (Nat.le_refl _) _
  have he2 := he.below hb (Nat.le_of_lt he.room)
  have r := he2.range
  have sh := he2.shape
  have HB := Lib.hid hb
  clear hb he2 he
  have hk0 : 0 ≤ k := by omega
  go_enter Tryz.func84, Tryz.ntmps84
  go_wp2_with fail
  go_ret
  exact ⟨rfl, HB.out⟩

set_option maxHeartbeats 2000000 in
theorem own_1lo (n : Int) (s : ByteArray) (sa : Option Addr) (len sc : Nat) (ea : Nat → Addr) (w : World) (he : ErrsAt w ea) (hn : n < -2147483648) :
    Calls Tryz.prog 84 #[.agg #[.int .i64 1, .int .i64 n, .string s, .slice sa len sc]] w fun e w' => e = .returned (errV ea 105) ∧ Below w.heap.size w w' := by
  have hb : Below w.heap.size w (w.alloc (.cells #[.int .i64 1, .int .i64 n, .string s, .slice sa len sc] 31)) := (Below.refl _ _).alloc (Nat.le_refl _) _
  have he2 := he.below hb (Nat.le_of_lt he.room)
  have r := he2.range
  have sh := he2.shape
  have HB := Lib.hid hb
  clear hb he2 he
  go_enter Tryz.func84, Tryz.ntmps84
  go_wp2_with fail
  go_ret
  exact ⟨rfl, HB.out⟩

set_option maxHeartbeats 2000000 in
theorem own_1hi (n : Int) (s : ByteArray) (sa : Option Addr) (len sc : Nat) (ea : Nat → Addr) (w : World) (he : ErrsAt w ea) (hn : 2147483647 < n) :
    Calls Tryz.prog 84 #[.agg #[.int .i64 1, .int .i64 n, .string s, .slice sa len sc]] w fun e w' => e = .returned (errV ea 105) ∧ Below w.heap.size w w' := by
  have hb : Below w.heap.size w (w.alloc (.cells #[.int .i64 1, .int .i64 n, .string s, .slice sa len sc] 31)) := (Below.refl _ _).alloc (Nat.le_refl _) _
  have he2 := he.below hb (Nat.le_of_lt he.room)
  have r := he2.range
  have sh := he2.shape
  have HB := Lib.hid hb
  clear hb he2 he
  have hn0 : -2147483648 ≤ n := by omega
  go_enter Tryz.func84, Tryz.ntmps84
  go_wp2_with fail
  go_ret
  exact ⟨rfl, HB.out⟩

set_option maxHeartbeats 2000000 in
theorem own_3lo (n : Int) (s : ByteArray) (sa : Option Addr) (len sc : Nat) (ea : Nat → Addr) (w : World) (he : ErrsAt w ea) (hn : n < 0) :
    Calls Tryz.prog 84 #[.agg #[.int .i64 3, .int .i64 n, .string s, .slice sa len sc]] w fun e w' => e = .returned (errV ea 105) ∧ Below w.heap.size w w' := by
  have hb : Below w.heap.size w (w.alloc (.cells #[.int .i64 3, .int .i64 n, .string s, .slice sa len sc] 31)) := (Below.refl _ _).alloc (Nat.le_refl _) _
  have he2 := he.below hb (Nat.le_of_lt he.room)
  have r := he2.range
  have sh := he2.shape
  have HB := Lib.hid hb
  clear hb he2 he
  go_enter Tryz.func84, Tryz.ntmps84
  go_wp2_with fail
  go_ret
  exact ⟨rfl, HB.out⟩

set_option maxHeartbeats 2000000 in
theorem own_3hi (n : Int) (s : ByteArray) (sa : Option Addr) (len sc : Nat) (ea : Nat → Addr) (w : World) (he : ErrsAt w ea) (hn : 14 < n) :
    Calls Tryz.prog 84 #[.agg #[.int .i64 3, .int .i64 n, .string s, .slice sa len sc]] w fun e w' => e = .returned (errV ea 105) ∧ Below w.heap.size w w' := by
  have hb : Below w.heap.size w (w.alloc (.cells #[.int .i64 3, .int .i64 n, .string s, .slice sa len sc] 31)) := (Below.refl _ _).alloc (Nat.le_refl _) _
  have he2 := he.below hb (Nat.le_of_lt he.room)
  have r := he2.range
  have sh := he2.shape
  have HB := Lib.hid hb
  clear hb he2 he
  have hn0 : 0 ≤ n := by omega
  go_enter Tryz.func84, Tryz.ntmps84
  go_wp2_with fail
  go_ret
  exact ⟨rfl, HB.out⟩

set_option maxHeartbeats 2000000 in
theorem own_0s (n : Int) (s : ByteArray) (sa : Option Addr) (len sc : Nat) (ea : Nat → Addr) (w : World) (he : ErrsAt w ea) (hs0 : s.toList.isEmpty = false) (hs1 : ¬s.toList = []) :
    Calls Tryz.prog 84 #[.agg #[.int .i64 0, .int .i64 n, .string s, .slice sa len sc]] w fun e w' => e = .returned (errV ea 103) ∧ Below w.heap.size w w' := by
  have hb : Below w.heap.size w (w.alloc (.cells #[.int .i64 0, .int .i64 n, .string s, .slice sa len sc] 31)) := (Below.refl _ _).alloc (Nat.le_refl _) _
  have he2 := he.below hb (Nat.le_of_lt he.room)
  have r := he2.range
  have sh := he2.shape
  have HB := Lib.hid hb
  clear hb he2 he
  go_enter Tryz.func84, Tryz.ntmps84
  go_wp2_with fail
  go_ret
  exact ⟨rfl, HB.out⟩

set_option maxHeartbeats 2000000 in
theorem own_0l (n : Int) (s : ByteArray) (sa : Option Addr) (len sc : Nat) (ea : Nat → Addr) (w : World) (he : ErrsAt w ea) (hs0 : s.toList.isEmpty = true) (hs1 : s.toList = []) (hl : 0 < len) :
    Calls Tryz.prog 84 #[.agg #[.int .i64 0, .int .i64 n, .string s, .slice sa len sc]] w fun e w' => e = .returned (errV ea 103) ∧ Below w.heap.size w w' := by
  have hb : Below w.heap.size w (w.alloc (.cells #[.int .i64 0, .int .i64 n, .string s, .slice sa len sc] 31)) := (Below.refl _ _).alloc (Nat.le_refl _) _
  have he2 := he.below hb (Nat.le_of_lt he.room)
  have r := he2.range
  have sh := he2.shape
  have HB := Lib.hid hb
  clear hb he2 he
  have hl' : (0 : Int) < (len : Int) := by omega
  go_enter Tryz.func84, Tryz.ntmps84
  go_wp2_with fail
  go_ret
  exact ⟨rfl, HB.out⟩

set_option maxHeartbeats 2000000 in
theorem own_0ok (n : Int) (s : ByteArray) (sa : Option Addr) (len sc : Nat) (ea : Nat → Addr) (w : World) (he : ErrsAt w ea) (hs0 : s.toList.isEmpty = true) (hs1 : s.toList = []) (hs : s.size ≤ 140737488351232) (hp : prB s.data.toList = true) :
    Calls Tryz.prog 84 #[.agg #[.int .i64 0, .int .i64 n, .string s, .slice sa 0 sc]] w fun e w' => e = .returned (errV ea 0) ∧ Below w.heap.size w w' := by
  have hb : Below w.heap.size w (w.alloc (.cells #[.int .i64 0, .int .i64 n, .string s, .slice sa 0 sc] 31)) := (Below.refl _ _).alloc (Nat.le_refl _) _
  have he2 := he.below hb (Nat.le_of_lt he.room)
  have r := he2.range
  have sh := he2.shape
  have HB := Lib.hid hb
  clear hb he2 he
  have HP := Lib.hid (show ∀ W, Calls Tryz.prog 91 #[.string s] W fun e w' => e = .returned (.bool true) ∧ W = w' from fun W => by
    have := printable_c s W hs
    rw [hp] at this
    exact this)
  clear hp hs
  go_enter Tryz.func84, Tryz.ntmps84
  go_wp2_with fail
  refine (HP.out _).mono ?_
  rintro e w' ⟨rfl, rfl⟩
  go_wp2_with fail
  go_ret
  exact ⟨rfl, HB.out⟩

set_option maxHeartbeats 2000000 in
theorem own_1s (n : Int) (s : ByteArray) (sa : Option Addr) (len sc : Nat) (ea : Nat → Addr) (w : World) (he : ErrsAt w ea) (hn1 : -2147483648 ≤ n) (hn2 : n ≤ 2147483647) (hs0 : s.toList.isEmpty = false) (hs1 : ¬s.toList = []) :
    Calls Tryz.prog 84 #[.agg #[.int .i64 1, .int .i64 n, .string s, .slice sa len sc]] w fun e w' => e = .returned (errV ea 103) ∧ Below w.heap.size w w' := by
  have hb : Below w.heap.size w (w.alloc (.cells #[.int .i64 1, .int .i64 n, .string s, .slice sa len sc] 31)) := (Below.refl _ _).alloc (Nat.le_refl _) _
  have he2 := he.below hb (Nat.le_of_lt he.room)
  have r := he2.range
  have sh := he2.shape
  have HB := Lib.hid hb
  clear hb he2 he
  go_enter Tryz.func84, Tryz.ntmps84
  go_wp2_with fail
  go_ret
  exact ⟨rfl, HB.out⟩

set_option maxHeartbeats 2000000 in
theorem own_1l (n : Int) (s : ByteArray) (sa : Option Addr) (len sc : Nat) (ea : Nat → Addr) (w : World) (he : ErrsAt w ea) (hn1 : -2147483648 ≤ n) (hn2 : n ≤ 2147483647) (hs0 : s.toList.isEmpty = true) (hs1 : s.toList = []) (hl : 0 < len) :
    Calls Tryz.prog 84 #[.agg #[.int .i64 1, .int .i64 n, .string s, .slice sa len sc]] w fun e w' => e = .returned (errV ea 103) ∧ Below w.heap.size w w' := by
  have hb : Below w.heap.size w (w.alloc (.cells #[.int .i64 1, .int .i64 n, .string s, .slice sa len sc] 31)) := (Below.refl _ _).alloc (Nat.le_refl _) _
  have he2 := he.below hb (Nat.le_of_lt he.room)
  have r := he2.range
  have sh := he2.shape
  have HB := Lib.hid hb
  clear hb he2 he
  have hl' : (0 : Int) < (len : Int) := by omega
  go_enter Tryz.func84, Tryz.ntmps84
  go_wp2_with fail
  go_ret
  exact ⟨rfl, HB.out⟩

set_option maxHeartbeats 2000000 in
theorem own_1ok (n : Int) (s : ByteArray) (sa : Option Addr) (len sc : Nat) (ea : Nat → Addr) (w : World) (he : ErrsAt w ea) (hn1 : -2147483648 ≤ n) (hn2 : n ≤ 2147483647) (hs0 : s.toList.isEmpty = true) (hs1 : s.toList = []) (hs : s.size ≤ 140737488351232) (hp : prB s.data.toList = true) :
    Calls Tryz.prog 84 #[.agg #[.int .i64 1, .int .i64 n, .string s, .slice sa 0 sc]] w fun e w' => e = .returned (errV ea 0) ∧ Below w.heap.size w w' := by
  have hb : Below w.heap.size w (w.alloc (.cells #[.int .i64 1, .int .i64 n, .string s, .slice sa 0 sc] 31)) := (Below.refl _ _).alloc (Nat.le_refl _) _
  have he2 := he.below hb (Nat.le_of_lt he.room)
  have r := he2.range
  have sh := he2.shape
  have HB := Lib.hid hb
  clear hb he2 he
  have HP := Lib.hid (show ∀ W, Calls Tryz.prog 91 #[.string s] W fun e w' => e = .returned (.bool true) ∧ W = w' from fun W => by
    have := printable_c s W hs
    rw [hp] at this
    exact this)
  clear hp hs
  go_enter Tryz.func84, Tryz.ntmps84
  go_wp2_with fail
  refine (HP.out _).mono ?_
  rintro e w' ⟨rfl, rfl⟩
  go_wp2_with fail
  go_ret
  exact ⟨rfl, HB.out⟩

set_option maxHeartbeats 2000000 in
theorem own_3s (n : Int) (s : ByteArray) (sa : Option Addr) (len sc : Nat) (ea : Nat → Addr) (w : World) (he : ErrsAt w ea) (hn1 : 0 ≤ n) (hn2 : n ≤ 14) (hs0 : s.toList.isEmpty = false) (hs1 : ¬s.toList = []) :
    Calls Tryz.prog 84 #[.agg #[.int .i64 3, .int .i64 n, .string s, .slice sa len sc]] w fun e w' => e = .returned (errV ea 103) ∧ Below w.heap.size w w' := by
  have hb : Below w.heap.size w (w.alloc (.cells #[.int .i64 3, .int .i64 n, .string s, .slice sa len sc] 31)) := (Below.refl _ _).alloc (Nat.le_refl _) _
  have he2 := he.below hb (Nat.le_of_lt he.room)
  have r := he2.range
  have sh := he2.shape
  have HB := Lib.hid hb
  clear hb he2 he
  go_enter Tryz.func84, Tryz.ntmps84
  go_wp2_with fail
  go_ret
  exact ⟨rfl, HB.out⟩

set_option maxHeartbeats 2000000 in
theorem own_3l (n : Int) (s : ByteArray) (sa : Option Addr) (len sc : Nat) (ea : Nat → Addr) (w : World) (he : ErrsAt w ea) (hn1 : 0 ≤ n) (hn2 : n ≤ 14) (hs0 : s.toList.isEmpty = true) (hs1 : s.toList = []) (hl : 0 < len) :
    Calls Tryz.prog 84 #[.agg #[.int .i64 3, .int .i64 n, .string s, .slice sa len sc]] w fun e w' => e = .returned (errV ea 103) ∧ Below w.heap.size w w' := by
  have hb : Below w.heap.size w (w.alloc (.cells #[.int .i64 3, .int .i64 n, .string s, .slice sa len sc] 31)) := (Below.refl _ _).alloc (Nat.le_refl _) _
  have he2 := he.below hb (Nat.le_of_lt he.room)
  have r := he2.range
  have sh := he2.shape
  have HB := Lib.hid hb
  clear hb he2 he
  have hl' : (0 : Int) < (len : Int) := by omega
  go_enter Tryz.func84, Tryz.ntmps84
  go_wp2_with fail
  go_ret
  exact ⟨rfl, HB.out⟩

set_option maxHeartbeats 2000000 in
theorem own_3ok (n : Int) (s : ByteArray) (sa : Option Addr) (len sc : Nat) (ea : Nat → Addr) (w : World) (he : ErrsAt w ea) (hn1 : 0 ≤ n) (hn2 : n ≤ 14) (hs0 : s.toList.isEmpty = true) (hs1 : s.toList = []) (hs : s.size ≤ 140737488351232) (hp : prB s.data.toList = true) :
    Calls Tryz.prog 84 #[.agg #[.int .i64 3, .int .i64 n, .string s, .slice sa 0 sc]] w fun e w' => e = .returned (errV ea 0) ∧ Below w.heap.size w w' := by
  have hb : Below w.heap.size w (w.alloc (.cells #[.int .i64 3, .int .i64 n, .string s, .slice sa 0 sc] 31)) := (Below.refl _ _).alloc (Nat.le_refl _) _
  have he2 := he.below hb (Nat.le_of_lt he.room)
  have r := he2.range
  have sh := he2.shape
  have HB := Lib.hid hb
  clear hb he2 he
  have HP := Lib.hid (show ∀ W, Calls Tryz.prog 91 #[.string s] W fun e w' => e = .returned (.bool true) ∧ W = w' from fun W => by
    have := printable_c s W hs
    rw [hp] at this
    exact this)
  clear hp hs
  go_enter Tryz.func84, Tryz.ntmps84
  go_wp2_with fail
  refine (HP.out _).mono ?_
  rintro e w' ⟨rfl, rfl⟩
  go_wp2_with fail
  go_ret
  exact ⟨rfl, HB.out⟩

set_option maxHeartbeats 2000000 in
theorem own_2l (n : Int) (s : ByteArray) (sa : Option Addr) (len sc : Nat) (ea : Nat → Addr) (w : World) (he : ErrsAt w ea) (hl : 0 < len) :
    Calls Tryz.prog 84 #[.agg #[.int .i64 2, .int .i64 n, .string s, .slice sa len sc]] w fun e w' => e = .returned (errV ea 103) ∧ Below w.heap.size w w' := by
  have hb : Below w.heap.size w (w.alloc (.cells #[.int .i64 2, .int .i64 n, .string s, .slice sa len sc] 31)) := (Below.refl _ _).alloc (Nat.le_refl _) _
  have he2 := he.below hb (Nat.le_of_lt he.room)
  have r := he2.range
  have sh := he2.shape
  have HB := Lib.hid hb
  clear hb he2 he
  have hl' : (0 : Int) < (len : Int) := by omega
  go_enter Tryz.func84, Tryz.ntmps84
  go_wp2_with fail
  go_ret
  exact ⟨rfl, HB.out⟩

set_option maxHeartbeats 2000000 in
theorem own_2n (n : Int) (s : ByteArray) (sa : Option Addr) (len sc : Nat) (ea : Nat → Addr) (w : World) (he : ErrsAt w ea) (hn : (n != 0) = true) (hn' : (n == 0) = false) :
    Calls Tryz.prog 84 #[.agg #[.int .i64 2, .int .i64 n, .string s, .slice sa 0 sc]] w fun e w' => e = .returned (errV ea 103) ∧ Below w.heap.size w w' := by
  have hb : Below w.heap.size w (w.alloc (.cells #[.int .i64 2, .int .i64 n, .string s, .slice sa 0 sc] 31)) := (Below.refl _ _).alloc (Nat.le_refl _) _
  have he2 := he.below hb (Nat.le_of_lt he.room)
  have r := he2.range
  have sh := he2.shape
  have HB := Lib.hid hb
  clear hb he2 he
  go_enter Tryz.func84, Tryz.ntmps84
  go_wp2_with fail
  go_ret
  exact ⟨rfl, HB.out⟩

set_option maxHeartbeats 2000000 in
theorem own_2p (n : Int) (s : ByteArray) (sa : Option Addr) (len sc : Nat) (ea : Nat → Addr) (w : World) (he : ErrsAt w ea) (hs : s.size ≤ 140737488351232) (hp : prB s.data.toList = false) :
    Calls Tryz.prog 84 #[.agg #[.int .i64 2, .int .i64 0, .string s, .slice sa 0 sc]] w fun e w' => e = .returned (errV ea 103) ∧ Below w.heap.size w w' := by
  have hb : Below w.heap.size w (w.alloc (.cells #[.int .i64 2, .int .i64 0, .string s, .slice sa 0 sc] 31)) := (Below.refl _ _).alloc (Nat.le_refl _) _
  have he2 := he.below hb (Nat.le_of_lt he.room)
  have r := he2.range
  have sh := he2.shape
  have HB := Lib.hid hb
  clear hb he2 he
  have hn : ((0 : Int) != 0) = false := rfl
  have HP := Lib.hid (show ∀ W, Calls Tryz.prog 91 #[.string s] W fun e w' => e = .returned (.bool false) ∧ W = w' from fun W => by
    have := printable_c s W hs
    rw [hp] at this
    exact this)
  clear hp hs
  go_enter Tryz.func84, Tryz.ntmps84
  go_wp2_with fail
  refine (HP.out _).mono ?_
  rintro e w' ⟨rfl, rfl⟩
  go_wp2_with fail
  go_ret
  exact ⟨rfl, HB.out⟩

set_option maxHeartbeats 2000000 in
theorem own_2ok (n : Int) (s : ByteArray) (sa : Option Addr) (len sc : Nat) (ea : Nat → Addr) (w : World) (he : ErrsAt w ea) (hs : s.size ≤ 140737488351232) (hp : prB s.data.toList = true) :
    Calls Tryz.prog 84 #[.agg #[.int .i64 2, .int .i64 0, .string s, .slice sa 0 sc]] w fun e w' => e = .returned (errV ea 0) ∧ Below w.heap.size w w' := by
  have hb : Below w.heap.size w (w.alloc (.cells #[.int .i64 2, .int .i64 0, .string s, .slice sa 0 sc] 31)) := (Below.refl _ _).alloc (Nat.le_refl _) _
  have he2 := he.below hb (Nat.le_of_lt he.room)
  have r := he2.range
  have sh := he2.shape
  have HB := Lib.hid hb
  clear hb he2 he
  have hn : ((0 : Int) != 0) = false := rfl
  have HP := Lib.hid (show ∀ W, Calls Tryz.prog 91 #[.string s] W fun e w' => e = .returned (.bool true) ∧ W = w' from fun W => by
    have := printable_c s W hs
    rw [hp] at this
    exact this)
  clear hp hs
  go_enter Tryz.func84, Tryz.ntmps84
  go_wp2_with fail
  refine (HP.out _).mono ?_
  rintro e w' ⟨rfl, rfl⟩
  go_wp2_with fail
  go_ret
  exact ⟨rfl, HB.out⟩

set_option maxHeartbeats 2000000 in
theorem own_4s (n : Int) (s : ByteArray) (sa : Option Addr) (len sc : Nat) (ea : Nat → Addr) (w : World) (he : ErrsAt w ea) (hs0 : s.toList.isEmpty = false) (hs1 : ¬s.toList = []) :
    Calls Tryz.prog 84 #[.agg #[.int .i64 4, .int .i64 n, .string s, .slice sa len sc]] w fun e w' => e = .returned (errV ea 103) ∧ Below w.heap.size w w' := by
  have hb : Below w.heap.size w (w.alloc (.cells #[.int .i64 4, .int .i64 n, .string s, .slice sa len sc] 31)) := (Below.refl _ _).alloc (Nat.le_refl _) _
  have he2 := he.below hb (Nat.le_of_lt he.room)
  have r := he2.range
  have sh := he2.shape
  have HB := Lib.hid hb
  clear hb he2 he
  go_enter Tryz.func84, Tryz.ntmps84
  go_wp2_with fail
  go_ret
  exact ⟨rfl, HB.out⟩

set_option maxHeartbeats 2000000 in
theorem own_4n (n : Int) (s : ByteArray) (sa : Option Addr) (len sc : Nat) (ea : Nat → Addr) (w : World) (he : ErrsAt w ea) (hs0 : s.toList.isEmpty = true) (hs1 : s.toList = []) (hn : (n != 0) = true) (hn' : (n == 0) = false) :
    Calls Tryz.prog 84 #[.agg #[.int .i64 4, .int .i64 n, .string s, .slice sa len sc]] w fun e w' => e = .returned (errV ea 103) ∧ Below w.heap.size w w' := by
  have hb : Below w.heap.size w (w.alloc (.cells #[.int .i64 4, .int .i64 n, .string s, .slice sa len sc] 31)) := (Below.refl _ _).alloc (Nat.le_refl _) _
  have he2 := he.below hb (Nat.le_of_lt he.room)
  have r := he2.range
  have sh := he2.shape
  have HB := Lib.hid hb
  clear hb he2 he
  go_enter Tryz.func84, Tryz.ntmps84
  go_wp2_with fail
  go_ret
  exact ⟨rfl, HB.out⟩

set_option maxHeartbeats 2000000 in
theorem own_4ok (n : Int) (s : ByteArray) (sa : Option Addr) (len sc : Nat) (ea : Nat → Addr) (w : World) (he : ErrsAt w ea) (hs0 : s.toList.isEmpty = true) (hs1 : s.toList = []) (hs : s.size ≤ 140737488351232) (hp : prB s.data.toList = true) :
    Calls Tryz.prog 84 #[.agg #[.int .i64 4, .int .i64 0, .string s, .slice sa len sc]] w fun e w' => e = .returned (errV ea 0) ∧ Below w.heap.size w w' := by
  have hb : Below w.heap.size w (w.alloc (.cells #[.int .i64 4, .int .i64 0, .string s, .slice sa len sc] 31)) := (Below.refl _ _).alloc (Nat.le_refl _) _
  have he2 := he.below hb (Nat.le_of_lt he.room)
  have r := he2.range
  have sh := he2.shape
  have HB := Lib.hid hb
  clear hb he2 he
  have HP := Lib.hid (show ∀ W, Calls Tryz.prog 91 #[.string s] W fun e w' => e = .returned (.bool true) ∧ W = w' from fun W => by
    have := printable_c s W hs
    rw [hp] at this
    exact this)
  clear hp hs
  go_enter Tryz.func84, Tryz.ntmps84
  go_wp2_with fail
  refine (HP.out _).mono ?_
  rintro e w' ⟨rfl, rfl⟩
  go_wp2_with fail
  go_ret
  exact ⟨rfl, HB.out⟩

end Go.Proofs.YtgmnbdfbbcpciaaGreatDoor
namespace Go.Proofs.YtgmnbdfbbcpciaaGreatDoor
open Go.RowKit Go.Lib
set_option linter.unusedVariables false

theorem empty_iff (s : ByteArray) : (s.toList.isEmpty = true ∧ s.toList = [] ∧ s.data.toList = []) ∨ (s.toList.isEmpty = false ∧ ¬s.toList = [] ∧ s.data.toList ≠ []) := by
  rw [Lib.toList_data]
  cases h : s.data.toList with
  | nil => exact .inl ⟨rfl, rfl, rfl⟩
  | cons a t => exact .inr ⟨rfl, by simp, by simp⟩

theorem own_c (k n : Int) (s : ByteArray) (sa : Option Addr) (len sc : Nat) (ea : Nat → Addr) (w : World) (he : ErrsAt w ea) (hs : s.size ≤ 140737488351232) :
    Calls Tryz.prog 84 #[.agg #[.int .i64 k, .int .i64 n, .string s, .slice sa len sc]] w fun e w' => e = .returned (errV ea (ownE k n s len)) ∧ Below w.heap.size w w' := by
  by_cases h0 : k < 0
  · rw [show ownE k n s len = 105 by unfold ownE; rw [if_pos (.inl h0)]]
    exact own_lo n s sa len sc ea w he k h0
  by_cases h4 : 4 < k
  · rw [show ownE k n s len = 105 by unfold ownE; rw [if_pos (.inr h4)]]
    exact own_hi n s sa len sc ea w he k h4
  have hk : k = 0 ∨ k = 1 ∨ k = 2 ∨ k = 3 ∨ k = 4 := by omega
  clear h0 h4
  have nz : ∀ m : Int, m ≠ 0 → (m != 0) = true ∧ (m == 0) = false := fun m hm => ⟨by rw [bne_iff_ne]; exact hm, by rw [beq_eq_false_iff_ne]; exact hm⟩
  have pe : s.data.toList = [] → prB s.data.toList = true := fun h => by rw [h]; rfl
  rcases hk with rfl | rfl | rfl | rfl | rfl
  · rcases empty_iff s with ⟨e1, e2, e3⟩ | ⟨e1, e2, e3⟩
    · by_cases hl : 0 < len
      · rw [show ownE 0 n s len = 103 by simp [ownE, e3, hl]]
        exact own_0l n s sa len sc ea w he e1 e2 hl
      · obtain rfl : len = 0 := by omega
        rw [show ownE 0 n s 0 = 0 by simp [ownE, e3, prB]]
        exact own_0ok n s sa 0 sc ea w he e1 e2 hs (pe e3)
    · rw [show ownE 0 n s len = 103 by unfold ownE; rw [if_neg (by omega), if_neg (by omega), if_neg (by omega), if_pos (.inl ⟨by omega, e3⟩)]]
      exact own_0s n s sa len sc ea w he e1 e2
  · by_cases hr : n < -2147483648
    · rw [show ownE 1 n s len = 105 by unfold ownE; rw [if_neg (by omega), if_pos ⟨rfl, .inl hr⟩]]
      exact own_1lo n s sa len sc ea w he hr
    by_cases hr2 : 2147483647 < n
    · rw [show ownE 1 n s len = 105 by unfold ownE; rw [if_neg (by omega), if_pos ⟨rfl, .inr hr2⟩]]
      exact own_1hi n s sa len sc ea w he hr2
    have q1 : -2147483648 ≤ n := by omega
    have q2 : n ≤ 2147483647 := by omega
    rcases empty_iff s with ⟨e1, e2, e3⟩ | ⟨e1, e2, e3⟩
    · by_cases hl : 0 < len
      · rw [show ownE 1 n s len = 103 by unfold ownE; rw [if_neg (by omega), if_neg (by omega), if_neg (by omega), if_pos (.inr (.inl ⟨by omega, hl⟩))]]
        exact own_1l n s sa len sc ea w he q1 q2 e1 e2 hl
      · obtain rfl : len = 0 := by omega
        rw [show ownE 1 n s 0 = 0 by unfold ownE; rw [if_neg (by omega), if_neg (by omega), if_neg (by omega), if_neg (by simp [e3]), if_neg (by rw [pe e3]; decide)]]
        exact own_1ok n s sa 0 sc ea w he q1 q2 e1 e2 hs (pe e3)
    · rw [show ownE 1 n s len = 103 by unfold ownE; rw [if_neg (by omega), if_neg (by omega), if_neg (by omega), if_pos (.inl ⟨by omega, e3⟩)]]
      exact own_1s n s sa len sc ea w he q1 q2 e1 e2
  · by_cases hl : 0 < len
    · rw [show ownE 2 n s len = 103 by unfold ownE; rw [if_neg (by omega), if_neg (by omega), if_neg (by omega), if_pos (.inr (.inl ⟨by omega, hl⟩))]]
      exact own_2l n s sa len sc ea w he hl
    obtain rfl : len = 0 := by omega
    by_cases hn : n = 0
    · subst hn
      cases hp : prB s.data.toList with
      | true =>
        rw [show ownE 2 0 s 0 = 0 by unfold ownE; rw [if_neg (by omega), if_neg (by omega), if_neg (by omega), if_neg (by omega), if_neg (by rw [hp]; decide)]]
        exact own_2ok 0 s sa 0 sc ea w he hs hp
      | false =>
        rw [show ownE 2 0 s 0 = 103 by unfold ownE; rw [if_neg (by omega), if_neg (by omega), if_neg (by omega), if_neg (by omega), if_pos hp]]
        exact own_2p 0 s sa 0 sc ea w he hs hp
    · rw [show ownE 2 n s 0 = 103 by unfold ownE; rw [if_neg (by omega), if_neg (by omega), if_neg (by omega), if_pos (.inr (.inr ⟨.inl rfl, hn⟩))]]
      exact own_2n n s sa 0 sc ea w he (nz n hn).1 (nz n hn).2
  · by_cases hr : n < 0
    · rw [show ownE 3 n s len = 105 by unfold ownE; rw [if_neg (by omega), if_neg (by omega), if_pos ⟨rfl, .inl hr⟩]]
      exact own_3lo n s sa len sc ea w he hr
    by_cases hr2 : 14 < n
    · rw [show ownE 3 n s len = 105 by unfold ownE; rw [if_neg (by omega), if_neg (by omega), if_pos ⟨rfl, .inr hr2⟩]]
      exact own_3hi n s sa len sc ea w he hr2
    have q1 : 0 ≤ n := by omega
    have q2 : n ≤ 14 := by omega
    rcases empty_iff s with ⟨e1, e2, e3⟩ | ⟨e1, e2, e3⟩
    · by_cases hl : 0 < len
      · rw [show ownE 3 n s len = 103 by unfold ownE; rw [if_neg (by omega), if_neg (by omega), if_neg (by omega), if_pos (.inr (.inl ⟨by omega, hl⟩))]]
        exact own_3l n s sa len sc ea w he q1 q2 e1 e2 hl
      · obtain rfl : len = 0 := by omega
        rw [show ownE 3 n s 0 = 0 by unfold ownE; rw [if_neg (by omega), if_neg (by omega), if_neg (by omega), if_neg (by simp [e3]), if_neg (by rw [pe e3]; decide)]]
        exact own_3ok n s sa 0 sc ea w he q1 q2 e1 e2 hs (pe e3)
    · rw [show ownE 3 n s len = 103 by unfold ownE; rw [if_neg (by omega), if_neg (by omega), if_neg (by omega), if_pos (.inl ⟨by omega, e3⟩)]]
      exact own_3s n s sa len sc ea w he q1 q2 e1 e2
  · rcases empty_iff s with ⟨e1, e2, e3⟩ | ⟨e1, e2, e3⟩
    · by_cases hn : n = 0
      · subst hn
        rw [show ownE 4 0 s len = 0 by unfold ownE; rw [if_neg (by omega), if_neg (by omega), if_neg (by omega), if_neg (by simp [e3]), if_neg (by rw [pe e3]; decide)]]
        exact own_4ok 0 s sa len sc ea w he e1 e2 hs (pe e3)
      · rw [show ownE 4 n s len = 103 by unfold ownE; rw [if_neg (by omega), if_neg (by omega), if_neg (by omega), if_pos (.inr (.inr ⟨.inr rfl, hn⟩))]]
        exact own_4n n s sa len sc ea w he e1 e2 (nz n hn).1 (nz n hn).2
    · rw [show ownE 4 n s len = 103 by unfold ownE; rw [if_neg (by omega), if_neg (by omega), if_neg (by omega), if_pos (.inl ⟨by omega, e3⟩)]]
      exact own_4s n s sa len sc ea w he e1 e2
end Go.Proofs.YtgmnbdfbbcpciaaGreatDoor
namespace Go.Proofs.YtgmnbdfbbcpciaaGreatDoor
open Go.RowKit Go.Lib
set_option linter.unusedVariables false

/-- How many a text takes. -/
def mOf (k : Int) (s : ByteArray) : Int := if k = 2 then s.size else 0
/-- What is amiss with a list of values, and what is left. -/
def walkL : VL → Int → Int → Nat × Int
  | .nil, _, left => (0, left)
  | .cons k n s sub rest, deep, left =>
    let r : Nat × Int := if 40 < deep then (112, left) else if left ≤ mOf k s then (104, left) else if ownE k n s sub.len = 0 then walkL sub (deep + 1) (left - (1 + mOf k s)) else (ownE k n s sub.len, left - (1 + mOf k s))
    if r.1 = 0 then walkL rest deep r.2 else r
/-- The same of one value. -/
def walk1 (k n : Int) (s : ByteArray) (sub : VL) (deep left : Int) : Nat × Int :=
  if 40 < deep then (112, left) else if left ≤ mOf k s then (104, left) else if ownE k n s sub.len = 0 then walkL sub (deep + 1) (left - (1 + mOf k s)) else (ownE k n s sub.len, left - (1 + mOf k s))
theorem walkL_cons (k n : Int) (s : ByteArray) (sub rest : VL) (deep left : Int) :
    walkL (.cons k n s sub rest) deep left = if (walk1 k n s sub deep left).1 = 0 then walkL rest deep (walk1 k n s sub deep left).2 else walk1 k n s sub deep left := rfl

theorem mOf_ge (k : Int) (s : ByteArray) : 0 ≤ mOf k s := by unfold mOf; split <;> omega
theorem walkL_range : ∀ (l : VL) (deep left : Int), 0 ≤ left → 0 ≤ (walkL l deep left).2 ∧ (walkL l deep left).2 ≤ left
  | .nil, deep, left, h => ⟨h, Int.le_refl _⟩
  | .cons k n s sub rest, deep, left, h => by
    have hm := mOf_ge k s
    have h1 : 0 ≤ (walk1 k n s sub deep left).2 ∧ (walk1 k n s sub deep left).2 ≤ left := by
      unfold walk1
      split
      · exact ⟨h, Int.le_refl _⟩
      · split
        · exact ⟨h, Int.le_refl _⟩
        · split
          · have := walkL_range sub (deep + 1) (left - (1 + mOf k s)) (by omega); omega
          · simp only; omega
    rw [walkL_cons]
    split
    · have := walkL_range rest deep (walk1 k n s sub deep left).2 h1.1; omega
    · exact h1
theorem walk1_range (k n : Int) (s : ByteArray) (sub : VL) (deep left : Int) (h : 0 ≤ left) : 0 ≤ (walk1 k n s sub deep left).2 ∧ (walk1 k n s sub deep left).2 ≤ left := by
  have hm := mOf_ge k s
  unfold walk1
  split
  · exact ⟨h, Int.le_refl _⟩
  · split
    · exact ⟨h, Int.le_refl _⟩
    · split
      · have := walkL_range sub (deep + 1) (left - (1 + mOf k s)) (by omega); omega
      · simp only; omega

/-- Values that fit into memory. -/
def VL.fit : VL → Prop
  | .nil => True
  | .cons _ _ s sub rest => s.size ≤ 140737488351232 ∧ sub.len ≤ 140737488351232 ∧ sub.fit ∧ rest.fit
theorem VL.fit_drop : ∀ (i : Nat) (l : VL), l.fit → (l.drop i).fit
  | 0, l, h => by rw [VL.drop]; exact h
  | i + 1, .nil, h => h
  | i + 1, .cons _ _ _ _ r, h => VL.fit_drop i r h.2.2.2
def VL.size : VL → Nat
  | .nil => 0
  | .cons _ _ _ sub rest => sub.size + rest.size + 1
theorem VL.size_drop : ∀ (i : Nat) (l : VL), (l.drop i).size ≤ l.size
  | 0, l => by rw [VL.drop]; exact Nat.le_refl _
  | i + 1, .nil => Nat.le_refl _
  | i + 1, .cons _ _ _ sub r => by have := VL.size_drop i r; simp only [VL.drop, VL.size]; omega

/-- What is left: one number in a block of its own. -/
def LfAt (w : World) (L : Nat) (left : Int) : Prop := w.heap[L]? = some (.cells #[.int .i64 left] 3 (0, 0))
section
variable {w w' : World} {L : Nat} {left : Int}
theorem LfAt.lt (h : LfAt w L left) : L < w.heap.size := by
  rcases Nat.lt_or_ge L w.heap.size with hlt | hge
  · exact hlt
  · unfold LfAt at h; rw [Array.getElem?_eq_none hge] at h; cases h
theorem LfAt.c0 (h : LfAt w L left) : w.cell? ⟨L, 0, none⟩ = some (.int .i64 left) := cell_of_row w L 0 _ _ _ h
theorem LfAt.fr (h : LfAt w L left) : w.frozen? ⟨L, 0, none⟩ = false := by unfold LfAt at h; simp [World.frozen?, h]
theorem LfAt.alloc (h : LfAt w L left) (o : Obj) : LfAt (w.alloc o) L left := (Below.heap_alloc w o L h.lt).trans h
theorem LfAt.set (h : LfAt w L left) (n : Int) : LfAt (w.setCell ⟨L, 0, none⟩ (.int .i64 n)) L n := by
  unfold LfAt at h ⊢; simp [World.setCell, Array.getElem?_modify, h]
theorem LfAt.below (h : LfAt w L left) {B : Nat} (hb : Below B w w') (hL : L < B) : LfAt w' L left := (hb.block L hL).trans h
end
theorem only_alloc {a w : World} {row : Option Nat} (h : a.grownBy w row) (o : Obj) : a.grownBy (w.alloc o) row :=
  ⟨h.os, h.tape, h.output, Nat.le_trans h.size (by simp), fun i hi hne => (Below.heap_alloc w o i (Nat.lt_of_lt_of_le hi h.size)).trans (h.block i hi hne)⟩

theorem StB.below' {w w' : World} {g : Nat} {a b c d : Value} (h : StB w g a b c d) (hb : Below w.heap.size w w') : StB w' g a b c d := (hb.block g h.lt).trans h
theorem only_below' {a w w' : World} {row : Option Nat} (h : Below w.heap.size w w') (hz : a.heap.size ≤ w.heap.size) : w.grownBy w' row := only_below h _

def PWalk (w : World) (L : Nat) (ea : Nat → Addr) (r : Nat × Int) (e : Ending) (w' : World) : Prop := e = .returned (errV ea r.1) ∧ LfAt w' L r.2 ∧ w.grownBy w' (some L)

def WalkC (N : Nat) : Prop := ∀ (k n : Int) (s : ByteArray) (sub : VL) (sa : Option Addr) (sc : Nat) (deep left : Int) (L : Nat) (ea : Nat → Addr) (w : World), sub.size < N → ErrsAt w ea → LfAt w L left → 10 ≤ L →
  s.size ≤ 140737488351232 → sub.len ≤ 140737488351232 → sub.fit → sub.len ≤ sc → RpL w (fun b => b < w.heap.size ∧ b ≠ L) sub sa → 1 ≤ deep → deep ≤ 41 → 0 ≤ left → left ≤ 4096 →
  Calls Tryz.prog 73 #[.agg #[.int .i64 k, .int .i64 n, .string s, .slice sa sub.len sc], .int .i64 deep, .pointer (some ⟨L, 0, none⟩)] w (PWalk w L ea (walk1 k n s sub deep left))

set_option maxRecDepth 100000 in
set_option maxHeartbeats 2000000 in
theorem walk_step (N : Nat) (ih : ∀ N', N' < N → WalkC N') : WalkC N := by
  intro k n s sub sa sc deep left L ea w hN he hlf hL hss hsl hfit hsc hrep hd1 hd2 hl1 hl2
  have hLl := hlf.lt
  obtain ⟨wa, hwa⟩ : ∃ wa, wa = w.alloc (.cells #[.int .i64 k, .int .i64 n, .string s, .slice sa sub.len sc] 31) := ⟨_, rfl⟩
  have hba : Below w.heap.size w wa := by rw [hwa]; exact (Below.refl _ _).alloc (Nat.le_refl _) _
  have hV : StB wa w.heap.size (.int .i64 k) (.int .i64 n) (.string s) (.slice sa sub.len sc) := by rw [hwa]; exact StB.new w _ _ _ _
  have hlfa : LfAt wa L left := hlf.below hba hLl
  have hea : ErrsAt wa ea := he.below hba (Nat.le_of_lt he.room)
  have v0 := hV.c0; have v1 := hV.c1; have v2 := hV.c2; have v3 := hV.c3
  have l0 := hlfa.c0
  have lf0 := hlfa.fr
  have eD := hea.deep
  have eM := hea.many
  have HBA := Lib.hid hba
  have HV := Lib.hid hV
  have HLF := Lib.hid hlfa
  have HE := Lib.hid hea
  clear hV hlfa hea
  subst hwa
  clear hba
  by_cases hdp : 40 < deep
  · have HS := Lib.hid (show walk1 k n s sub deep left = (112, left) by unfold walk1; rw [if_pos hdp])
    go_enter Tryz.func73, Tryz.ntmps73
    go_wp2_with fail
    go_ret
    rw [HS.out]
    exact ⟨rfl, HLF.out, only_below HBA.out _⟩
  have hdp' : deep ≤ 40 := by omega
  clear hdp
  obtain ⟨m, hm⟩ : ∃ m : Int, m = mOf k s := ⟨_, rfl⟩
  have hm0 : 0 ≤ m := by rw [hm, mOf]; split <;> omega
  have hm1 : m ≤ 140737488351232 := by rw [hm, mOf]; split <;> omega
  by_cases hlm : left ≤ m
  · have HS := Lib.hid (show walk1 k n s sub deep left = (104, left) by unfold walk1; rw [if_neg (by omega), ← hm, if_pos hlm])
    by_cases hk : k = 2
    · subst hk
      have hlm' : left ≤ (s.size : Int) := by rw [hm, mOf, if_pos rfl] at hlm; exact hlm
      clear hm hlm hm0 hm1
      go_enter Tryz.func73, Tryz.ntmps73
      go_wp2_with fail
      go_ret
      rw [HS.out]
      exact ⟨rfl, HLF.out, only_below HBA.out _⟩
    · have hk' : (k == 2) = false := by rw [beq_eq_false_iff_ne]; exact hk
      have hlm' : left ≤ 0 := by rw [hm, mOf, if_neg hk] at hlm; exact hlm
      clear hm hlm hm0 hm1 hk
      go_enter Tryz.func73, Tryz.ntmps73
      go_wp2_with fail
      go_ret
      rw [HS.out]
      exact ⟨rfl, HLF.out, only_below HBA.out _⟩
  have hlm' : m < left := by omega
  clear hlm
  have HS := Lib.hid (show walk1 k n s sub deep left = if ownE k n s sub.len = 0 then walkL sub (deep + 1) (left - (1 + m)) else (ownE k n s sub.len, left - (1 + m)) by unfold walk1; rw [if_neg (by omega), ← hm, if_neg (by omega)])
  have HOWN := Lib.hid (fun W hW => own_c k n s sa sub.len sc ea W hW hss)
  by_cases hk : k = 2
  · subst hk
    obtain rfl : m = (s.size : Int) := by rw [hm, mOf, if_pos rfl]
    clear hm
    obtain ⟨w1, hw1⟩ : ∃ w1, w1 = (w.setCell ⟨L, 0, none⟩ (.int .i64 (left - (1 + (s.size : Int))))).alloc (.cells #[.int .i64 2, .int .i64 n, .string s, .slice sa sub.len sc] 31) := ⟨_, rfl⟩
    have HE1 := Lib.hid (show ErrsAt w1 ea by rw [hw1]; exact he.keep (fun b hb => (Below.heap_alloc _ _ _ (by have := he.room; simp [World.setCell]; omega)).trans (Below.heap_setCell _ _ _ _ (by show b ≠ L; omega))) (by simp [World.setCell]))
    have HL1 := Lib.hid (show LfAt w1 L (left - (1 + (s.size : Int))) by rw [hw1]; exact (hlf.set _).alloc _)
    have HV1 := Lib.hid (show StB w1 w.heap.size (.int .i64 2) (.int .i64 n) (.string s) (.slice sa sub.len sc) by rw [hw1]; have := StB.new (w.setCell ⟨L, 0, none⟩ (.int .i64 (left - (1 + (s.size : Int))))) (.int .i64 2) (.int .i64 n) (.string s) (.slice sa sub.len sc); simpa [World.setCell] using this)
    have HG1 := Lib.hid (show w.grownBy w1 (some L) by rw [hw1]; exact only_alloc (only_setCell (only_refl w _) (.inl rfl) _) _)
    have hz1 : w1.heap.size = w.heap.size + 1 := by rw [hw1]; simp [World.setCell]
    have HZ1 := Lib.hid hz1
    have HW1 := Lib.hid hw1
    have u0 := HV1.out.c0; have u1 := HV1.out.c1; have u2 := HV1.out.c2; have u3 := HV1.out.c3
    have u3' := u3
    rw [hw1] at u0 u1 u2 u3
    clear hw1 hz1
    go_enter Tryz.func73, Tryz.ntmps73
    go_wp2_with fail
    rw [← HW1.out]
    clear HW1 u0 u1 u2 u3 v0 v1 v2 v3 l0 lf0 eD eM
    refine (HOWN.out _ HE1.out).mono ?_
    rintro e w2 ⟨rfl, hb2⟩
    have HV2 := Lib.hid (HV1.out.below' hb2)
    have HL2 := Lib.hid (HL1.out.below hb2 HL1.out.lt)
    have HE2 := Lib.hid (HE1.out.below hb2 (Nat.le_of_lt HE1.out.room))
    have HG2 := Lib.hid (only_trans HG1.out (only_below' hb2 HG1.out.size))
    have hz2 : w.heap.size < w2.heap.size := by have := hb2.size; have := HZ1.out; omega
    have x3 := HV2.out.c3
    clear hb2
    obtain ⟨lf, hlf2⟩ : ∃ lf : Int, lf = left - (1 + (s.size : Int)) := ⟨_, rfl⟩
    have hlf0 : 0 ≤ lf := by omega
    have hlf4 : lf ≤ 4096 := by omega
    rw [← hlf2] at HL2 HS
    clear hlf2
    by_cases hoe : ownE 2 n s sub.len = 0
    · rw [if_pos hoe] at HS
      rw [hoe]
      rw [show errV ea 0 = Value.nilIface from rfl]
      have HRP := Lib.hid hrep
      clear hrep
      go_wp2_with fail
      go_loopg [42] sub.len (fun kk v wr => ∃ (i : Nat) (l : Int), v = .int .i64 i ∧ i + kk = sub.len ∧ LfAt wr L l ∧ ErrsAt wr ea ∧ w2.grownBy wr (some L) ∧ 0 ≤ l ∧ l ≤ 4096 ∧ Hid (walkL (sub.drop i) (deep + 1) l = walkL sub (deep + 1) lf))
      case atStart => exact ⟨0, lf, rfl, by omega, HL2.out, HE2.out, only_refl _ _, hlf0, hlf4, by show walkL (sub.drop 0) _ _ = _; rw [VL.drop]⟩
      case round =>
        obtain ⟨i, l, rfl, hik, hlr, her, hgr, hl0, hl4, hwl⟩ := hrel
        by_cases hi : i < sub.len
        · obtain ⟨g, rfl⟩ : ∃ g, gk = g + 1 := ⟨gk - 1, by omega⟩
          obtain ⟨k', n', s', sub', hd⟩ := VL.drop_of_lt i sub hi
          have hrw := HRP.out.grown (only_trans HG2.out hgr) (fun b hb => ⟨hb.1, fun e => by injection e with e; exact hb.2 e⟩)
          obtain ⟨b, o, hsa⟩ : ∃ b o, sa = some ⟨b, o, none⟩ := by
            cases sub with
            | nil => simp [VL.len] at hi
            | cons _ _ _ _ _ => obtain ⟨b, o, _, _, h, _⟩ := hrw; exact ⟨b, o, h⟩
          rw [hsa] at hrw
          have hdr := RpL.drop i sub b o hrw
          rw [hd] at hdr
          obtain ⟨b', o', sa', sc', hA, hSb, c0, c1, c2, c3, hcl, hrs, _⟩ := hdr
          injection hA with hA
          injection hA with hA1 hA2
          subst hA1
          subst hA2
          have hfd := VL.fit_drop i sub hfit
          rw [hd] at hfd
          obtain ⟨hf1, hf2, hf3, _⟩ := hfd
          have hszd := VL.size_drop i sub
          rw [hd] at hszd
          simp only [VL.size] at hszd
          have HWL := Lib.hid hwl
          have HDD := Lib.hid hd
          have HSA := Lib.hid hsa
          subst hsa
          have HRS := Lib.hid hrs
          have HLR := Lib.hid hlr
          have HER := Lib.hid her
          have HGR := Lib.hid hgr
          clear hwl hd hrw hrs hlr her hgr
          rw [Nat.mul_comm 4 i] at c0 c1 c2 c3
          have IHC := Lib.hid (ih (sub'.size + 1) (by omega) k' n' s' sub' sa' sc' (deep + 1) l L ea (wr.alloc (.cells #[.int .i64 k', .int .i64 n', .string s', .slice sa' sub'.len sc'] 31)) (by omega)
            (HER.out.keep (fun b hb => Below.heap_alloc _ _ _ (by have := HER.out.room; omega)) (by simp)) (HLR.out.alloc _) hL hf1 hf2 hf3 hcl
            (HRS.out.keep (fun b hb => Below.heap_alloc _ _ _ (by have := hb.1; have := HG2.out.size; have := HGR.out.size; omega)) (fun b hb => ⟨by have := hb.1; have := HG2.out.size; have := HGR.out.size; simp; omega, hb.2⟩)) (by omega) (by omega) hl0 hl4)
          have HST := Lib.hid (show walkL (sub.drop i) (deep + 1) l = if (walk1 k' n' s' sub' (deep + 1) l).1 = 0 then walkL (sub.drop (i + 1)) (deep + 1) (walk1 k' n' s' sub' (deep + 1) l).2 else walk1 k' n' s' sub' (deep + 1) l by rw [HDD.out, walkL_cons])
          have hrng := walk1_range k' n' s' sub' (deep + 1) l hl0
          obtain ⟨rc, rl, hrr⟩ : ∃ rc rl, walk1 k' n' s' sub' (deep + 1) l = (rc, rl) := ⟨_, _, rfl⟩
          rw [hrr] at IHC HST hrng
          simp only at hrng
          obtain ⟨hrg1, hrg2⟩ := hrng
          clear hrr
          go_wp2_with fail
          refine IHC.out.mono ?_
          rintro e w5 ⟨rfl, hl5, hg5⟩
          have HL5 := Lib.hid hl5
          have HG5 := Lib.hid (only_trans (only_alloc HGR.out _) (show (wr.alloc (.cells #[.int .i64 k', .int .i64 n', .string s', .slice sa' sub'.len sc'] 31)).grownBy w5 (some L) from hg5))
          have HE5 := Lib.hid (HER.out.keep (w' := w5) (fun b hb => (hg5.block b (by have := HER.out.room; simp; omega) (fun e => by injection e with e; omega)).trans (Below.heap_alloc _ _ _ (by have := HER.out.room; omega))) (Nat.le_trans (by simp) hg5.size))
          clear hl5 hg5
          by_cases hrc : rc = 0
          · subst hrc
            have HN := Lib.hid (HST.out.symm.trans HWL.out)
            rw [if_pos rfl] at HN
            rw [show errV ea 0 = Value.nilIface from rfl]
            go_wp2_with fail
            go_roundg g
            case measure => omega
            case rel => exact ⟨i + 1, rl, by go_num, by omega, HL5.out, HE5.out, HG5.out, hrg1, by omega, HN.out⟩
          · have HN := Lib.hid (HST.out.symm.trans HWL.out)
            rw [if_neg hrc] at HN
            have HERR := Lib.hid (show errV ea rc = .iface 148 (.pointer (some (ea rc))) by unfold errV; rw [if_neg hrc])
            rw [HERR.out]
            go_wp2_with fail
            go_ret
            rw [HS.out, ← HN.out, ← HERR.out]
            exact ⟨rfl, HL5.out, only_trans HG2.out HG5.out⟩
        · obtain rfl : i = sub.len := by omega
          rw [VL.drop_len] at hwl
          have HN := Lib.hid hwl
          have HLR := Lib.hid hlr
          have HGR := Lib.hid hgr
          clear hwl hlr hgr her
          go_wp2_with fail
          go_ret
          rw [HS.out, ← HN.out]
          exact ⟨rfl, HLR.out, only_trans HG2.out HGR.out⟩
    · rw [if_neg hoe] at HS
      obtain ⟨oc, hoc⟩ : ∃ oc, oc = ownE 2 n s sub.len := ⟨_, rfl⟩
      rw [← hoc] at HS hoe ⊢
      clear hoc
      have HER := Lib.hid (show errV ea oc = .iface 148 (.pointer (some (ea oc))) by unfold errV; rw [if_neg hoe])
      rw [HER.out]
      go_wp2_with fail
      go_ret
      rw [HS.out, ← HER.out]
      exact ⟨rfl, HL2.out, HG2.out⟩
  · obtain rfl : m = 0 := by rw [hm, mOf, if_neg hk]
    have hk' : (k == 2) = false := by rw [beq_eq_false_iff_ne]; exact hk
    rw [show left - (1 + 0) = left - 1 from by omega] at HS
    clear hm hk
    obtain ⟨w1, hw1⟩ : ∃ w1, w1 = (w.setCell ⟨L, 0, none⟩ (.int .i64 (left - 1))).alloc (.cells #[.int .i64 k, .int .i64 n, .string s, .slice sa sub.len sc] 31) := ⟨_, rfl⟩
    have HE1 := Lib.hid (show ErrsAt w1 ea by rw [hw1]; exact he.keep (fun b hb => (Below.heap_alloc _ _ _ (by have := he.room; simp [World.setCell]; omega)).trans (Below.heap_setCell _ _ _ _ (by show b ≠ L; omega))) (by simp [World.setCell]))
    have HL1 := Lib.hid (show LfAt w1 L (left - 1) by rw [hw1]; exact (hlf.set _).alloc _)
    have HV1 := Lib.hid (show StB w1 w.heap.size (.int .i64 k) (.int .i64 n) (.string s) (.slice sa sub.len sc) by rw [hw1]; have := StB.new (w.setCell ⟨L, 0, none⟩ (.int .i64 (left - 1))) (.int .i64 k) (.int .i64 n) (.string s) (.slice sa sub.len sc); simpa [World.setCell] using this)
    have HG1 := Lib.hid (show w.grownBy w1 (some L) by rw [hw1]; exact only_alloc (only_setCell (only_refl w _) (.inl rfl) _) _)
    have hz1 : w1.heap.size = w.heap.size + 1 := by rw [hw1]; simp [World.setCell]
    have HZ1 := Lib.hid hz1
    have HW1 := Lib.hid hw1
    have u0 := HV1.out.c0; have u1 := HV1.out.c1; have u2 := HV1.out.c2; have u3 := HV1.out.c3
    have u3' := u3
    rw [hw1] at u0 u1 u2 u3
    clear hw1 hz1
    go_enter Tryz.func73, Tryz.ntmps73
    go_wp2_with fail
    rw [← HW1.out]
    clear HW1 u0 u1 u2 u3 v0 v1 v2 v3 l0 lf0 eD eM
    refine (HOWN.out _ HE1.out).mono ?_
    rintro e w2 ⟨rfl, hb2⟩
    have HV2 := Lib.hid (HV1.out.below' hb2)
    have HL2 := Lib.hid (HL1.out.below hb2 HL1.out.lt)
    have HE2 := Lib.hid (HE1.out.below hb2 (Nat.le_of_lt HE1.out.room))
    have HG2 := Lib.hid (only_trans HG1.out (only_below' hb2 HG1.out.size))
    have hz2 : w.heap.size < w2.heap.size := by have := hb2.size; have := HZ1.out; omega
    have x3 := HV2.out.c3
    clear hb2
    obtain ⟨lf, hlf2⟩ : ∃ lf : Int, lf = left - 1 := ⟨_, rfl⟩
    have hlf0 : 0 ≤ lf := by omega
    have hlf4 : lf ≤ 4096 := by omega
    rw [← hlf2] at HL2 HS
    clear hlf2
    by_cases hoe : ownE k n s sub.len = 0
    · rw [if_pos hoe] at HS
      rw [hoe]
      rw [show errV ea 0 = Value.nilIface from rfl]
      have HRP := Lib.hid hrep
      clear hrep
      go_wp2_with fail
      go_loopg [42] sub.len (fun kk v wr => ∃ (i : Nat) (l : Int), v = .int .i64 i ∧ i + kk = sub.len ∧ LfAt wr L l ∧ ErrsAt wr ea ∧ w2.grownBy wr (some L) ∧ 0 ≤ l ∧ l ≤ 4096 ∧ Hid (walkL (sub.drop i) (deep + 1) l = walkL sub (deep + 1) lf))
      case atStart => exact ⟨0, lf, rfl, by omega, HL2.out, HE2.out, only_refl _ _, hlf0, hlf4, by show walkL (sub.drop 0) _ _ = _; rw [VL.drop]⟩
      case round =>
        obtain ⟨i, l, rfl, hik, hlr, her, hgr, hl0, hl4, hwl⟩ := hrel
        by_cases hi : i < sub.len
        · obtain ⟨g, rfl⟩ : ∃ g, gk = g + 1 := ⟨gk - 1, by omega⟩
          obtain ⟨k', n', s', sub', hd⟩ := VL.drop_of_lt i sub hi
          have hrw := HRP.out.grown (only_trans HG2.out hgr) (fun b hb => ⟨hb.1, fun e => by injection e with e; exact hb.2 e⟩)
          obtain ⟨b, o, hsa⟩ : ∃ b o, sa = some ⟨b, o, none⟩ := by
            cases sub with
            | nil => simp [VL.len] at hi
            | cons _ _ _ _ _ => obtain ⟨b, o, _, _, h, _⟩ := hrw; exact ⟨b, o, h⟩
          rw [hsa] at hrw
          have hdr := RpL.drop i sub b o hrw
          rw [hd] at hdr
          obtain ⟨b', o', sa', sc', hA, hSb, c0, c1, c2, c3, hcl, hrs, _⟩ := hdr
          injection hA with hA
          injection hA with hA1 hA2
          subst hA1
          subst hA2
          have hfd := VL.fit_drop i sub hfit
          rw [hd] at hfd
          obtain ⟨hf1, hf2, hf3, _⟩ := hfd
          have hszd := VL.size_drop i sub
          rw [hd] at hszd
          simp only [VL.size] at hszd
          have HWL := Lib.hid hwl
          have HDD := Lib.hid hd
          have HSA := Lib.hid hsa
          subst hsa
          have HRS := Lib.hid hrs
          have HLR := Lib.hid hlr
          have HER := Lib.hid her
          have HGR := Lib.hid hgr
          clear hwl hd hrw hrs hlr her hgr
          rw [Nat.mul_comm 4 i] at c0 c1 c2 c3
          have IHC := Lib.hid (ih (sub'.size + 1) (by omega) k' n' s' sub' sa' sc' (deep + 1) l L ea (wr.alloc (.cells #[.int .i64 k', .int .i64 n', .string s', .slice sa' sub'.len sc'] 31)) (by omega)
            (HER.out.keep (fun b hb => Below.heap_alloc _ _ _ (by have := HER.out.room; omega)) (by simp)) (HLR.out.alloc _) hL hf1 hf2 hf3 hcl
            (HRS.out.keep (fun b hb => Below.heap_alloc _ _ _ (by have := hb.1; have := HG2.out.size; have := HGR.out.size; omega)) (fun b hb => ⟨by have := hb.1; have := HG2.out.size; have := HGR.out.size; simp; omega, hb.2⟩)) (by omega) (by omega) hl0 hl4)
          have HST := Lib.hid (show walkL (sub.drop i) (deep + 1) l = if (walk1 k' n' s' sub' (deep + 1) l).1 = 0 then walkL (sub.drop (i + 1)) (deep + 1) (walk1 k' n' s' sub' (deep + 1) l).2 else walk1 k' n' s' sub' (deep + 1) l by rw [HDD.out, walkL_cons])
          have hrng := walk1_range k' n' s' sub' (deep + 1) l hl0
          obtain ⟨rc, rl, hrr⟩ : ∃ rc rl, walk1 k' n' s' sub' (deep + 1) l = (rc, rl) := ⟨_, _, rfl⟩
          rw [hrr] at IHC HST hrng
          simp only at hrng
          obtain ⟨hrg1, hrg2⟩ := hrng
          clear hrr
          go_wp2_with fail
          refine IHC.out.mono ?_
          rintro e w5 ⟨rfl, hl5, hg5⟩
          have HL5 := Lib.hid hl5
          have HG5 := Lib.hid (only_trans (only_alloc HGR.out _) (show (wr.alloc (.cells #[.int .i64 k', .int .i64 n', .string s', .slice sa' sub'.len sc'] 31)).grownBy w5 (some L) from hg5))
          have HE5 := Lib.hid (HER.out.keep (w' := w5) (fun b hb => (hg5.block b (by have := HER.out.room; simp; omega) (fun e => by injection e with e; omega)).trans (Below.heap_alloc _ _ _ (by have := HER.out.room; omega))) (Nat.le_trans (by simp) hg5.size))
          clear hl5 hg5
          by_cases hrc : rc = 0
          · subst hrc
            have HN := Lib.hid (HST.out.symm.trans HWL.out)
            rw [if_pos rfl] at HN
            rw [show errV ea 0 = Value.nilIface from rfl]
            go_wp2_with fail
            go_roundg g
            case measure => omega
            case rel => exact ⟨i + 1, rl, by go_num, by omega, HL5.out, HE5.out, HG5.out, hrg1, by omega, HN.out⟩
          · have HN := Lib.hid (HST.out.symm.trans HWL.out)
            rw [if_neg hrc] at HN
            have HERR := Lib.hid (show errV ea rc = .iface 148 (.pointer (some (ea rc))) by unfold errV; rw [if_neg hrc])
            rw [HERR.out]
            go_wp2_with fail
            go_ret
            rw [HS.out, ← HN.out, ← HERR.out]
            exact ⟨rfl, HL5.out, only_trans HG2.out HG5.out⟩
        · obtain rfl : i = sub.len := by omega
          rw [VL.drop_len] at hwl
          have HN := Lib.hid hwl
          have HLR := Lib.hid hlr
          have HGR := Lib.hid hgr
          clear hwl hlr hgr her
          go_wp2_with fail
          go_ret
          rw [HS.out, ← HN.out]
          exact ⟨rfl, HLR.out, only_trans HG2.out HGR.out⟩
    · rw [if_neg hoe] at HS
      obtain ⟨oc, hoc⟩ : ∃ oc, oc = ownE k n s sub.len := ⟨_, rfl⟩
      rw [← hoc] at HS hoe ⊢
      clear hoc
      have HER := Lib.hid (show errV ea oc = .iface 148 (.pointer (some (ea oc))) by unfold errV; rw [if_neg hoe])
      rw [HER.out]
      go_wp2_with fail
      go_ret
      rw [HS.out, ← HER.out]
      exact ⟨rfl, HL2.out, HG2.out⟩

theorem walk_c (N : Nat) : WalkC N := by
  induction N using Nat.strongRecOn with
  | _ N ih => exact walk_step N ih
end Go.Proofs.YtgmnbdfbbcpciaaGreatDoor
namespace Go.Proofs.YtgmnbdfbbcpciaaGreatDoor

namespace NL
def tot : NL → Nat
  | .nil => 0
  | .cons _ _ _ _ _ _ _ sub r => 1 + sub.tot + r.tot
def deep : NL → Nat
  | .nil => 0
  | .cons _ _ _ _ _ _ _ sub r => Nat.max (1 + sub.deep) r.deep
/-- All values within are no longer than a machine can hold. -/
def fit : NL → Prop
  | .nil => True
  | .cons _ _ s _ _ t v sub r => s.size ≤ 140737488351232 ∧ t.size ≤ 140737488351232 ∧ v.len ≤ 140737488351232 ∧ v.fit ∧ sub.len ≤ 140737488351232 ∧ sub.fit ∧ r.fit
theorem len_tot : ∀ l : NL, l.len ≤ l.tot
  | .nil => Nat.le_refl _
  | .cons _ _ _ _ _ _ _ sub r => by have := len_tot r; simp only [len, tot]; omega
theorem tot_app : ∀ a b : NL, (a.app b).tot = a.tot + b.tot
  | .nil, b => by simp [app, tot]
  | .cons _ _ _ _ _ _ _ sub r, b => by simp only [app, tot, tot_app r]; omega
theorem deep_app : ∀ a b : NL, (a.app b).deep = Nat.max a.deep b.deep
  | .nil, b => by simp [app, deep]
  | .cons _ _ _ _ _ _ _ sub r, b => by simp only [app, deep, deep_app r]; exact (Nat.max_assoc _ _ _).symm
end NL
end Go.Proofs.YtgmnbdfbbcpciaaGreatDoor
namespace Go.Proofs.YtgmnbdfbbcpciaaGreatDoor
open Go.RowKit Go.Lib
set_option linter.unusedVariables false

theorem VL.fit_app : ∀ a b : VL, a.fit → b.fit → (a.app b).fit
  | .nil, b, _, h => h
  | .cons _ _ _ _ r, b, h, h2 => ⟨h.1, h.2.1, h.2.2.1, VL.fit_app r b h.2.2.2 h2⟩

theorem strLoop_len (s : ByteArray) : ∀ (f i : Nat) (l : List UInt8), i ≤ s.size → l.length ≤ i → (strLoop s f i l).2.2.length ≤ (strLoop s f i l).1
  | 0, i, l, _, h => h
  | f + 1, i, l, hi, h => by
    by_cases h34 : pk s i = 34
    · rw [strLoop_end _ _ _ _ h34]; exact h
    by_cases h92 : pk s i = 92
    · by_cases hy : pk s (i + 1) = 34 ∨ pk s (i + 1) = 92
      · have hi2 : i + 1 < s.size := pk_lt (by rcases hy with e | e <;> rw [e] <;> decide)
        rw [strLoop_esc _ _ _ _ h92 hy]
        exact strLoop_len s f (i + 2) _ (by omega) (by simp; omega)
      · rw [strLoop_esc_bad _ _ _ _ h92 hy]; simp only; omega
    cases hp : prC (pk s i) with
    | false => rw [strLoop_bad _ _ _ _ h34 h92 hp]; exact h
    | true =>
      have hi2 : i < s.size := pk_lt (fun e => by rw [e] at hp; exact absurd hp (by decide))
      rw [strLoop_next _ _ _ _ h34 h92 hp]
      exact strLoop_len s f (i + 1) _ (by omega) (by simp; omega)

theorem strSp_len (s : ByteArray) (i : Nat) (h : i < s.size) : (strSp s i).2.2.length ≤ s.size := by
  have h1 := strLoop_len s (s.size + 1) (i + 1) [] (by omega) (by simp)
  have h2 := strLoop_place s (s.size + 1) (i + 1) [] (by omega)
  unfold strSp
  simp only
  omega

theorem val1_fit {k n : Int} {t : ByteArray} {sub : VL} (h1 : t.size ≤ 140737488351232) (h2 : sub.len ≤ 140737488351232) (h3 : sub.fit) : (val1 k n t sub).fit := ⟨h1, h2, h3, trivial⟩

mutual
theorem valSp_fit (s : ByteArray) (hs : s.size ≤ 1000000000) : ∀ (f i : Nat), i ≤ s.size → (valSp s f i).2.2.fit
  | 0, i, h => by rw [valSp]; trivial
  | f + 1, i, h => by
    rw [valSp]
    split
    · exact val1_fit (by decide) (by decide) trivial
    · split
      · exact val1_fit (by decide) (by decide) trivial
      · split
        · rename_i e
          have := strSp_len s i (pk_lt (by rw [e]; decide))
          refine val1_fit ?_ (by decide) trivial
          show ((strSp s i).2.2.toArray).size ≤ _
          rw [List.size_toArray]; omega
        · split
          · rename_i e
            have hi : i < s.size := pk_lt (by rw [e]; decide)
            split
            · exact val1_fit (by decide) (by decide) trivial
            · have h1 := lstSp_fit s hs f (i + 1) .nil (by omega) trivial (Nat.zero_le _)
              have h2 := lstSp_place s f (i + 1) .nil (by omega)
              exact val1_fit (by decide) (by have := h1.2; omega) h1.1
          · exact val1_fit (by decide) (by decide) trivial
theorem lstSp_fit (s : ByteArray) (hs : s.size ≤ 1000000000) : ∀ (f i : Nat) (acc : VL), i ≤ s.size → acc.fit → acc.len ≤ i → (lstSp s f i acc).2.2.fit ∧ (lstSp s f i acc).2.2.len ≤ s.size + 1
  | 0, i, acc, h, ha, hl => by rw [lstSp]; exact ⟨ha, by simp only; omega⟩
  | f + 1, i, acc, h, ha, hl => by
    have hv := valSp_fit s hs f i h
    have hp := valSp_place s f i h
    have hone := valSp_one s f i
    rw [lstSp]
    split
    · exact ⟨ha, by simp only; omega⟩
    · rename_i hok
      obtain ⟨k, n, t, sub, e⟩ := hone (by simpa using hok)
      have hf : (acc.app (valSp s f i).2.2).fit := VL.fit_app _ _ ha hv
      have hl2 : (acc.app (valSp s f i).2.2).len = acc.len + 1 := by rw [VL.len_app, e]; rfl
      split
      · rename_i e1
        have hi1 : (valSp s f i).1 < s.size := pk_lt (by rw [e1]; decide)
        split
        · rename_i e2
          have hi2 : (valSp s f i).1 + 1 < s.size := pk_lt (by rw [e2]; decide)
          exact lstSp_fit s hs f _ _ (by omega) hf (by omega)
        · exact ⟨hf, by simp only; omega⟩
      · split
        · exact ⟨hf, by simp only; omega⟩
        · exact ⟨hf, by simp only; omega⟩
end

theorem ret_val {a b : Value} (h : a = b) : Ending.returned a = .returned b := by rw [h]
theorem LfAt.new (W : World) (n : Int) : LfAt (W.alloc (.cells #[.int .i64 n] 3)) W.heap.size n := by unfold LfAt World.alloc; simp

set_option maxHeartbeats 1000000 in
theorem valid_c (k n : Int) (s : ByteArray) (sub : VL) (sa : Option Addr) (sc : Nat) (ea : Nat → Addr) (w : World) (he : ErrsAt w ea) (hs : s.size ≤ 140737488351232) (hl : sub.len ≤ 140737488351232) (hf : sub.fit) (hsc : sub.len ≤ sc)
    (hr : RpL w (fun b => b < w.heap.size) sub sa) :
    Calls Tryz.prog 58 #[.agg #[.int .i64 k, .int .i64 n, .string s, .slice sa sub.len sc]] w fun e w' => e = .returned (errV ea (walk1 k n s sub 1 4096).1) ∧ Below w.heap.size w w' := by
  have hroom := he.room
  obtain ⟨wa, hwa⟩ : ∃ wa, wa = (w.alloc (.cells #[.int .i64 k, .int .i64 n, .string s, .slice sa sub.len sc] 31)).alloc (.cells #[.int .i64 4096] 3) := ⟨_, rfl⟩
  have hb : Below w.heap.size w wa := by rw [hwa]; exact ((Below.refl _ _).alloc (Nat.le_refl _) _).alloc (by simp) _
  have hV : StB wa w.heap.size (.int .i64 k) (.int .i64 n) (.string s) (.slice sa sub.len sc) := by rw [hwa]; exact (StB.new w _ _ _ _).alloc _
  have hL : LfAt wa (w.heap.size + 1) 4096 := by rw [hwa]; have := LfAt.new (w.alloc (.cells #[.int .i64 k, .int .i64 n, .string s, .slice sa sub.len sc] 31)) 4096; simpa using this
  have hwz : wa.heap.size = w.heap.size + 2 := by rw [hwa]; simp
  have WC := Lib.hid (walk_c (sub.size + 1) k n s sub sa sc 1 4096 (w.heap.size + 1) ea wa (by omega) (he.below hb (by omega)) hL (by omega) hs hl hf hsc
    (hr.keep (fun b hlt => hb.block b hlt) (fun b hlt => ⟨by omega, by omega⟩)) (by omega) (by omega) (by omega) (by omega))
  have v0 := hV.c0; have v1 := hV.c1; have v2 := hV.c2; have v3 := hV.c3
  have HB := Lib.hid hb
  have HWA := Lib.hid hwa
  have HWZ := Lib.hid hwz
  rw [hwa] at v0 v1 v2 v3
  clear hb hV hL hwa hwz hr
  go_enter Tryz.func58, Tryz.ntmps58
  go_wp2_with fail
  rw [← HWA.out]
  refine WC.out.mono ?_
  rintro e w5 ⟨rfl, hl5, hg5⟩
  have HG := Lib.hid hg5
  clear hg5 hl5 HWA v0 v1 v2 v3
  by_cases hc : (walk1 k n s sub 1 4096).1 = 0
  · have HC := Lib.hid hc
    rw [hc, show errV ea 0 = Value.nilIface from rfl]
    clear hc
    go_wp2_with fail
    go_ret
    exact ⟨ret_val (by rw [HC.out]; rfl), HB.out.trans ⟨HG.out.os, HG.out.tape, HG.out.output, HG.out.size, fun b hb => HG.out.block b (by have := HWZ.out; omega) (fun e => by injection e with e; omega)⟩⟩
  · have HERR := Lib.hid (show errV ea (walk1 k n s sub 1 4096).1 = .iface 148 (.pointer (some (ea (walk1 k n s sub 1 4096).1))) by unfold errV; rw [if_neg hc])
    clear hc
    rw [HERR.out]
    go_wp2_with fail
    go_ret
    exact ⟨ret_val HERR.out.symm, HB.out.trans ⟨HG.out.os, HG.out.tape, HG.out.output, HG.out.size, fun b hb => HG.out.block b (by have := HWZ.out; omega) (fun e => by injection e with e; omega)⟩⟩
end Go.Proofs.YtgmnbdfbbcpciaaGreatDoor
