/- Contracts of the functions that the statement reaches, and the plain mathematics beneath: several texts joined. -/
import Derived.Below
import Derived.Laws.OwnMore
import Derived.Laws.Rows
import Derived.Deep.Draws
import Derived.Test.YtggngahmafbihaaGreatDoorProg
import Derived.WalkKit
import Derived.WalkSpells
import Derived.Lib.Hide
import Derived.BigQuiet
import Derived.Deep.QuietTactic
import Derived.RegionTactic
import Derived.BigRegion
import Derived.Outline
import Derived.Deep.LoopGhost
import Derived.IntWalk
import Derived.Laws.AppendOwn
import Derived.OwnWalk
import Derived.Laws.IdiomStrings
import Derived.Laws.BytesArg
import Derived.Handy
import Derived.Lib.ItoaMem
import Derived.Lib.ItoaLen
import Derived.Lib.ParseIntBCases
import Derived.Lib.ParseIntBTie
namespace Go.Proofs.YtggngahmafbihaaGreatDoor
open Go.RowKit

/-- A list of values: each has a kind, a number, a text and items. -/
inductive VL where
  | nil : VL
  | cons (k n : Int) (s : ByteArray) (sub : VL) (rest : VL) : VL

namespace VL
def len : VL → Nat
  | .nil => 0
  | .cons _ _ _ _ r => r.len + 1
def app : VL → VL → VL
  | .nil, b => b
  | .cons k n s sub r, b => .cons k n s sub (r.app b)
theorem app_nil : ∀ a : VL, a.app .nil = a
  | .nil => rfl
  | .cons k n s sub r => by rw [app, app_nil r]
theorem len_app : ∀ a b : VL, (a.app b).len = a.len + b.len
  | .nil, b => by simp [app, len]
  | .cons k n s sub r, b => by simp [app, len, len_app r]; omega
def take : Nat → VL → VL
  | 0, _ => .nil
  | _ + 1, .nil => .nil
  | i + 1, .cons k n s sub r => .cons k n s sub (r.take i)
def drop : Nat → VL → VL
  | 0, l => l
  | _ + 1, .nil => .nil
  | i + 1, .cons _ _ _ _ r => r.drop i
theorem drop_len : ∀ l : VL, l.drop l.len = .nil
  | .nil => rfl
  | .cons k n s sub r => by rw [len, drop, drop_len r]
theorem take_len : ∀ l : VL, l.take l.len = l
  | .nil => rfl
  | .cons k n s sub r => by rw [len, take, take_len r]
theorem len_drop : ∀ (i : Nat) (l : VL), (l.drop i).len = l.len - i
  | 0, l => by rw [drop]; rfl
  | i + 1, .nil => by simp [drop, len]
  | i + 1, .cons k n s sub r => by rw [drop, len_drop i r, len]; omega
theorem drop_of_lt : ∀ (i : Nat) (l : VL), i < l.len → ∃ k n s sub, l.drop i = .cons k n s sub (l.drop (i + 1))
  | _, .nil, h => by simp [len] at h
  | 0, .cons k n s sub r, _ => ⟨k, n, s, sub, by rw [drop, drop, drop]⟩
  | i + 1, .cons k n s sub r, h => by
    rw [len] at h
    obtain ⟨k', n', s', sub', e⟩ := drop_of_lt i r (by omega)
    exact ⟨k', n', s', sub', by rw [drop, drop, e]⟩
theorem take_succ : ∀ (i : Nat) (l : VL) (k n : Int) (s : ByteArray) (sub : VL), l.drop i = .cons k n s sub (l.drop (i + 1)) → l.take (i + 1) = (l.take i).app (.cons k n s sub .nil)
  | 0, .nil, k, n, s, sub, h => by simp [drop] at h
  | 0, .cons k n s sub r, k', n', s', sub', h => by
    simp only [drop] at h
    injection h with h1 h2 h3 h4 _
    subst h1; subst h2; subst h3; subst h4
    simp [take, app]
  | i + 1, .nil, k, n, s, sub, h => by simp [drop] at h
  | i + 1, .cons k0 n0 s0 sub0 r, k, n, s, sub, h => by
    rw [drop, drop] at h
    rw [take, take_succ i r k n s sub h, take, app]
end VL

/-- A list of values in memory: its cells, from an address on; all in blocks of a sort. -/
def RpL (w : World) (S : Nat → Prop) : VL → Option Addr → Prop
  | .nil, _ => True
  | .cons k n s sub rest, A => ∃ (b o : Nat) (sa : Option Addr) (sc : Nat), A = some ⟨b, o, none⟩ ∧ S b ∧
      w.cell? ⟨b, o, none⟩ = some (.int .i64 k) ∧ w.cell? ⟨b, o + 1, none⟩ = some (.int .i64 n) ∧ w.cell? ⟨b, o + 2, none⟩ = some (.string s) ∧
      w.cell? ⟨b, o + 3, none⟩ = some (.slice sa sub.len sc) ∧ sub.len ≤ sc ∧ RpL w S sub sa ∧ RpL w S rest (some ⟨b, o + 4, none⟩)

theorem RpL.keep {w w' : World} {S S' : Nat → Prop} (hw : ∀ b, S b → w'.heap[b]? = w.heap[b]?) (hS : ∀ b, S b → S' b) : ∀ (l : VL) (A : Option Addr), RpL w S l A → RpL w' S' l A
  | .nil, _, _ => trivial
  | .cons k n s sub rest, A, ⟨b, o, sa, sc, hA, hb, h0, h1, h2, h3, hc, hs, hr⟩ => by
    have hk : ∀ p : Addr, p.block = b → w'.cell? p = w.cell? p := fun p hp => World.cell?_of_block (w := w) (hw p.block (by rw [hp]; exact hb))
    exact ⟨b, o, sa, sc, hA, hS b hb, (hk _ rfl).trans h0, (hk _ rfl).trans h1, (hk _ rfl).trans h2, (hk _ rfl).trans h3, hc, RpL.keep hw hS sub sa hs, RpL.keep hw hS rest _ hr⟩

theorem RpL.below {w w' : World} {S : Nat → Prop} {B : Nat} {l : VL} {A : Option Addr} (h : RpL w S l A) (hb : Below B w w') (hS : ∀ b, S b → b < B) : RpL w' S l A :=
  h.keep (fun b hbS => hb.block b (hS b hbS)) (fun _ h => h)

theorem RpL.grown {w w' : World} {S : Nat → Prop} {R : Option Nat} {l : VL} {A : Option Addr} (h : RpL w S l A) (hb : w.grownBy w' R) (hS : ∀ b, S b → b < w.heap.size ∧ some b ≠ R) : RpL w' S l A :=
  h.keep (fun b hbS => hb.block b (hS b hbS).1 (hS b hbS).2) (fun _ h => h)

theorem RpL.wide {w : World} {S S' : Nat → Prop} {l : VL} {A : Option Addr} (h : RpL w S l A) (hS : ∀ b, S b → S' b) : RpL w S' l A := h.keep (fun _ _ => rfl) hS

/-- The i-th value of a list in memory. -/
theorem RpL.drop {w : World} {S : Nat → Prop} : ∀ (i : Nat) (l : VL) (b o : Nat), RpL w S l (some ⟨b, o, none⟩) → RpL w S (l.drop i) (some ⟨b, o + 4 * i, none⟩)
  | 0, l, b, o, h => by rw [VL.drop]; exact h
  | i + 1, .nil, _, _, _ => by rw [VL.drop]; trivial
  | i + 1, .cons k n s sub r, b, o, ⟨b', o', sa, sc, hA, _, _, _, _, _, _, _, hr⟩ => by
    injection hA with hA
    injection hA with h1 h2
    subst h1; subst h2
    have := RpL.drop i r b (o + 4) hr
    rw [VL.drop]
    rw [show o + 4 * (i + 1) = o + 4 + 4 * i from by omega]
    exact this
end Go.Proofs.YtggngahmafbihaaGreatDoor
namespace Go.Proofs.YtggngahmafbihaaGreatDoor

/-- A word: its kind, line, text, and the value of a literal. -/
structure Tok where
  kind : Int
  line : Int
  s : ByteArray
  k : Int
  n : Int
  t : ByteArray
end Go.Proofs.YtggngahmafbihaaGreatDoor
namespace Go.Proofs.YtggngahmafbihaaGreatDoor
open Go.RowKit

/-- A list of nodes: each has what it is, a line, a name, a value (kind, number, text, items), and nodes. -/
inductive NL where
  | nil : NL
  | cons (op ln : Int) (s : ByteArray) (k n : Int) (t : ByteArray) (v : VL) (sub : NL) (rest : NL) : NL

namespace NL
def len : NL → Nat
  | .nil => 0
  | .cons _ _ _ _ _ _ _ _ r => r.len + 1
def app : NL → NL → NL
  | .nil, b => b
  | .cons op ln s k n t v sub r, b => .cons op ln s k n t v sub (r.app b)
theorem app_nil : ∀ a : NL, a.app .nil = a
  | .nil => rfl
  | .cons op ln s k n t v sub r => by rw [app, app_nil r]
theorem len_app : ∀ a b : NL, (a.app b).len = a.len + b.len
  | .nil, b => by simp [app, len]
  | .cons op ln s k n t v sub r, b => by simp [app, len, len_app r]; omega
def take : Nat → NL → NL
  | 0, _ => .nil
  | _ + 1, .nil => .nil
  | i + 1, .cons op ln s k n t v sub r => .cons op ln s k n t v sub (r.take i)
def drop : Nat → NL → NL
  | 0, l => l
  | _ + 1, .nil => .nil
  | i + 1, .cons _ _ _ _ _ _ _ _ r => r.drop i
theorem drop_len : ∀ l : NL, l.drop l.len = .nil
  | .nil => rfl
  | .cons op ln s k n t v sub r => by rw [len, drop, drop_len r]
theorem take_len : ∀ l : NL, l.take l.len = l
  | .nil => rfl
  | .cons op ln s k n t v sub r => by rw [len, take, take_len r]
theorem len_drop : ∀ (i : Nat) (l : NL), (l.drop i).len = l.len - i
  | 0, l => by rw [drop]; rfl
  | i + 1, .nil => by simp [drop, len]
  | i + 1, .cons op ln s k n t v sub r => by rw [drop, len_drop i r, len]; omega
theorem drop_of_lt : ∀ (i : Nat) (l : NL), i < l.len → ∃ op ln s k n t v sub, l.drop i = .cons op ln s k n t v sub (l.drop (i + 1))
  | _, .nil, h => by simp [len] at h
  | 0, .cons op ln s k n t v sub r, _ => ⟨op, ln, s, k, n, t, v, sub, by rw [drop, drop, drop]⟩
  | i + 1, .cons op ln s k n t v sub r, h => by
    rw [len] at h
    obtain ⟨op', ln', s', k', n', t', v', sub', e⟩ := drop_of_lt i r (by omega)
    exact ⟨op', ln', s', k', n', t', v', sub', by rw [drop, drop, e]⟩
theorem take_succ : ∀ (i : Nat) (l : NL) (op ln : Int) (s : ByteArray) (k n : Int) (t : ByteArray) (v : VL) (sub : NL), l.drop i = .cons op ln s k n t v sub (l.drop (i + 1)) → l.take (i + 1) = (l.take i).app (.cons op ln s k n t v sub .nil)
  | 0, .nil, op, ln, s, k, n, t, v, sub, h => by simp [drop] at h
  | 0, .cons op ln s k n t v sub r, op', ln', s', k', n', t', v', sub', h => by
    simp only [drop] at h
    injection h with h1 h2 h3 h4 h5 h6 h7 h8 _
    subst h1; subst h2; subst h3; subst h4; subst h5; subst h6; subst h7; subst h8
    simp [take, app]
  | i + 1, .nil, op, ln, s, k, n, t, v, sub, h => by simp [drop] at h
  | i + 1, .cons op0 ln0 s0 k0 n0 t0 v0 sub0 r, op, ln, s, k, n, t, v, sub, h => by
    rw [drop, drop] at h
    rw [take, take_succ i r op ln s k n t v sub h, take, app]
end NL

/-- A list of nodes in memory: its cells, from an address on; all in blocks of a sort. -/
def RpN (w : World) (S : Nat → Prop) : NL → Option Addr → Prop
  | .nil, _ => True
  | .cons op ln s k n t v sub rest, A => ∃ (b o : Nat) (va : Option Addr) (vc : Nat) (sa : Option Addr) (sc : Nat), A = some ⟨b, o, none⟩ ∧ S b ∧
      w.cell? ⟨b, o, none⟩ = some (.int .i64 op) ∧ w.cell? ⟨b, o + 1, none⟩ = some (.int .i64 ln) ∧ w.cell? ⟨b, o + 2, none⟩ = some (.string s) ∧
      w.cell? ⟨b, o + 3, none⟩ = some (.int .i64 k) ∧ w.cell? ⟨b, o + 4, none⟩ = some (.int .i64 n) ∧ w.cell? ⟨b, o + 5, none⟩ = some (.string t) ∧
      w.cell? ⟨b, o + 6, none⟩ = some (.slice va v.len vc) ∧ v.len ≤ vc ∧ RpL w S v va ∧
      w.cell? ⟨b, o + 7, none⟩ = some (.slice sa sub.len sc) ∧ sub.len ≤ sc ∧ RpN w S sub sa ∧ RpN w S rest (some ⟨b, o + 8, none⟩)

theorem RpN.keep {w w' : World} {S S' : Nat → Prop} (hw : ∀ b, S b → w'.heap[b]? = w.heap[b]?) (hS : ∀ b, S b → S' b) : ∀ (l : NL) (A : Option Addr), RpN w S l A → RpN w' S' l A
  | .nil, _, _ => trivial
  | .cons op ln s k n t v sub rest, A, ⟨b, o, va, vc, sa, sc, hA, hb, h0, h1, h2, h3, h4, h5, h6, hv, hvr, h7, hc, hs, hr⟩ => by
    have hk : ∀ p : Addr, p.block = b → w'.cell? p = w.cell? p := fun p hp => World.cell?_of_block (w := w) (hw p.block (by rw [hp]; exact hb))
    exact ⟨b, o, va, vc, sa, sc, hA, hS b hb, (hk _ rfl).trans h0, (hk _ rfl).trans h1, (hk _ rfl).trans h2, (hk _ rfl).trans h3, (hk _ rfl).trans h4, (hk _ rfl).trans h5, (hk _ rfl).trans h6, hv, RpL.keep hw hS v va hvr, (hk _ rfl).trans h7, hc, RpN.keep hw hS sub sa hs, RpN.keep hw hS rest _ hr⟩

theorem RpN.below {w w' : World} {S : Nat → Prop} {B : Nat} {l : NL} {A : Option Addr} (h : RpN w S l A) (hb : Below B w w') (hS : ∀ b, S b → b < B) : RpN w' S l A :=
  h.keep (fun b hbS => hb.block b (hS b hbS)) (fun _ h => h)

theorem RpN.grown {w w' : World} {S : Nat → Prop} {R : Option Nat} {l : NL} {A : Option Addr} (h : RpN w S l A) (hb : w.grownBy w' R) (hS : ∀ b, S b → b < w.heap.size ∧ some b ≠ R) : RpN w' S l A :=
  h.keep (fun b hbS => hb.block b (hS b hbS).1 (hS b hbS).2) (fun _ h => h)

theorem RpN.wide {w : World} {S S' : Nat → Prop} {l : NL} {A : Option Addr} (h : RpN w S l A) (hS : ∀ b, S b → S' b) : RpN w S' l A := h.keep (fun _ _ => rfl) hS

/-- The i-th node of a list in memory. -/
theorem RpN.drop {w : World} {S : Nat → Prop} : ∀ (i : Nat) (l : NL) (b o : Nat), RpN w S l (some ⟨b, o, none⟩) → RpN w S (l.drop i) (some ⟨b, o + 8 * i, none⟩)
  | 0, l, b, o, h => by rw [NL.drop]; exact h
  | i + 1, .nil, _, _, _ => by rw [NL.drop]; trivial
  | i + 1, .cons op ln s k n t v sub r, b, o, ⟨b', o', va, vc, sa, sc, hA, _, _, _, _, _, _, _, _, _, _, _, _, _, hr⟩ => by
    injection hA with hA
    injection hA with h1 h2
    subst h1; subst h2
    have := RpN.drop i r b (o + 8) hr
    rw [NL.drop]
    rw [show o + 8 * (i + 1) = o + 8 + 8 * i from by omega]
    exact this
end Go.Proofs.YtggngahmafbihaaGreatDoor
namespace Go.Proofs.YtggngahmafbihaaGreatDoor
open Go.RowKit Go.Lib

theorem ret_bool {a b : Bool} (h : a = b) : Ending.returned (.bool a) = .returned (.bool b) := by rw [h]
theorem ret_int {k : IntKind} {a b : Int} (h : a = b) : Ending.returned (.int k a) = .returned (.int k b) := by rw [h]

/-- The reader at block R: its text, its place, whether all is right. -/
def RdAt (w : World) (R : Nat) (s : ByteArray) (i : Nat) (ok : Bool) : Prop :=
  w.heap[R]? = some (.cells #[.string s, .int .i64 i, .bool ok] 181 (0, 0))

section
variable {w w' : World} {R : Nat} {s : ByteArray} {i : Nat} {ok : Bool}
theorem RdAt.lt (h : RdAt w R s i ok) : R < w.heap.size := by
  rcases Nat.lt_or_ge R w.heap.size with hlt | hge
  · exact hlt
  · unfold RdAt at h; rw [Array.getElem?_eq_none hge] at h; cases h
theorem RdAt.c0 (h : RdAt w R s i ok) : w.cell? ⟨R, 0, none⟩ = some (.string s) := cell_of_row w R 0 _ _ _ h
theorem RdAt.c1 (h : RdAt w R s i ok) : w.cell? ⟨R, 1, none⟩ = some (.int .i64 i) := cell_of_row w R 1 _ _ _ h
theorem RdAt.c2 (h : RdAt w R s i ok) : w.cell? ⟨R, 2, none⟩ = some (.bool ok) := cell_of_row w R 2 _ _ _ h
theorem RdAt.fr (h : RdAt w R s i ok) (k : Nat) : w.frozen? ⟨R, k, none⟩ = false := by unfold RdAt at h; simp [World.frozen?, h]
theorem RdAt.drewN (h : RdAt w R s i ok) (n : Nat) : RdAt (w.drewN n) R s i ok := h
theorem RdAt.set1 (h : RdAt w R s i ok) (j : Nat) : RdAt (w.setCell ⟨R, 1, none⟩ (.int .i64 j)) R s j ok := by
  unfold RdAt at h ⊢; simp [World.setCell, Array.getElem?_modify, h]
theorem RdAt.set2 (h : RdAt w R s i ok) (b : Bool) : RdAt (w.setCell ⟨R, 2, none⟩ (.bool b)) R s i b := by
  unfold RdAt at h ⊢; simp [World.setCell, Array.getElem?_modify, h]
end

/-- The byte at hand, 0 behind the end. -/
def pk (s : ByteArray) (i : Nat) : UInt8 := s.data.toList.getD i 0
theorem pk_in (s : ByteArray) (i : Nat) (h : i < s.size) : pk s i = s[i] := by
  unfold pk
  rw [List.getD_eq_getElem?_getD, List.getElem?_eq_getElem (by simpa using h)]; rfl
theorem pk_out (s : ByteArray) (i : Nat) (h : ¬ i < s.size) : pk s i = 0 := by
  unfold pk
  rw [List.getD_eq_getElem?_getD, List.getElem?_eq_none (by simpa using h)]; rfl

set_option maxHeartbeats 400000 in
theorem peek_c (R : Nat) (s : ByteArray) (i : Nat) (ok : Bool) (w : World) (h : RdAt w R s i ok) :
    Calls Tryz.prog 185 #[.pointer (some ⟨R, 0, none⟩)] w fun e w' => e = .returned (.int .u8 (pk s i).toNat) ∧ ∃ n, w' = w.drewN n := by
  have h0 := h.c0
  have h1 := h.c1
  clear h
  by_cases hi : i < s.size
  · have hp := Lib.hid (pk_in s i hi)
    go_enter Tryz.func185, Tryz.ntmps185
    go_wp2
    go_quiet (fail)
    go_wp2
    go_quiet (fail)
    go_wp2
    go_ret
    exact ⟨ret_int (by rw [hp.out]), _, World.drewN_drewN _ _ _⟩
  · have hp := Lib.hid (pk_out s i hi)
    go_enter Tryz.func185, Tryz.ntmps185
    go_wp2
    go_quiet (fail)
    go_wp2
    go_ret
    exact ⟨ret_int (by rw [hp.out]; rfl), _, rfl⟩

/-- Is a byte a digit? -/
def digB (c : UInt8) : Bool := decide (48 ≤ c.toNat ∧ c.toNat ≤ 57)

set_option maxHeartbeats 400000 in
theorem digit_c (c : UInt8) (w : World) :
    Calls Tryz.prog 188 #[.int .u8 c.toNat] w fun e w' => e = .returned (.bool (digB c)) ∧ w = w' := by
  by_cases h1 : 48 ≤ (c.toNat : Int)
  · by_cases h2 : (c.toNat : Int) ≤ 57
    · have hh := Lib.hid (show digB c = true from decide_eq_true (by omega))
      go_enter Tryz.func188, Tryz.ntmps188
      go_wp2
      go_ret
      exact ⟨ret_bool hh.out.symm, rfl⟩
    · have hh := Lib.hid (show digB c = false from decide_eq_false (by omega))
      have h2' : 57 < (c.toNat : Int) := by omega
      go_enter Tryz.func188, Tryz.ntmps188
      go_wp2
      go_ret
      exact ⟨ret_bool hh.out.symm, rfl⟩
  · have hh := Lib.hid (show digB c = false from decide_eq_false (by omega))
    have h1' : (c.toNat : Int) < 48 := by omega
    go_enter Tryz.func188, Tryz.ntmps188
    go_wp2
    go_ret
    exact ⟨ret_bool hh.out.symm, rfl⟩

/-- What take leaves: whether all is right, and the place. -/
def tkOk (s : ByteArray) (i : Nat) (ok : Bool) (c : UInt8) : Bool := ok && decide (i < s.size) && pk s i == c
def tkAt (s : ByteArray) (i : Nat) (ok : Bool) (c : UInt8) : Nat := if tkOk s i ok c then i + 1 else i

/-- How a step of the reader's leaves the world. -/
structure Rds (w w' : World) (R : Nat) (s : ByteArray) (i : Nat) (ok : Bool) : Prop where
  at_ : RdAt w' R s i ok
  grown : w.grownBy w' (some R)

theorem only_drewN {a w : World} {row : Option Nat} (h : a.grownBy w row) (n : Nat) : a.grownBy (w.drewN n) row := ⟨h.os, h.tape, h.output, h.size, h.block⟩
theorem only_setCell {a w : World} {g : Nat} (h : a.grownBy w (some g)) {p : Addr} (hp : p.block = g ∨ a.heap.size ≤ p.block) (u : Value) : a.grownBy (w.setCell p u) (some g) :=
  ⟨h.os, h.tape, h.output, by simpa [World.setCell] using h.size, fun i hi hne => (Below.heap_setCell w p u i (by
    rintro rfl
    rcases hp with hp | hp
    · exact hne (by rw [hp])
    · omega)).trans (h.block i hi hne)⟩

section
variable {w w' : World} {R : Nat} {s : ByteArray} {i : Nat} {ok : Bool}
theorem RdAt.drew (h : RdAt w R s i ok) : RdAt w.drew R s i ok := h
theorem only_drew {a w : World} {row : Option Nat} (h : a.grownBy w row) : a.grownBy w.drew row := ⟨h.os, h.tape, h.output, h.size, h.block⟩
theorem only_refl (w : World) (row : Option Nat) : w.grownBy w row := ⟨rfl, rfl, rfl, Nat.le_refl _, fun _ _ _ => rfl⟩
theorem only_trans {a b c : World} {row : Option Nat} (h : a.grownBy b row) (k : b.grownBy c row) : a.grownBy c row :=
  ⟨k.os.trans h.os, k.tape.trans h.tape, k.output.trans h.output, Nat.le_trans h.size k.size, fun i hi hn => (k.block i (Nat.lt_of_lt_of_le hi h.size) hn).trans (h.block i hi hn)⟩
theorem only_below {a w : World} (h : Below a.heap.size a w) (row : Option Nat) : a.grownBy w row := ⟨h.os, h.tape, h.output, h.size, fun i hi _ => h.block i hi⟩

theorem Rds.of (h : RdAt w R s i ok) : Rds w w R s i ok := ⟨h, only_refl _ _⟩
theorem Rds.trans {w1 w2 w3 : World} {j k : Nat} {b c : Bool} (h : Rds w1 w2 R s j b) (g : Rds w2 w3 R s k c) : Rds w1 w3 R s k c := ⟨g.at_, only_trans h.grown g.grown⟩
theorem Rds.drew {w1 w2 : World} (h : Rds w1 w2 R s i ok) : Rds w1 w2.drew R s i ok := ⟨h.at_, only_drew h.grown⟩
theorem Rds.drewN {w1 w2 : World} (h : Rds w1 w2 R s i ok) (n : Nat) : Rds w1 (w2.drewN n) R s i ok := ⟨h.at_, only_drewN h.grown n⟩
theorem Rds.set1 {w1 w2 : World} (h : Rds w1 w2 R s i ok) (j : Nat) : Rds w1 (w2.setCell ⟨R, 1, none⟩ (.int .i64 j)) R s j ok := ⟨h.at_.set1 j, only_setCell h.grown (.inl rfl) _⟩
theorem Rds.set2 {w1 w2 : World} (h : Rds w1 w2 R s i ok) (b : Bool) : Rds w1 (w2.setCell ⟨R, 2, none⟩ (.bool b)) R s i b := ⟨h.at_.set2 b, only_setCell h.grown (.inl rfl) _⟩
end

set_option maxHeartbeats 400000 in
theorem take_c (R : Nat) (s : ByteArray) (i : Nat) (ok : Bool) (c : UInt8) (w : World) (h : RdAt w R s i ok) (hs : s.size ≤ 1000000000) :
    Calls Tryz.prog 224 #[.pointer (some ⟨R, 0, none⟩), .int .u8 c.toNat] w fun e w' => e = .returned (.tuple #[]) ∧ Rds w w' R s (tkAt s i ok c) (tkOk s i ok c) := by
  have h0 := h.c0
  have h1 := h.c1
  have h2 := h.c2
  have f2 := h.fr 2
  have f1 := h.fr 1
  have H := Lib.hid h
  clear h
  cases ok with
  | false =>
    have e1 : tkOk s i false c = false := rfl
    have e2 : tkAt s i false c = i := rfl
    rw [e1, e2]
    clear e1 e2
    go_enter Tryz.func224, Tryz.ntmps224
    go_wp2
    go_region
    go_wp2
    go_end0
    exact ⟨rfl, ((Rds.of H.out).set2 false).drew⟩
  | true =>
    by_cases hi : i < s.size
    · have hp := pk_in s i hi
      have e0 : tkOk s i true c = (pk s i == c) := by simp [tkOk, hi]
      by_cases hc : pk s i = c
      · have e1 : tkOk s i true c = true := by rw [e0, hc]; simp
        have e2 : tkAt s i true c = i + 1 := by unfold tkAt; rw [e1]; rfl
        rw [e1, e2]
        have hq : ((s[i].toNat : Int) == (c.toNat : Int)) = true := by rw [← hp, hc]; simp
        clear e0 e1 e2 hp hc
        go_enter Tryz.func224, Tryz.ntmps224
        go_wp2
        go_region
        go_wp2
        go_end0
        exact ⟨rfl, (((Rds.of H.out).set2 true).set1 (i + 1)).drew⟩
      · have e1 : tkOk s i true c = false := by rw [e0]; simpa using hc
        have e2 : tkAt s i true c = i := by unfold tkAt; rw [e1]; rfl
        rw [e1, e2]
        have hq : ((s[i].toNat : Int) == (c.toNat : Int)) = false := by
          rw [← hp, beq_eq_false_iff_ne]
          intro e
          exact hc (UInt8.toNat_inj.1 (by omega))
        clear e0 e1 e2 hp hc
        go_enter Tryz.func224, Tryz.ntmps224
        go_wp2
        go_region
        go_wp2
        go_end0
        exact ⟨rfl, ((Rds.of H.out).set2 false).drew⟩
    · have e1 : tkOk s i true c = false := by simp [tkOk, hi]
      have e2 : tkAt s i true c = i := by unfold tkAt; rw [e1]; rfl
      rw [e1, e2]
      clear e1 e2
      go_enter Tryz.func224, Tryz.ntmps224
      go_wp2
      go_region
      go_wp2
      go_end0
      exact ⟨rfl, ((Rds.of H.out).set2 false).drew⟩
end Go.Proofs.YtggngahmafbihaaGreatDoor
namespace Go.Proofs.YtggngahmafbihaaGreatDoor
open Go.RowKit Go.Lib

/-- The digits of a number, each taken away from ten times what was read; the place, whether all is right, the number. -/
def numLoop (s : ByteArray) (low high : Int) (neg : Bool) : Nat → Nat → Int → Nat × Bool × Int
  | 0, i, n => (i, true, n)
  | f + 1, i, n =>
    if digB (pk s i) then
      if n < -922337203685477580 ∨ 10 * n < -9223372036854775808 + ((pk s i).toNat - 48 : Int) ∨ (neg = true ∧ 10 * n - ((pk s i).toNat - 48 : Int) < low) ∨ (neg = false ∧ 10 * n - ((pk s i).toNat - 48 : Int) < -high) then (i, false, 0)
      else numLoop s low high neg f (i + 1) (10 * n - ((pk s i).toNat - 48 : Int))
    else (i, true, n)

/-- The number with its sign turned. -/
def negR (r : Nat × Bool × Int) : Nat × Bool × Int := (r.1, r.2.1, if r.2.1 then -r.2.2 else 0)

/-- A number: the place behind it, whether all is right, the number. -/
def numSp (s : ByteArray) (low high : Int) (i : Nat) : Nat × Bool × Int :=
  if pk s i = 45 then
    if digB (pk s (i + 1)) = false ∨ pk s (i + 1) = 48 then (i + 1, false, 0)
    else numLoop s low high true (s.size + 1) (i + 1) 0
  else if pk s i = 48 then (i + 1, true, 0)
  else if digB (pk s i) = false then (i, false, 0)
  else negR (numLoop s low high false (s.size + 1) i 0)

theorem digB_in {s : ByteArray} {i : Nat} (h : digB (pk s i) = true) : i < s.size := by
  rcases Nat.lt_or_ge i s.size with hi | hi
  · exact hi
  · rw [pk_out s i (by omega)] at h; exact absurd h (by decide)
theorem digB_range {c : UInt8} (h : digB c = true) : 48 ≤ c.toNat ∧ c.toNat ≤ 57 := by simpa [digB] using h

theorem numLoop_step (s : ByteArray) (low high : Int) (neg : Bool) (f i : Nat) (n : Int) (h : digB (pk s i) = true)
    (hg : ¬(n < -922337203685477580 ∨ 10 * n < -9223372036854775808 + ((pk s i).toNat - 48 : Int) ∨ (neg = true ∧ 10 * n - ((pk s i).toNat - 48 : Int) < low) ∨ (neg = false ∧ 10 * n - ((pk s i).toNat - 48 : Int) < -high))) :
    numLoop s low high neg (f + 1) i n = numLoop s low high neg f (i + 1) (10 * n - ((pk s i).toNat - 48 : Int)) := by
  rw [numLoop, if_pos h, if_neg hg]
theorem numLoop_bad (s : ByteArray) (low high : Int) (neg : Bool) (f i : Nat) (n : Int) (h : digB (pk s i) = true)
    (hg : n < -922337203685477580 ∨ 10 * n < -9223372036854775808 + ((pk s i).toNat - 48 : Int) ∨ (neg = true ∧ 10 * n - ((pk s i).toNat - 48 : Int) < low) ∨ (neg = false ∧ 10 * n - ((pk s i).toNat - 48 : Int) < -high)) :
    numLoop s low high neg (f + 1) i n = (i, false, 0) := by
  rw [numLoop, if_pos h, if_pos hg]
theorem numLoop_end (s : ByteArray) (low high : Int) (neg : Bool) (f i : Nat) (n : Int) (h : digB (pk s i) = false) : numLoop s low high neg (f + 1) i n = (i, true, n) := by
  rw [numLoop, if_neg (by rw [h]; decide)]

/-- Where all is right at the end the loop's number lies in its range. -/
theorem digit_any (c : UInt8) (x : Int) (hx : x = c.toNat) (w : World) : Calls Tryz.prog 188 #[.int .u8 x] w fun e w' => e = .returned (.bool (digB c)) ∧ w = w' := by
  subst hx; exact digit_c c w

set_option maxRecDepth 100000 in
set_option maxHeartbeats 1000000 in
theorem number_neg (R : Nat) (s : ByteArray) (i : Nat) (low high : Int) (w : World) (h : RdAt w R s i true) (hs : s.size ≤ 1000000000)
    (hl1 : -9223372036854775808 ≤ low) (hl2 : low ≤ 0) (hneg : pk s i = 45) :
    Calls Tryz.prog 187 #[.pointer (some ⟨R, 0, none⟩), .int .i64 low, .int .i64 high] w fun e w' =>
      e = .returned (.int .i64 (numSp s low high i).2.2) ∧ Rds w w' R s (numSp s low high i).1 (numSp s low high i).2.1 := by
  have hi : i < s.size := by
    rcases Nat.lt_or_ge i s.size with hi | hi
    · exact hi
    · rw [pk_out s i (by omega)] at hneg; cases hneg
  have p1 : ((pk s i).toNat : Int) = 45 := by rw [hneg]; rfl
  have k1 : ((pk s i).toNat == 45) = true := by rw [hneg]; rfl
  have pk0 := Lib.hid (fun W hW => peek_c R s i true W hW)
  have tk := fun W hW => take_c R s i true 45 W hW hs
  have e1 : tkOk s i true 45 = true := by simp [tkOk, hi, hneg]
  have e2 : tkAt s i true 45 = i + 1 := by unfold tkAt; rw [e1]; rfl
  rw [e1, e2] at tk
  have TK := Lib.hid tk
  have pk1 := Lib.hid (fun W hW => peek_c R s (i + 1) true W hW)
  clear tk e1 e2
  by_cases hb : digB (pk s (i + 1)) = false ∨ pk s (i + 1) = 48
  · have HS := Lib.hid (show numSp s low high i = (i + 1, false, 0) by unfold numSp; rw [if_pos hneg, if_pos hb])
    have dg := fun W => digit_any (pk s (i + 1)) _ rfl W
    cases hd : digB (pk s (i + 1)) with
    | false =>
      rw [hd] at dg
      have DG := Lib.hid dg
      obtain ⟨c0, hc0⟩ : ∃ c : Nat, c = (pk s i).toNat := ⟨_, rfl⟩
      obtain ⟨c1, hc1⟩ : ∃ c : Nat, c = (pk s (i + 1)).toNat := ⟨_, rfl⟩
      rw [← hc0] at pk0 p1 k1
      rw [← hc1] at pk1 DG
      clear hb dg hneg hd hc0 hc1
      go_enter Tryz.func187, Tryz.ntmps187
      go_wp2_with fail
      refine (pk0.out _ h).mono ?_
      rintro e w1 ⟨rfl, n1, rfl⟩
      go_wp2_with fail
      refine (TK.out _ (h.drewN n1)).mono ?_
      rintro e w2 ⟨rfl, hr2⟩
      go_wp2_with fail
      refine (pk1.out _ hr2.at_).mono ?_
      rintro e w3 ⟨rfl, n3, rfl⟩
      have k2 : ((c1 : Int) == 48) = true ∨ ((c1 : Int) == 48) = false := by cases ((c1 : Int) == 48) <;> simp
      have g2 := hr2.at_.fr 2
      have g3 := hr2.at_.c2
      have HR2 := Lib.hid hr2
      clear hr2
      rcases k2 with k2 | k2
      all_goals
        go_wp2_with fail
        refine (pk1.out _ (HR2.out.at_.drewN n3)).mono ?_
        rintro e w4 ⟨rfl, n4, rfl⟩
        go_wp2_with fail
        refine (DG.out _).mono ?_
        rintro e w5 ⟨rfl, rfl⟩
        go_wp2_with fail
        go_ret
        rw [HS.out]
        exact ⟨ret_int rfl, (((Rds.of h).drewN n1).trans (HR2.out.drewN _)).set2 false⟩
    | true =>
      have hb2 : pk s (i + 1) = 48 := by
        rcases hb with e | e
        · rw [hd] at e; cases e
        · exact e
      rw [hd] at dg
      have DG := Lib.hid (show ∀ W, Calls Tryz.prog 188 #[.int .u8 48] W fun e w' => e = .returned (.bool true) ∧ W = w' from fun W => by
        have := dg W
        rw [hb2] at this
        exact this)
      have PK1 := Lib.hid (show ∀ W, RdAt W R s (i + 1) true → Calls Tryz.prog 185 #[.pointer (some ⟨R, 0, none⟩)] W fun e w' => e = .returned (.int .u8 48) ∧ ∃ n, w' = W.drewN n from fun W hW => by
        have := pk1.out W hW
        rw [hb2] at this
        exact this)
      obtain ⟨c0, hc0⟩ : ∃ c : Nat, c = (pk s i).toNat := ⟨_, rfl⟩
      rw [← hc0] at pk0 p1 k1
      clear hb hb2 dg hneg hd hc0 pk1
      go_enter Tryz.func187, Tryz.ntmps187
      go_wp2_with fail
      refine (pk0.out _ h).mono ?_
      rintro e w1 ⟨rfl, n1, rfl⟩
      go_wp2_with fail
      refine (TK.out _ (h.drewN n1)).mono ?_
      rintro e w2 ⟨rfl, hr2⟩
      go_wp2_with fail
      refine (PK1.out _ hr2.at_).mono ?_
      rintro e w3 ⟨rfl, n3, rfl⟩
      have g2 := hr2.at_.fr 2
      have g3 := hr2.at_.c2
      have HR2 := Lib.hid hr2
      clear hr2
      go_wp2_with fail
      refine (PK1.out _ (HR2.out.at_.drewN n3)).mono ?_
      rintro e w4 ⟨rfl, n4, rfl⟩
      go_wp2_with fail
      refine (DG.out _).mono ?_
      rintro e w5 ⟨rfl, rfl⟩
      go_wp2_with fail
      refine (PK1.out _ (HR2.out.at_.drewN _)).mono ?_
      rintro e w6 ⟨rfl, n6, rfl⟩
      go_wp2_with fail
      go_ret
      rw [HS.out]
      exact ⟨ret_int rfl, (((Rds.of h).drewN n1).trans (HR2.out.drewN _)).set2 false⟩
  · have HS := Lib.hid (show numSp s low high i = numLoop s low high true (s.size + 1) (i + 1) 0 by unfold numSp; rw [if_pos hneg, if_neg hb])
    have hb1 : digB (pk s (i + 1)) = true := by
      cases hd : digB (pk s (i + 1)) with
      | true => rfl
      | false => exact absurd (.inl hd) hb
    have hb2 : ¬ pk s (i + 1) = 48 := fun e => hb (.inr e)
    have p2 : ((pk s (i + 1)).toNat : Int) ≠ 48 := fun e => hb2 (UInt8.toNat_inj.1 (by show (pk s (i + 1)).toNat = 48; omega))
    have k2 : (((pk s (i + 1)).toNat : Int) == 48) = false := by rw [beq_eq_false_iff_ne]; exact p2
    have dg := fun W => digit_any (pk s (i + 1)) _ rfl W
    rw [hb1] at dg
    have DG := Lib.hid dg
    clear hb hb1 hb2 dg p2 hneg
    obtain ⟨c0, hc0⟩ : ∃ c : Nat, c = (pk s i).toNat := ⟨_, rfl⟩
    obtain ⟨c1, hc1⟩ : ∃ c : Nat, c = (pk s (i + 1)).toNat := ⟨_, rfl⟩
    rw [← hc0] at pk0 p1 k1
    rw [← hc1] at pk1 k2 DG
    clear hc0 hc1
    go_enter Tryz.func187, Tryz.ntmps187
    go_wp2_with fail
    refine (pk0.out _ h).mono ?_
    rintro e w1 ⟨rfl, n1, rfl⟩
    go_wp2_with fail
    refine (TK.out _ (h.drewN n1)).mono ?_
    rintro e w2 ⟨rfl, hr2⟩
    go_wp2_with fail
    refine (pk1.out _ hr2.at_).mono ?_
    rintro e w3 ⟨rfl, n3, rfl⟩
    go_wp2_with fail
    refine (pk1.out _ (hr2.at_.drewN n3)).mono ?_
    rintro e w4 ⟨rfl, n4, rfl⟩
    go_wp2_with fail
    refine (DG.out _).mono ?_
    rintro e w5 ⟨rfl, rfl⟩
    go_wp2_with fail
    refine (pk1.out _ (by exact hr2.at_.drewN _)).mono ?_
    rintro e w6 ⟨rfl, n6, rfl⟩
    go_wp2_with fail
    obtain ⟨wL, hwL⟩ : ∃ wL, wL = w2.drewN (n3 + n4 + n6) := ⟨_, rfl⟩
    have hL : Rds w wL R s (i + 1) true := by rw [hwL]; exact (Rds.trans ((Rds.of h).drewN n1) hr2).drewN _
    rw [← hwL]
    have HL := Lib.hid hL
    clear hL hwL hr2
    go_loopg [8] (s.size + 1) (fun k v wr => ∃ (j : Nat) (n : Int), v = .int .i64 n ∧ Rds w wr R s j true ∧ s.size + 1 = j + k - (i + 1) ∧ -9223372036854775808 ≤ n ∧ n ≤ 0 ∧
      Hid (numLoop s low high true k j n = numLoop s low high true (s.size + 1) (i + 1) 0))
    case atStart => exact ⟨i + 1, 0, rfl, HL.out, by omega, by omega, by omega, rfl⟩
    case round =>
      obtain ⟨j, n, rfl, hr, hk, hn1, hn2, hq⟩ := hrel
      have pkj := fun W hW => peek_c R s j true W hW
      have dgj := fun W => digit_any (pk s j) _ rfl W
      have hrj := hr.at_
      have j1 := hrj.c1
      have jf1 := hrj.fr 1
      have jf2 := hrj.fr 2
      have j2 := hrj.c2
      have HR := Lib.hid hr
      clear hr
      cases hd : digB (pk s j) with
      | false =>
        have hex : numLoop s low high true gk j n = (j, true, n) := by
          cases gk with
          | zero => rfl
          | succ f => exact numLoop_end s low high true f j n hd
        have HEX := Lib.hid hex
        rw [hd] at dgj
        obtain ⟨c, hc⟩ : ∃ c : Nat, c = (pk s j).toNat := ⟨_, rfl⟩
        rw [← hc] at pkj dgj
        have PKJ := Lib.hid pkj
        have DGJ := Lib.hid dgj
        clear pkj dgj hd hc hex
        go_wp2_with fail
        refine (PKJ.out _ hrj).mono ?_
        rintro e w7 ⟨rfl, n7, rfl⟩
        go_wp2_with fail
        refine (DGJ.out _).mono ?_
        rintro e w8 ⟨rfl, rfl⟩
        go_wp2_with fail
        go_ret
        rw [HS.out, ← hq.out, HEX.out]
        exact ⟨ret_int rfl, HR.out.drewN _⟩
      | true =>
        have hj := digB_in hd
        obtain ⟨hc1, hc2⟩ := digB_range hd
        obtain ⟨f, rfl⟩ : ∃ f, gk = f + 1 := ⟨gk - 1, by omega⟩
        rw [hd] at dgj
        obtain ⟨c, hc⟩ : ∃ c : Nat, c = (pk s j).toNat := ⟨_, rfl⟩
        rw [← hc] at pkj dgj hc1 hc2
        have PKJ := Lib.hid pkj
        have DGJ := Lib.hid dgj
        have HST := Lib.hid (numLoop_step s low high true f j n hd)
        have HBD := Lib.hid (numLoop_bad s low high true f j n hd)
        rw [← hc] at HST HBD
        clear pkj dgj hd hc
        have hc1' : 48 ≤ (c : Int) := by omega
        have hc2' : (c : Int) ≤ 57 := by omega
        by_cases a1 : n < -922337203685477580
        · have HB := Lib.hid (HBD.out (.inl a1))
          clear HST HBD
          go_wp2_with fail
          refine (PKJ.out _ hrj).mono ?_
          rintro e w7 ⟨rfl, n7, rfl⟩
          go_wp2_with fail
          refine (DGJ.out _).mono ?_
          rintro e w8 ⟨rfl, rfl⟩
          go_wp2_with fail
          refine (PKJ.out _ (hrj.drewN _)).mono ?_
          rintro e w9 ⟨rfl, n9, rfl⟩
          go_wp2_with fail
          go_ret
          rw [HS.out, ← hq.out, HB.out]
          exact ⟨ret_int rfl, (HR.out.drewN _).set2 false⟩
        · have a1' : -922337203685477580 ≤ n := by omega
          clear a1
          by_cases a2 : 10 * n < -9223372036854775808 + ((c : Int) - 48)
          · have HB := Lib.hid (HBD.out (.inr (.inl a2)))
            clear HST HBD
            go_wp2_with fail
            refine (PKJ.out _ hrj).mono ?_
            rintro e w7 ⟨rfl, n7, rfl⟩
            go_wp2_with fail
            refine (DGJ.out _).mono ?_
            rintro e w8 ⟨rfl, rfl⟩
            go_wp2_with fail
            refine (PKJ.out _ (hrj.drewN _)).mono ?_
            rintro e w9 ⟨rfl, n9, rfl⟩
            go_wp2_with fail
            go_ret
            rw [HS.out, ← hq.out, HB.out]
            exact ⟨ret_int rfl, (HR.out.drewN _).set2 false⟩
          · have a2' : -9223372036854775808 + ((c : Int) - 48) ≤ 10 * n := by omega
            clear a2
            by_cases a3 : 10 * n - ((c : Int) - 48) < low
            · have HB := Lib.hid (HBD.out (.inr (.inr (.inl ⟨rfl, a3⟩))))
              clear HST HBD
              go_wp2_with fail
              refine (PKJ.out _ hrj).mono ?_
              rintro e w7 ⟨rfl, n7, rfl⟩
              go_wp2_with fail
              refine (DGJ.out _).mono ?_
              rintro e w8 ⟨rfl, rfl⟩
              go_wp2_with fail
              refine (PKJ.out _ (hrj.drewN _)).mono ?_
              rintro e w9 ⟨rfl, n9, rfl⟩
              go_wp2_with fail
              go_ret
              rw [HS.out, ← hq.out, HB.out]
              exact ⟨ret_int rfl, (HR.out.drewN _).set2 false⟩
            · have a3' : low ≤ 10 * n - ((c : Int) - 48) := by omega
              have HB := Lib.hid (HST.out (by simp; omega))
              clear HST HBD a3
              go_wp2_with fail
              refine (PKJ.out _ hrj).mono ?_
              rintro e w7 ⟨rfl, n7, rfl⟩
              go_wp2_with fail
              refine (DGJ.out _).mono ?_
              rintro e w8 ⟨rfl, rfl⟩
              go_wp2_with fail
              refine (PKJ.out _ (hrj.drewN _)).mono ?_
              rintro e w9 ⟨rfl, n9, rfl⟩
              go_wp2_with fail
              go_roundg f
              case measure => omega
              case rel =>
                refine ⟨j + 1, 10 * n - ((c : Int) - 48), ?_, (HR.out.drewN _).set1 (j + 1), by omega, by omega, by omega, ?_⟩
                · congr 1
                · rw [← HB.out]; exact hq.out
end Go.Proofs.YtggngahmafbihaaGreatDoor
namespace Go.Proofs.YtggngahmafbihaaGreatDoor
open Go.RowKit Go.Lib

set_option maxRecDepth 100000 in
set_option maxHeartbeats 1000000 in
theorem number_pos (R : Nat) (s : ByteArray) (i : Nat) (low high : Int) (w : World) (h : RdAt w R s i true) (hs : s.size ≤ 1000000000)
    (hh1 : 0 ≤ high) (hh2 : high ≤ 9223372036854775807) (hneg : pk s i ≠ 45) :
    Calls Tryz.prog 187 #[.pointer (some ⟨R, 0, none⟩), .int .i64 low, .int .i64 high] w fun e w' =>
      e = .returned (.int .i64 (numSp s low high i).2.2) ∧ Rds w w' R s (numSp s low high i).1 (numSp s low high i).2.1 := by
  have p1 : ((pk s i).toNat : Int) ≠ 45 := fun e => hneg (UInt8.toNat_inj.1 (by show (pk s i).toNat = 45; omega))
  have k1 : (((pk s i).toNat : Int) == 45) = false := by rw [beq_eq_false_iff_ne]; exact p1
  have pk0 := Lib.hid (fun W hW => peek_c R s i true W hW)
  have h1 := h.c1
  have f1 := h.fr 1
  have h2 := h.c2
  have f2 := h.fr 2
  by_cases hz : pk s i = 48
  · have HS := Lib.hid (show numSp s low high i = (i + 1, true, 0) by unfold numSp; rw [if_neg hneg, if_pos hz])
    have hi : i < s.size := by
      rcases Nat.lt_or_ge i s.size with hi | hi
      · exact hi
      · rw [pk_out s i (by omega)] at hz; cases hz
    have PK1 := Lib.hid (show ∀ W, RdAt W R s i true → Calls Tryz.prog 185 #[.pointer (some ⟨R, 0, none⟩)] W fun e w' => e = .returned (.int .u8 48) ∧ ∃ n, w' = W.drewN n from fun W hW => by
      have := pk0.out W hW
      rw [hz] at this
      exact this)
    clear hz hneg p1 k1 pk0
    go_enter Tryz.func187, Tryz.ntmps187
    go_wp2_with fail
    refine (PK1.out _ h).mono ?_
    rintro e w1 ⟨rfl, n1, rfl⟩
    go_wp2_with fail
    refine (PK1.out _ (h.drewN n1)).mono ?_
    rintro e w2 ⟨rfl, n2, rfl⟩
    go_wp2_with fail
    go_ret
    rw [HS.out]
    exact ⟨ret_int rfl, ((Rds.of h).drewN _).set1 (i + 1)⟩
  have p2 : ((pk s i).toNat : Int) ≠ 48 := fun e => hz (UInt8.toNat_inj.1 (by show (pk s i).toNat = 48; omega))
  have k2 : (((pk s i).toNat : Int) == 48) = false := by rw [beq_eq_false_iff_ne]; exact p2
  have dg := fun W => digit_any (pk s i) _ rfl W
  cases hd : digB (pk s i) with
  | false =>
    have HS := Lib.hid (show numSp s low high i = (i, false, 0) by unfold numSp; rw [if_neg hneg, if_neg hz, if_pos hd])
    rw [hd] at dg
    have DG := Lib.hid dg
    obtain ⟨c0, hc0⟩ : ∃ c : Nat, c = (pk s i).toNat := ⟨_, rfl⟩
    rw [← hc0] at pk0 k1 k2 DG
    clear hz hneg p1 p2 dg hd hc0
    go_enter Tryz.func187, Tryz.ntmps187
    go_wp2_with fail
    refine (pk0.out _ h).mono ?_
    rintro e w1 ⟨rfl, n1, rfl⟩
    go_wp2_with fail
    refine (pk0.out _ (h.drewN n1)).mono ?_
    rintro e w2 ⟨rfl, n2, rfl⟩
    go_wp2_with fail
    refine (pk0.out _ (h.drewN _)).mono ?_
    rintro e w4 ⟨rfl, n4, rfl⟩
    go_wp2_with fail
    refine (DG.out _).mono ?_
    rintro e w5 ⟨rfl, rfl⟩
    go_wp2_with fail
    go_ret
    rw [HS.out]
    exact ⟨ret_int rfl, ((Rds.of h).drewN _).set2 false⟩
  | true =>
    have HS := Lib.hid (show numSp s low high i = negR (numLoop s low high false (s.size + 1) i 0) by
      unfold numSp; rw [if_neg hneg, if_neg hz, if_neg (by rw [hd]; decide)])
    rw [hd] at dg
    have DG := Lib.hid dg
    obtain ⟨c0, hc0⟩ : ∃ c : Nat, c = (pk s i).toNat := ⟨_, rfl⟩
    rw [← hc0] at pk0 k1 k2 DG
    clear hz hneg p1 p2 dg hd hc0 h1 f1 h2 f2
    go_enter Tryz.func187, Tryz.ntmps187
    go_wp2_with fail
    refine (pk0.out _ h).mono ?_
    rintro e w1 ⟨rfl, n1, rfl⟩
    go_wp2_with fail
    refine (pk0.out _ (h.drewN n1)).mono ?_
    rintro e w2 ⟨rfl, n2, rfl⟩
    go_wp2_with fail
    refine (pk0.out _ (h.drewN _)).mono ?_
    rintro e w4 ⟨rfl, n4, rfl⟩
    go_wp2_with fail
    refine (DG.out _).mono ?_
    rintro e w5 ⟨rfl, rfl⟩
    go_wp2_with fail
    refine (pk0.out _ (h.drewN _)).mono ?_
    rintro e w6 ⟨rfl, n6, rfl⟩
    go_wp2_with fail
    obtain ⟨wL, hwL⟩ : ∃ wL, wL = w.drewN (n1 + n2 + n4 + n6) := ⟨_, rfl⟩
    have hL : Rds w wL R s i true := by rw [hwL]; exact (Rds.of h).drewN _
    rw [← hwL]
    have HL := Lib.hid hL
    clear hL hwL
    go_loopg [8] (s.size + 1) (fun k v wr => ∃ (j : Nat) (n : Int), v = .int .i64 n ∧ Rds w wr R s j true ∧ s.size + 1 = j + k - i ∧ -high ≤ n ∧ n ≤ 0 ∧
      Hid (numLoop s low high false k j n = numLoop s low high false (s.size + 1) i 0))
    case atStart => exact ⟨i, 0, rfl, HL.out, by omega, by omega, by omega, rfl⟩
    case round =>
      obtain ⟨j, n, rfl, hr, hk, hn1, hn2, hq⟩ := hrel
      have pkj := fun W hW => peek_c R s j true W hW
      have dgj := fun W => digit_any (pk s j) _ rfl W
      have hrj := hr.at_
      have j1 := hrj.c1
      have jf1 := hrj.fr 1
      have jf2 := hrj.fr 2
      have j2 := hrj.c2
      have HR := Lib.hid hr
      clear hr
      cases hd : digB (pk s j) with
      | false =>
        have hex : numLoop s low high false gk j n = (j, true, n) := by
          cases gk with
          | zero => rfl
          | succ f => exact numLoop_end s low high false f j n hd
        have HEX := Lib.hid hex
        rw [hd] at dgj
        obtain ⟨c, hc⟩ : ∃ c : Nat, c = (pk s j).toNat := ⟨_, rfl⟩
        rw [← hc] at pkj dgj
        have PKJ := Lib.hid pkj
        have DGJ := Lib.hid dgj
        clear pkj dgj hd hc hex
        go_wp2_with fail
        refine (PKJ.out _ hrj).mono ?_
        rintro e w7 ⟨rfl, n7, rfl⟩
        go_wp2_with fail
        refine (DGJ.out _).mono ?_
        rintro e w8 ⟨rfl, rfl⟩
        go_wp2_with fail
        go_ret
        rw [HS.out, ← hq.out, HEX.out]
        exact ⟨ret_int rfl, HR.out.drewN _⟩
      | true =>
        have hj := digB_in hd
        obtain ⟨hc1, hc2⟩ := digB_range hd
        obtain ⟨f, rfl⟩ : ∃ f, gk = f + 1 := ⟨gk - 1, by omega⟩
        rw [hd] at dgj
        obtain ⟨c, hc⟩ : ∃ c : Nat, c = (pk s j).toNat := ⟨_, rfl⟩
        rw [← hc] at pkj dgj hc1 hc2
        have PKJ := Lib.hid pkj
        have DGJ := Lib.hid dgj
        have HST := Lib.hid (numLoop_step s low high false f j n hd)
        have HBD := Lib.hid (numLoop_bad s low high false f j n hd)
        rw [← hc] at HST HBD
        clear pkj dgj hd hc
        have hc1' : 48 ≤ (c : Int) := by omega
        have hc2' : (c : Int) ≤ 57 := by omega
        by_cases a1 : n < -922337203685477580
        · have HB := Lib.hid (HBD.out (.inl a1))
          clear HST HBD
          go_wp2_with fail
          refine (PKJ.out _ hrj).mono ?_
          rintro e w7 ⟨rfl, n7, rfl⟩
          go_wp2_with fail
          refine (DGJ.out _).mono ?_
          rintro e w8 ⟨rfl, rfl⟩
          go_wp2_with fail
          refine (PKJ.out _ (hrj.drewN _)).mono ?_
          rintro e w9 ⟨rfl, n9, rfl⟩
          go_wp2_with fail
          go_ret
          rw [HS.out, ← hq.out, HB.out]
          exact ⟨ret_int rfl, (HR.out.drewN _).set2 false⟩
        · have a1' : -922337203685477580 ≤ n := by omega
          clear a1
          by_cases a2 : 10 * n < -9223372036854775808 + ((c : Int) - 48)
          · have HB := Lib.hid (HBD.out (.inr (.inl a2)))
            clear HST HBD
            go_wp2_with fail
            refine (PKJ.out _ hrj).mono ?_
            rintro e w7 ⟨rfl, n7, rfl⟩
            go_wp2_with fail
            refine (DGJ.out _).mono ?_
            rintro e w8 ⟨rfl, rfl⟩
            go_wp2_with fail
            refine (PKJ.out _ (hrj.drewN _)).mono ?_
            rintro e w9 ⟨rfl, n9, rfl⟩
            go_wp2_with fail
            go_ret
            rw [HS.out, ← hq.out, HB.out]
            exact ⟨ret_int rfl, (HR.out.drewN _).set2 false⟩
          · have a2' : -9223372036854775808 + ((c : Int) - 48) ≤ 10 * n := by omega
            clear a2
            by_cases a3 : 10 * n - ((c : Int) - 48) < -high
            · have HB := Lib.hid (HBD.out (.inr (.inr (.inr ⟨rfl, a3⟩))))
              clear HST HBD
              go_wp2_with fail
              refine (PKJ.out _ hrj).mono ?_
              rintro e w7 ⟨rfl, n7, rfl⟩
              go_wp2_with fail
              refine (DGJ.out _).mono ?_
              rintro e w8 ⟨rfl, rfl⟩
              go_wp2_with fail
              refine (PKJ.out _ (hrj.drewN _)).mono ?_
              rintro e w9 ⟨rfl, n9, rfl⟩
              go_wp2_with fail
              go_ret
              rw [HS.out, ← hq.out, HB.out]
              exact ⟨ret_int rfl, (HR.out.drewN _).set2 false⟩
            · have a3' : -high ≤ 10 * n - ((c : Int) - 48) := by omega
              have HB := Lib.hid (HST.out (by simp; omega))
              clear HST HBD a3
              go_wp2_with fail
              refine (PKJ.out _ hrj).mono ?_
              rintro e w7 ⟨rfl, n7, rfl⟩
              go_wp2_with fail
              refine (DGJ.out _).mono ?_
              rintro e w8 ⟨rfl, rfl⟩
              go_wp2_with fail
              refine (PKJ.out _ (hrj.drewN _)).mono ?_
              rintro e w9 ⟨rfl, n9, rfl⟩
              go_wp2_with fail
              go_roundg f
              case measure => omega
              case rel =>
                refine ⟨j + 1, 10 * n - ((c : Int) - 48), ?_, (HR.out.drewN _).set1 (j + 1), by omega, by omega, by omega, ?_⟩
                · congr 1
                · rw [← HB.out]; exact hq.out

theorem number_c (R : Nat) (s : ByteArray) (i : Nat) (low high : Int) (w : World) (h : RdAt w R s i true) (hs : s.size ≤ 1000000000)
    (hl1 : -9223372036854775808 ≤ low) (hl2 : low ≤ 0) (hh1 : 0 ≤ high) (hh2 : high ≤ 9223372036854775807) :
    Calls Tryz.prog 187 #[.pointer (some ⟨R, 0, none⟩), .int .i64 low, .int .i64 high] w fun e w' =>
      e = .returned (.int .i64 (numSp s low high i).2.2) ∧ Rds w w' R s (numSp s low high i).1 (numSp s low high i).2.1 := by
  by_cases hn : pk s i = 45
  · exact number_neg R s i low high w h hs hl1 hl2 hn
  · exact number_pos R s i low high w h hs hh1 hh2 hn
end Go.Proofs.YtggngahmafbihaaGreatDoor
namespace Go.Proofs.YtggngahmafbihaaGreatDoor
open Go.RowKit Go.Lib

theorem take_snoc (s : ByteArray) (k : Nat) (h : k < s.size) : s.data.toList.take (k + 1) = s.data.toList.take k ++ [s[k]] := by
  rw [List.take_succ_eq_append_getElem (by simpa using h)]; rfl

/-- May a byte stand in a text? -/
def prC (c : UInt8) : Bool := decide (32 ≤ c.toNat ∧ c.toNat ≤ 126)
def prB (l : List UInt8) : Bool := l.all prC

theorem prB_bad (s : ByteArray) (k : Nat) (h0 : k < s.size) (h1 : (s[k].toNat : Int) < 32 ∨ 126 < (s[k].toNat : Int)) : prB s.data.toList = false := by
  rw [Bool.eq_false_iff]
  intro hn
  unfold prB at hn
  rw [List.all_eq_true] at hn
  have := hn s[k] (by show s.data[k] ∈ s.data.toList; simp)
  simp only [prC, decide_eq_true_eq] at this
  omega

set_option maxHeartbeats 400000 in
theorem printable_c (s : ByteArray) (w : World) (hs : s.size ≤ 140737488351232) :
    Calls Tryz.prog 225 #[.string s] w fun e w' => e = .returned (.bool (prB s.data.toList)) ∧ w = w' := by
  go_enter Tryz.func225, Tryz.ntmps225
  go_wp2
  go_loop [6] (fun i => ∃ k : Nat, k ≤ s.size ∧ i = .int .i64 k ∧ Hid (prB (s.data.toList.take k) = true)) (fun i => s.size - (intOf i).toNat)
  case atStart => exact ⟨0, Nat.zero_le _, rfl, rfl⟩
  case round =>
    obtain ⟨k, hk, rfl, hall⟩ := hrel
    by_cases hlt : k < s.size
    · have hts := Lib.hid (take_snoc s k hlt)
      go_wp2
      all_goals first
        | (go_ret
           exact ⟨ret_bool (prB_bad s k hlt (by omega)).symm, rfl⟩)
        | (refine ⟨⟨k + 1, by omega, by go_num, ?_⟩, by simp [intOf]; omega⟩
           show prB _ = true
           have hx := hall.out
           unfold prB at hx ⊢
           rw [hts.out, List.all_append, hx, List.all_cons, show prC s[k] = true from decide_eq_true (by omega)]
           rfl)
    · obtain rfl : k = s.size := by omega
      go_wp2
      go_ret
      refine ⟨ret_bool ?_, rfl⟩
      have := hall.out
      rw [List.take_of_length_le (by simp)] at this
      exact this.symm

/-- One byte as a text. -/
theorem one_text (B : Nat) (c : UInt8) (W : World) (h : W.cell? ⟨B, 0, none⟩ = some (.int .u8 c.toNat)) :
    (convert 53 9 (.slice (some ⟨B, 0, none⟩) 1 1)).run Tryz.prog W = .ok (.string ⟨#[c]⟩) W :=
  run_convert_bytes_back W _ _ 5 ⟨B, 0, none⟩ 1 [c] Tryz.underlying53 Tryz.underlying5 Tryz.underlying9 (fun j hj => by
    obtain rfl : j = 0 := by simpa using hj
    exact h)

/-- The bytes of a text in quotes: the place, whether all is right, what was read. -/
def strLoop (s : ByteArray) : Nat → Nat → List UInt8 → Nat × Bool × List UInt8
  | 0, i, l => (i, true, l)
  | f + 1, i, l =>
    if pk s i = 34 then (i, true, l)
    else if pk s i = 92 then
      if pk s (i + 1) = 34 ∨ pk s (i + 1) = 92 then strLoop s f (i + 2) (l ++ [pk s (i + 1)]) else (i + 1, false, l)
    else if prC (pk s i) then strLoop s f (i + 1) (l ++ [pk s i]) else (i, false, l)

theorem Rds.alloc {w1 w2 : World} {R : Nat} {s : ByteArray} {i : Nat} {ok : Bool} (h : Rds w1 w2 R s i ok) (o : Obj) : Rds w1 (w2.alloc o) R s i ok :=
  ⟨(Below.heap_alloc w2 o R h.at_.lt).trans h.at_, ⟨h.grown.os, h.grown.tape, h.grown.output, Nat.le_trans h.grown.size (by simp), fun k hk hne => (Below.heap_alloc w2 o k (Nat.lt_of_lt_of_le hk h.grown.size)).trans (h.grown.block k hk hne)⟩⟩
/-- Behind an append onto a row of the call's own. -/
theorem Rds.append {w1 w2 w3 : World} {R : Nat} {s : ByteArray} {i : Nat} {ok : Bool} {row : Option Nat} (h : Rds w1 w2 R s i ok) (hg : w2.grownBy w3 row) (hR : R < w1.heap.size) (hr : ∀ k, row = some k → w1.heap.size ≤ k) : Rds w1 w3 R s i ok :=
  ⟨(hg.block R h.at_.lt (fun e => by have := hr R e.symm; omega)).trans h.at_,
   ⟨hg.os.trans h.grown.os, hg.tape.trans h.grown.tape, hg.output.trans h.grown.output, Nat.le_trans h.grown.size hg.size,
    fun k hk hne => (hg.block k (Nat.lt_of_lt_of_le hk h.grown.size) (fun e => by have := hr k e.symm; omega)).trans (h.grown.block k hk hne)⟩⟩

theorem u8_info : (Tryz.prog.info? 5).map (fun i => (i.zero, i.size, i.bytes)) = some (some (.int .u8 0), 1, 1) := by kernel_rfl

def u8s (l : List UInt8) : List Value := l.map fun c => Value.int .u8 c.toNat
end Go.Proofs.YtggngahmafbihaaGreatDoor
namespace Go.Proofs.YtggngahmafbihaaGreatDoor
open Go.Lib
set_option linter.unusedVariables false

def isDg (c : UInt8) : Bool := decide (48 ≤ c.toNat) && decide (c.toNat ≤ 57)
theorem isDg_iff {c : UInt8} : isDg c = true ↔ 48 ≤ c.toNat ∧ c.toNat ≤ 57 := by simp [isDg]
/-- What digits spell. -/
def dg1 (c : UInt8) : Nat := c.toNat - 48
theorem dg1_eq (c : UInt8) : dg1 c = c.toNat - 48 := by rw [dg1]
attribute [irreducible] dg1
def dval (acc : Nat) (l : List UInt8) : Nat := l.foldl (fun a c => a * 10 + dg1 c) acc
theorem dval_nil (acc : Nat) : dval acc [] = acc := by unfold dval; rw [List.foldl_nil]
theorem dval_cons (acc : Nat) (c : UInt8) (r : List UInt8) : dval acc (c :: r) = dval (acc * 10 + dg1 c) r := by unfold dval; rw [List.foldl_cons]
theorem dval_ge (l : List UInt8) : ∀ acc : Nat, acc ≤ dval acc l := by
  induction l with
  | nil => intro acc; rw [dval_nil]; exact Nat.le_refl _
  | cons c r ih => intro acc; rw [dval_cons]; have := ih (acc * 10 + dg1 c); omega
theorem uintM_digits : ∀ (l : List UInt8) (acc : Nat), (∀ c ∈ l, isDg c = true) → dval acc l ≤ 18446744073709551615 → parseUintM 18446744073709551615 acc l = .ok (dval acc l)
  | [], acc, _, _ => rfl
  | c :: r, acc, hd, h => by
    have hc := isDg_iff.1 (hd c (by simp))
    rw [dval_cons, dg1_eq] at h
    have hg := dval_ge r (acc * 10 + (c.toNat - 48))
    rw [parseUintM, if_pos hc, if_neg (by omega), if_neg (by omega), uintM_digits r _ (fun x hx => hd x (by simp [hx])) h, dval_cons, dg1_eq]

end Go.Proofs.YtggngahmafbihaaGreatDoor
namespace Go.Proofs.YtggngahmafbihaaGreatDoor
open Go.RowKit
set_option linter.unusedVariables false

/-- A word in the midst of a row. -/
structure TkIn (w : World) (g o : Nat) (t : Tok) (sa : Option Addr) (sc : Nat) : Prop where
  c0 : w.cell? ⟨g, o, none⟩ = some (.int .i64 t.kind)
  c1 : w.cell? ⟨g, o + 1, none⟩ = some (.int .i64 t.line)
  c2 : w.cell? ⟨g, o + 2, none⟩ = some (.string t.s)
  c3 : w.cell? ⟨g, o + 3, none⟩ = some (.int .i64 t.k)
  c4 : w.cell? ⟨g, o + 4, none⟩ = some (.int .i64 t.n)
  c5 : w.cell? ⟨g, o + 5, none⟩ = some (.string t.t)
  c6 : w.cell? ⟨g, o + 6, none⟩ = some (.slice sa 0 sc)
theorem TkIn.below {w w' : World} {g o B : Nat} {t : Tok} {sa : Option Addr} {sc : Nat} (h : TkIn w g o t sa sc) (hb : Below B w w') (hg : g < B) : TkIn w' g o t sa sc :=
  have hk : ∀ k, w'.cell? ⟨g, k, none⟩ = w.cell? ⟨g, k, none⟩ := fun k => hb.cell (p := ⟨g, k, none⟩) hg
  ⟨(hk _).trans h.c0, (hk _).trans h.c1, (hk _).trans h.c2, (hk _).trans h.c3, (hk _).trans h.c4, (hk _).trans h.c5, (hk _).trans h.c6⟩
end Go.Proofs.YtggngahmafbihaaGreatDoor
