/- Contracts of the functions that the statement reaches, and the plain mathematics beneath: several texts joined. -/
import Derived.Below
import Derived.Laws.OwnMore
import Derived.Laws.Rows
import Derived.Deep.Draws
import Derived.Test.YtbalpfpcbckghaaGreatDoorProg
import Derived.WalkKit
import Derived.WalkSpells
import Derived.Lib.Hide
import Derived.BigQuiet
import Derived.Deep.QuietTactic
import Derived.RegionTactic
import Derived.BigRegion
import Derived.Outline
import Derived.Deep.LoopGhost
import Derived.IntWalk
import Derived.Laws.AppendOwn
import Derived.OwnWalk
import Derived.Laws.IdiomStrings
import Derived.Laws.BytesArg
import Derived.Handy
import Derived.WalkSmall
import Derived.Maps.AppendAt
import Derived.Laws.ResultCell
import Derived.Lib.Strings
import Derived.Lib.ItoaMem
import Derived.Lib.ItoaLen
import Derived.Lib.ParseIntBCases
import Derived.Lib.ParseIntBTie
namespace Go.Proofs.YtbalpfpcbckghaaGreatDoor
open Go.RowKit

/-- A list of values: each has a kind, a number, a text and items. -/
inductive VL where
  | nil : VL
  | cons (k n : Int) (s : ByteArray) (sub : VL) (rest : VL) : VL

namespace VL
def len : VL → Nat
  | .nil => 0
  | .cons _ _ _ _ r => r.len + 1
def app : VL → VL → VL
  | .nil, b => b
  | .cons k n s sub r, b => .cons k n s sub (r.app b)
theorem len_app : ∀ a b : VL, (a.app b).len = a.len + b.len
  | .nil, b => by simp [app, len]
  | .cons k n s sub r, b => by simp [app, len, len_app r]; omega
def take : Nat → VL → VL
  | 0, _ => .nil
  | _ + 1, .nil => .nil
  | i + 1, .cons k n s sub r => .cons k n s sub (r.take i)
def drop : Nat → VL → VL
  | 0, l => l
  | _ + 1, .nil => .nil
  | i + 1, .cons _ _ _ _ r => r.drop i
theorem take_app_drop : ∀ (i : Nat) (l : VL), (l.take i).app (l.drop i) = l
  | 0, l => by cases l <;> rfl
  | i + 1, .nil => rfl
  | i + 1, .cons k n s sub r => by rw [take, drop, app, take_app_drop i r]
theorem drop_len : ∀ l : VL, l.drop l.len = .nil
  | .nil => rfl
  | .cons k n s sub r => by rw [len, drop, drop_len r]
theorem take_len : ∀ l : VL, l.take l.len = l
  | .nil => rfl
  | .cons k n s sub r => by rw [len, take, take_len r]
theorem len_drop : ∀ (i : Nat) (l : VL), (l.drop i).len = l.len - i
  | 0, l => by rw [drop]; rfl
  | i + 1, .nil => by simp [drop, len]
  | i + 1, .cons k n s sub r => by rw [drop, len_drop i r, len]; omega
theorem drop_of_lt : ∀ (i : Nat) (l : VL), i < l.len → ∃ k n s sub, l.drop i = .cons k n s sub (l.drop (i + 1))
  | _, .nil, h => by simp [len] at h
  | 0, .cons k n s sub r, _ => ⟨k, n, s, sub, by rw [drop, drop, drop]⟩
  | i + 1, .cons k n s sub r, h => by
    rw [len] at h
    obtain ⟨k', n', s', sub', e⟩ := drop_of_lt i r (by omega)
    exact ⟨k', n', s', sub', by rw [drop, drop, e]⟩
theorem take_succ : ∀ (i : Nat) (l : VL) (k n : Int) (s : ByteArray) (sub : VL), l.drop i = .cons k n s sub (l.drop (i + 1)) → l.take (i + 1) = (l.take i).app (.cons k n s sub .nil)
  | 0, .nil, k, n, s, sub, h => by simp [drop] at h
  | 0, .cons k n s sub r, k', n', s', sub', h => by
    simp only [drop] at h
    injection h with h1 h2 h3 h4 _
    subst h1; subst h2; subst h3; subst h4
    simp [take, app]
  | i + 1, .nil, k, n, s, sub, h => by simp [drop] at h
  | i + 1, .cons k0 n0 s0 sub0 r, k, n, s, sub, h => by
    rw [drop, drop] at h
    rw [take, take_succ i r k n s sub h, take, app]
end VL

/-- A list of values in memory: its cells, from an address on; all in blocks of a sort. -/
def RpL (w : World) (S : Nat → Prop) : VL → Option Addr → Prop
  | .nil, _ => True
  | .cons k n s sub rest, A => ∃ (b o : Nat) (sa : Option Addr) (sc : Nat), A = some ⟨b, o, none⟩ ∧ S b ∧
      w.cell? ⟨b, o, none⟩ = some (.int .i64 k) ∧ w.cell? ⟨b, o + 1, none⟩ = some (.int .i64 n) ∧ w.cell? ⟨b, o + 2, none⟩ = some (.string s) ∧
      w.cell? ⟨b, o + 3, none⟩ = some (.slice sa sub.len sc) ∧ sub.len ≤ sc ∧ RpL w S sub sa ∧ RpL w S rest (some ⟨b, o + 4, none⟩)

theorem RpL.keep {w w' : World} {S S' : Nat → Prop} (hw : ∀ b, S b → w'.heap[b]? = w.heap[b]?) (hS : ∀ b, S b → S' b) : ∀ (l : VL) (A : Option Addr), RpL w S l A → RpL w' S' l A
  | .nil, _, _ => trivial
  | .cons k n s sub rest, A, ⟨b, o, sa, sc, hA, hb, h0, h1, h2, h3, hc, hs, hr⟩ => by
    have hk : ∀ p : Addr, p.block = b → w'.cell? p = w.cell? p := fun p hp => World.cell?_of_block (w := w) (hw p.block (by rw [hp]; exact hb))
    exact ⟨b, o, sa, sc, hA, hS b hb, (hk _ rfl).trans h0, (hk _ rfl).trans h1, (hk _ rfl).trans h2, (hk _ rfl).trans h3, hc, RpL.keep hw hS sub sa hs, RpL.keep hw hS rest _ hr⟩

theorem RpL.below {w w' : World} {S : Nat → Prop} {B : Nat} {l : VL} {A : Option Addr} (h : RpL w S l A) (hb : Below B w w') (hS : ∀ b, S b → b < B) : RpL w' S l A :=
  h.keep (fun b hbS => hb.block b (hS b hbS)) (fun _ h => h)

theorem RpL.grown {w w' : World} {S : Nat → Prop} {R : Option Nat} {l : VL} {A : Option Addr} (h : RpL w S l A) (hb : w.grownBy w' R) (hS : ∀ b, S b → b < w.heap.size ∧ some b ≠ R) : RpL w' S l A :=
  h.keep (fun b hbS => hb.block b (hS b hbS).1 (hS b hbS).2) (fun _ h => h)

theorem RpL.wide {w : World} {S S' : Nat → Prop} {l : VL} {A : Option Addr} (h : RpL w S l A) (hS : ∀ b, S b → S' b) : RpL w S' l A := h.keep (fun _ _ => rfl) hS

/-- The i-th value of a list in memory. -/
theorem RpL.drop {w : World} {S : Nat → Prop} : ∀ (i : Nat) (l : VL) (b o : Nat), RpL w S l (some ⟨b, o, none⟩) → RpL w S (l.drop i) (some ⟨b, o + 4 * i, none⟩)
  | 0, l, b, o, h => by rw [VL.drop]; exact h
  | i + 1, .nil, _, _, _ => by rw [VL.drop]; trivial
  | i + 1, .cons k n s sub r, b, o, ⟨b', o', sa, sc, hA, _, _, _, _, _, _, _, hr⟩ => by
    injection hA with hA
    injection hA with h1 h2
    subst h1; subst h2
    have := RpL.drop i r b (o + 4) hr
    rw [VL.drop]
    rw [show o + 4 * (i + 1) = o + 4 + 4 * i from by omega]
    exact this
end Go.Proofs.YtbalpfpcbckghaaGreatDoor
namespace Go.Proofs.YtbalpfpcbckghaaGreatDoor
open Go.RowKit Go.Lib

theorem ret_bool {a b : Bool} (h : a = b) : Ending.returned (.bool a) = .returned (.bool b) := by rw [h]
theorem ret_int {k : IntKind} {a b : Int} (h : a = b) : Ending.returned (.int k a) = .returned (.int k b) := by rw [h]

section
variable {w w' : World} {R : Nat} {s : ByteArray} {i : Nat} {ok : Bool}
end

/-- The byte at hand, 0 behind the end. -/
def pk (s : ByteArray) (i : Nat) : UInt8 := s.data.toList.getD i 0
theorem only_setCell {a w : World} {g : Nat} (h : a.grownBy w (some g)) {p : Addr} (hp : p.block = g ∨ a.heap.size ≤ p.block) (u : Value) : a.grownBy (w.setCell p u) (some g) :=
  ⟨h.os, h.tape, h.output, by simpa [World.setCell] using h.size, fun i hi hne => (Below.heap_setCell w p u i (by
    rintro rfl
    rcases hp with hp | hp
    · exact hne (by rw [hp])
    · omega)).trans (h.block i hi hne)⟩

section
variable {w w' : World} {R : Nat} {s : ByteArray} {i : Nat} {ok : Bool}
theorem only_drew {a w : World} {row : Option Nat} (h : a.grownBy w row) : a.grownBy w.drew row := ⟨h.os, h.tape, h.output, h.size, h.block⟩
theorem only_refl (w : World) (row : Option Nat) : w.grownBy w row := ⟨rfl, rfl, rfl, Nat.le_refl _, fun _ _ _ => rfl⟩
theorem only_trans {a b c : World} {row : Option Nat} (h : a.grownBy b row) (k : b.grownBy c row) : a.grownBy c row :=
  ⟨k.os.trans h.os, k.tape.trans h.tape, k.output.trans h.output, Nat.le_trans h.size k.size, fun i hi hn => (k.block i (Nat.lt_of_lt_of_le hi h.size) hn).trans (h.block i hi hn)⟩
theorem only_below {a w : World} (h : Below a.heap.size a w) (row : Option Nat) : a.grownBy w row := ⟨h.os, h.tape, h.output, h.size, fun i hi _ => h.block i hi⟩

end

end Go.Proofs.YtbalpfpcbckghaaGreatDoor
namespace Go.Proofs.YtbalpfpcbckghaaGreatDoor
open Go.RowKit Go.Lib

end Go.Proofs.YtbalpfpcbckghaaGreatDoor
namespace Go.Proofs.YtbalpfpcbckghaaGreatDoor
open Go.RowKit Go.Lib

end Go.Proofs.YtbalpfpcbckghaaGreatDoor
namespace Go.Proofs.YtbalpfpcbckghaaGreatDoor
open Go.RowKit Go.Lib

theorem take_snoc (s : ByteArray) (k : Nat) (h : k < s.size) : s.data.toList.take (k + 1) = s.data.toList.take k ++ [s[k]] := by
  rw [List.take_succ_eq_append_getElem (by simpa using h)]; rfl

/-- May a byte stand in a text? -/
def prC (c : UInt8) : Bool := decide (32 ≤ c.toNat ∧ c.toNat ≤ 126)
def prB (l : List UInt8) : Bool := l.all prC

theorem prB_bad (s : ByteArray) (k : Nat) (h0 : k < s.size) (h1 : (s[k].toNat : Int) < 32 ∨ 126 < (s[k].toNat : Int)) : prB s.data.toList = false := by
  rw [Bool.eq_false_iff]
  intro hn
  unfold prB at hn
  rw [List.all_eq_true] at hn
  have := hn s[k] (by show s.data[k] ∈ s.data.toList; simp)
  simp only [prC, decide_eq_true_eq] at this
  omega

set_option maxHeartbeats 400000 in
theorem printable_c (s : ByteArray) (w : World) (hs : s.size ≤ 140737488351232) :
    Calls Tryz.prog 212 #[.string s] w fun e w' => e = .returned (.bool (prB s.data.toList)) ∧ w = w' := by
  go_enter Tryz.func212, Tryz.ntmps212
  go_wp2
  go_loop [6] (fun i => ∃ k : Nat, k ≤ s.size ∧ i = .int .i64 k ∧ Hid (prB (s.data.toList.take k) = true)) (fun i => s.size - (intOf i).toNat)
  case atStart => exact ⟨0, Nat.zero_le _, rfl, rfl⟩
  case round =>
    obtain ⟨k, hk, rfl, hall⟩ := hrel
    by_cases hlt : k < s.size
    · have hts := Lib.hid (take_snoc s k hlt)
      go_wp2
      all_goals first
        | (go_ret
           exact ⟨ret_bool (prB_bad s k hlt (by omega)).symm, rfl⟩)
        | (refine ⟨⟨k + 1, by omega, by go_num, ?_⟩, by simp [intOf]; omega⟩
           show prB _ = true
           have hx := hall.out
           unfold prB at hx ⊢
           rw [hts.out, List.all_append, hx, List.all_cons, show prC s[k] = true from decide_eq_true (by omega)]
           rfl)
    · obtain rfl : k = s.size := by omega
      go_wp2
      go_ret
      refine ⟨ret_bool ?_, rfl⟩
      have := hall.out
      rw [List.take_of_length_le (by simp)] at this
      exact this.symm

def u8s (l : List UInt8) : List Value := l.map fun c => Value.int .u8 c.toNat
end Go.Proofs.YtbalpfpcbckghaaGreatDoor
namespace Go.Proofs.YtbalpfpcbckghaaGreatDoor
open Go.RowKit Go.Lib

theorem own_ge {W : World} {base e size n : Nat} {v : Value} {xs : List Value} (h : W.ownsRow base e size v n xs) (k : Nat) (hk : v.ownBlock = some k) : base ≤ k := by
  rcases h.2 with ⟨rfl, _⟩ | ⟨g, cap, cur, rfl, hb, _⟩
  · cases hk
  · injection hk with hk; subst hk; exact hb
theorem own_snoc {W : World} {base : Nat} {v : Value} {l : List UInt8} {y : UInt8} (h : W.ownsRow base 5 1 v (l.length + 1) (u8s l ++ [.int .u8 y.toNat])) : W.ownsRow base 5 1 v (l ++ [y]).length (u8s (l ++ [y])) := by
  have e1 : (l ++ [y]).length = l.length + 1 := by simp
  have e2 : u8s (l ++ [y]) = u8s l ++ [.int .u8 y.toNat] := by simp [u8s]
  rw [e1, e2]; exact h
end Go.Proofs.YtbalpfpcbckghaaGreatDoor
namespace Go.Proofs.YtbalpfpcbckghaaGreatDoor
open Go.RowKit Go.Lib

/-- How many letters of a name are at hand, from the k-th on; with fuel. -/
def cpl (s : ByteArray) (i : Nat) (n : ByteArray) : Nat → Nat → Nat
  | 0, k => k
  | f + 1, k => if k < n.size ∧ i + k < s.size ∧ pk s (i + k) = pk n k then cpl s i n f (k + 1) else k
def cp (s : ByteArray) (i : Nat) (n : ByteArray) : Nat := cpl s i n (n.size + 1) 0

end Go.Proofs.YtbalpfpcbckghaaGreatDoor
namespace Go.Proofs.YtbalpfpcbckghaaGreatDoor
open Go.RowKit Go.Lib

end Go.Proofs.YtbalpfpcbckghaaGreatDoor
namespace Go.Proofs.YtbalpfpcbckghaaGreatDoor
open Go.RowKit Go.Lib

def val1 (k n : Int) (s : ByteArray) (sub : VL) : VL := .cons k n s sub .nil

end Go.Proofs.YtbalpfpcbckghaaGreatDoor
namespace Go.Proofs.YtbalpfpcbckghaaGreatDoor
open Go.RowKit Go.Lib

/-- The cells of a list of values, their items in memory. -/
def CellsOf (w : World) (S : Nat → Prop) : VL → List Value → Prop
  | .nil, xs => xs = []
  | .cons k n s sub rest, xs => ∃ (sa : Option Addr) (sc : Nat) (ys : List Value), xs = .int .i64 k :: .int .i64 n :: .string s :: .slice sa sub.len sc :: ys ∧ sub.len ≤ sc ∧ RpL w S sub sa ∧ CellsOf w S rest ys

theorem CellsOf.keep {w w' : World} {S S' : Nat → Prop} (hw : ∀ b, S b → w'.heap[b]? = w.heap[b]?) (hS : ∀ b, S b → S' b) : ∀ (l : VL) (xs : List Value), CellsOf w S l xs → CellsOf w' S' l xs
  | .nil, _, h => h
  | .cons _ _ _ sub rest, _, ⟨sa, sc, ys, hx, hc, hs, hr⟩ => ⟨sa, sc, ys, hx, hc, RpL.keep hw hS sub sa hs, CellsOf.keep hw hS rest ys hr⟩
theorem CellsOf.length {w : World} {S : Nat → Prop} : ∀ (l : VL) (xs : List Value), CellsOf w S l xs → xs.length = l.len * 4
  | .nil, _, h => by have : _ = [] := h; subst this; rfl
  | .cons _ _ _ sub rest, _, ⟨sa, sc, ys, hx, hc, hs, hr⟩ => by
    subst hx
    have := CellsOf.length rest ys hr
    simp only [List.length_cons, VL.len]; omega
theorem CellsOf.one {w : World} {S : Nat → Prop} : ∀ (l : VL) (xs : List Value), CellsOf w S l xs → ∀ u ∈ xs, u.oneCell' = true
  | .nil, _, h => by have : _ = [] := h; subst this; simp
  | .cons _ _ _ sub rest, _, ⟨sa, sc, ys, hx, hc, hs, hr⟩ => by
    subst hx
    intro u hu
    simp only [List.mem_cons] at hu
    rcases hu with rfl | rfl | rfl | rfl | hu
    · rfl
    · rfl
    · rfl
    · rfl
    · exact CellsOf.one rest ys hr u hu
theorem CellsOf.app {w : World} {S : Nat → Prop} : ∀ (l m : VL) (xs ys : List Value), CellsOf w S l xs → CellsOf w S m ys → CellsOf w S (l.app m) (xs ++ ys)
  | .nil, m, xs, ys, h, h2 => by have : xs = [] := h; subst this; exact h2
  | .cons _ _ _ sub rest, m, _, ys, ⟨sa, sc, zs, hx, hc, hs, hr⟩, h2 => by
    subst hx
    exact ⟨sa, sc, zs ++ ys, rfl, hc, hs, CellsOf.app rest m zs ys hr h2⟩
/-- Such cells, laid in a block of the sort, are the list in memory. -/
theorem CellsOf.rep {w : World} {S : Nat → Prop} {g : Nat} (hg : S g) : ∀ (l : VL) (xs : List Value) (o : Nat), CellsOf w S l xs → (∀ j u, xs[j]? = some u → w.cell? ⟨g, o + j, none⟩ = some u) → RpL w S l (some ⟨g, o, none⟩)
  | .nil, _, _, _, _ => trivial
  | .cons k n s sub rest, _, o, ⟨sa, sc, ys, hx, hc, hs, hr⟩, hcell => by
    subst hx
    exact ⟨g, o, sa, sc, rfl, hg, hcell 0 _ rfl, hcell 1 _ rfl, hcell 2 _ rfl, hcell 3 _ rfl, hc, hs,
      CellsOf.rep hg rest ys (o + 4) hr (fun j u hj => by rw [show o + 4 + j = o + (j + 4) from by omega]; exact hcell (j + 4) u hj)⟩

/-- What a row that the call owns reads as. -/
theorem own_rep {w : World} {base : Nat} {v : Value} {l : VL} {xs : List Value} {S : Nat → Prop} (h : w.ownsRow base 24 4 v l.len xs) (hc : CellsOf w S l xs) (hS : ∀ g, v.ownBlock = some g → S g) :
    ∃ (sa : Option Addr) (sc : Nat), v = .slice sa l.len sc ∧ l.len ≤ sc ∧ RpL w S l sa := by
  rcases h.2 with ⟨rfl, hl⟩ | ⟨g, cap, cur, rfl, _, hh, hcap, _, hsz, ht⟩
  · rw [hl]
    refine ⟨none, 0, rfl, Nat.le_refl _, ?_⟩
    cases l with
    | nil => trivial
    | cons => simp [VL.len] at hl
  · refine ⟨some ⟨g, 0, none⟩, cap, rfl, hcap, CellsOf.rep (hS g rfl) l xs 0 hc (fun j u hj => ?_)⟩
    rw [Nat.zero_add, cell_of_row w g j cur _ _ hh, ← Array.getElem?_toList]
    have hlen := CellsOf.length l xs hc
    have hjl : j < xs.length := (List.getElem?_eq_some_iff.1 hj).1
    rw [← ht, List.getElem?_take_of_lt (by omega)] at hj
    exact hj

theorem valI_c (n : Int) (w : World) : Calls Tryz.prog 17 #[.int .i64 n] w fun e w' => e = .returned (.agg #[.int .i64 0, .int .i64 n, .string ⟨#[]⟩, .slice none 0 0]) ∧ w.alloc (.cells #[.int .i64 0, .int .i64 n, .string ⟨#[]⟩, .slice none 0 0] 24) = w' := by
  go_enter Tryz.func17, Tryz.ntmps17
  go_wp2
  go_returns
  exact ⟨rfl, rfl⟩
theorem valS_c (t : ByteArray) (w : World) : Calls Tryz.prog 20 #[.string t] w fun e w' => e = .returned (.agg #[.int .i64 2, .int .i64 0, .string t, .slice none 0 0]) ∧ w.alloc (.cells #[.int .i64 2, .int .i64 0, .string t, .slice none 0 0] 24) = w' := by
  go_enter Tryz.func20, Tryz.ntmps20
  go_wp2
  go_returns
  exact ⟨rfl, rfl⟩

/-- A struct of four cells in a block of its own. -/
def StB (w : World) (g : Nat) (a b c d : Value) : Prop := w.heap[g]? = some (.cells #[a, b, c, d] 24 (0, 0))
section
variable {w w' : World} {g : Nat} {a b c d : Value}
theorem StB.lt (h : StB w g a b c d) : g < w.heap.size := by
  rcases Nat.lt_or_ge g w.heap.size with hlt | hge
  · exact hlt
  · unfold StB at h; rw [Array.getElem?_eq_none hge] at h; cases h
theorem StB.c0 (h : StB w g a b c d) : w.cell? ⟨g, 0, none⟩ = some a := cell_of_row w g 0 _ _ _ h
theorem StB.c1 (h : StB w g a b c d) : w.cell? ⟨g, 1, none⟩ = some b := cell_of_row w g 1 _ _ _ h
theorem StB.c2 (h : StB w g a b c d) : w.cell? ⟨g, 2, none⟩ = some c := cell_of_row w g 2 _ _ _ h
theorem StB.c3 (h : StB w g a b c d) : w.cell? ⟨g, 3, none⟩ = some d := cell_of_row w g 3 _ _ _ h
theorem StB.fr (h : StB w g a b c d) (k : Nat) : w.frozen? ⟨g, k, none⟩ = false := by unfold StB at h; simp [World.frozen?, h]
theorem StB.new (w : World) (a b c d : Value) : StB (w.alloc (.cells #[a, b, c, d] 24)) w.heap.size a b c d := by
  unfold StB World.alloc; simp
theorem StB.alloc (h : StB w g a b c d) (o : Obj) : StB (w.alloc o) g a b c d := (Below.heap_alloc w o g h.lt).trans h
theorem StB.set3 (h : StB w g a b c d) (u : Value) : StB (w.setCell ⟨g, 3, none⟩ u) g a b c u := by
  unfold StB at h ⊢; simp [World.setCell, Array.getElem?_modify, h]
theorem StB.far (h : StB w g a b c d) {p : Addr} (hp : g ≠ p.block) (u : Value) : StB (w.setCell p u) g a b c d := (Below.heap_setCell w p u g hp).trans h
theorem StB.only (h : StB w g a b c d) {row : Option Nat} (hg : w.grownBy w' row) (hr : some g ≠ row) : StB w' g a b c d := (hg.block g h.lt hr).trans h
theorem StB.drewN (h : StB w g a b c d) (n : Nat) : StB (w.drewN n) g a b c d := h
end

theorem StB.set4 {w : World} {g : Nat} {a b c d : Value} (h : StB w g a b c d) (a' b' c' d' : Value) :
    StB ((((w.setCell ⟨g, 0, none⟩ a').setCell ⟨g, 1, none⟩ b').setCell ⟨g, 2, none⟩ c').setCell ⟨g, 3, none⟩ d') g a' b' c' d' := by
  unfold StB at h ⊢; simp [World.setCell, Array.getElem?_modify, h]

/-- A struct of four cells handed back out of its block. -/
theorem results_cell4 {fn : Func} {p : Tmp} (h : fn.results = #[.cell p 24]) (tmps : Array Value) (w : World) (g : Nat) (hp : tmps.getD p undef = .pointer (some ⟨g, 0, none⟩)) {a b c d : Value} (hS : StB w g a b c d) :
    (results fn tmps).run Tryz.prog w = .ok (.agg #[a, b, c, d]) w := by
  have c0 := hS.c0
  have c1 := hS.c1
  have c2 := hS.c2
  have c3 := hS.c3
  have hp' : (tmps[p]?).getD undef = .pointer (some ⟨g, 0, none⟩) := by simpa using hp
  simp [results, h, hp', go_sem, c0, c1, c2, c3]
theorem ret_cell4 {fn : Func} {p : Tmp} {Q : Ending → World → Prop} {act : Act} {w : World} (h : fn.results = #[.cell p 24]) (g : Nat) (hp : act.tmps.getD p undef = .pointer (some ⟨g, 0, none⟩)) (hd : act.defers = [])
    {a b c d : Value} (hS : StB w g a b c d) (hQ : Q (.returned (.agg #[a, b, c, d])) w) : bodyPost Tryz.prog fn Q .ret act w :=
  bodyPost_ret (results_cell4 h act.tmps w g hp hS) hd hQ

theorem val_info : (Tryz.prog.info? 24).map (fun i => (i.zero, i.size, i.bytes)) = some (some (.agg #[.int .i64 0, .int .i64 0, .string ⟨#[]⟩, .slice none 0 0]), 4, 56) := by kernel_rfl

theorem heap_set4 (w : World) (g : Nat) (a b c d : Value) (k : Nat) (h : k ≠ g) : ((((w.setCell ⟨g, 0, none⟩ a).setCell ⟨g, 1, none⟩ b).setCell ⟨g, 2, none⟩ c).setCell ⟨g, 3, none⟩ d).heap[k]? = w.heap[k]? := by
  rw [Below.heap_setCell _ _ _ _ h, Below.heap_setCell _ _ _ _ h, Below.heap_setCell _ _ _ _ h, Below.heap_setCell _ _ _ _ h]
theorem size_set4 (w : World) (g : Nat) (a b c d : Value) : ((((w.setCell ⟨g, 0, none⟩ a).setCell ⟨g, 1, none⟩ b).setCell ⟨g, 2, none⟩ c).setCell ⟨g, 3, none⟩ d).heap.size = w.heap.size := by simp [World.setCell]

theorem own_lt {W : World} {base e size n : Nat} {v : Value} {xs : List Value} (h : W.ownsRow base e size v n xs) (k : Nat) (hk : v.ownBlock = some k) : k < W.heap.size := by
  rcases h.2 with ⟨rfl, _⟩ | ⟨g, cap, cur, rfl, hb, hh, _⟩
  · cases hk
  · injection hk with hk
    subst hk
    rcases Nat.lt_or_ge g W.heap.size with hlt | hge
    · exact hlt
    · rw [Array.getElem?_eq_none hge] at hh; cases hh

theorem cell_four_new (w : World) (B : Nat) (hB : B = w.heap.size) (a b c d : Value) (t : TypeId) : ∀ j u, [a, b, c, d][j]? = some u → (w.alloc (.cells #[a, b, c, d] t)).cell? ((⟨B, 0, none⟩ : Addr).add j) = some u := by
  subst hB
  intro j u hj
  have e : (⟨w.heap.size, 0, none⟩ : Addr).add j = ⟨w.heap.size, j, none⟩ := by unfold Addr.add; split <;> simp_all
  rw [e, World.cell?_alloc_at _ _ _ _ rfl]
  simpa using hj

end Go.Proofs.YtbalpfpcbckghaaGreatDoor
namespace Go.Proofs.YtbalpfpcbckghaaGreatDoor
open Go.RowKit Go.Lib

end Go.Proofs.YtbalpfpcbckghaaGreatDoor
namespace Go.Proofs.YtbalpfpcbckghaaGreatDoor
open Go.RowKit Go.Lib

end Go.Proofs.YtbalpfpcbckghaaGreatDoor
namespace Go.Proofs.YtbalpfpcbckghaaGreatDoor
open Go.RowKit Go.Lib
set_option linter.unusedVariables false

/-- An error of package api by its number (0: none), the errors' places given. -/
def errV (ea : Nat → Addr) (c : Nat) : Value := if c = 0 then .nilIface else .iface 224 (.pointer (some (ea c)))
/-- The errors lie where they are told to. -/
structure ErrsAt (w : World) (ea : Nat → Addr) : Prop where
  deep : w.cell? ⟨0, 0, none⟩ = some (.iface 224 (.pointer (some (ea 112))))
  many : w.cell? ⟨3, 0, none⟩ = some (.iface 224 (.pointer (some (ea 104))))
  range : w.cell? ⟨5, 0, none⟩ = some (.iface 224 (.pointer (some (ea 105))))
  shape : w.cell? ⟨6, 0, none⟩ = some (.iface 224 (.pointer (some (ea 103))))
  room : 14 < w.heap.size

theorem ErrsAt.keep {w w' : World} {ea : Nat → Addr} (h : ErrsAt w ea) (hb : ∀ b, b < 14 → w'.heap[b]? = w.heap[b]?) (hz : w.heap.size ≤ w'.heap.size) : ErrsAt w' ea :=
  have hk : ∀ p : Addr, p.block < 14 → w'.cell? p = w.cell? p := fun p hp => World.cell?_of_block (w := w) (hb p.block hp)
  {
  deep := (hk _ (by decide)).trans h.deep,
  many := (hk _ (by decide)).trans h.many,
  range := (hk _ (by decide)).trans h.range,
  shape := (hk _ (by decide)).trans h.shape,
  room := by have := h.room; omega }
theorem ErrsAt.below {w w' : World} {ea : Nat → Addr} {B : Nat} (h : ErrsAt w ea) (hb : Below B w w') (hB : 14 ≤ B) : ErrsAt w' ea := h.keep (fun b hlt => hb.block b (by omega)) hb.size

/-- What is amiss with what a value itself has. -/
def ownE (k n : Int) (s : ByteArray) (len : Nat) : Nat :=
  if k < 0 ∨ 4 < k then 105
  else if k = 1 ∧ (n < -2147483648 ∨ 2147483647 < n) then 105
  else if k = 3 ∧ (n < 0 ∨ 14 < n) then 105
  else if (k ≠ 2 ∧ s.data.toList ≠ []) ∨ (k ≠ 4 ∧ 0 < len) ∨ ((k = 2 ∨ k = 4) ∧ n ≠ 0) then 103
  else if prB s.data.toList = false then 103
  else 0

set_option maxHeartbeats 2000000 in
theorem own_lo (n : Int) (s : ByteArray) (sa : Option Addr) (len sc : Nat) (ea : Nat → Addr) (w : World) (he : ErrsAt w ea) (k : Int) (hk : k < 0) :
    Calls Tryz.prog 165 #[.agg #[.int .i64 k, .int .i64 n, .string s, .slice sa len sc]] w fun e w' => e = .returned (errV ea 105) ∧ Below w.heap.size w w' := by
  have hb : Below w.heap.size w (w.alloc (.cells #[.int .i64 k, .int .i64 n, .string s, .slice sa len sc] 24)) := (Below.refl _ _).alloc (Nat.le_refl _) _
  have he2 := he.below hb (Nat.le_of_lt he.room)
  have r := he2.range
  have sh := he2.shape
  have HB := Lib.hid hb
  clear hb he2 he
  go_enter Tryz.func165, Tryz.ntmps165
  go_wp2_with fail
  go_ret
  exact ⟨rfl, HB.out⟩

set_option maxHeartbeats 2000000 in
theorem own_hi (n : Int) (s : ByteArray) (sa : Option Addr) (len sc : Nat) (ea : Nat → Addr) (w : World) (he : ErrsAt w ea) (k : Int) (hk : 4 < k) :
    Calls Tryz.prog 165 #[.agg #[.int .i64 k, .int .i64 n, .string s, .slice sa len sc]] w fun e w' => e = .returned (errV ea 105) ∧ Below w.heap.size w w' := by
  have hb : Below w.heap.size w (w.alloc (.cells #[.int .i64 k, .int .i64 n, .string s, .slice sa len sc] 24)) := (Below.refl _ _).alloc (Nat.le_refl _) _
  have he2 := he.below hb (Nat.le_of_lt he.room)
  have r := he2.range
  have sh := he2.shape
  have HB := Lib.hid hb
  clear hb he2 he
  have hk0 : 0 ≤ k := by omega
  go_enter Tryz.func165, Tryz.ntmps165
  go_wp2_with fail
  go_ret
  exact ⟨rfl, HB.out⟩

set_option maxHeartbeats 2000000 in
theorem own_1lo (n : Int) (s : ByteArray) (sa : Option Addr) (len sc : Nat) (ea : Nat → Addr) (w : World) (he : ErrsAt w ea) (hn : n < -2147483648) :
    Calls Tryz.prog 165 #[.agg #[.int .i64 1, .int .i64 n, .string s, .slice sa len sc]] w fun e w' => e = .returned (errV ea 105) ∧ Below w.heap.size w w' := by
  have hb : Below w.heap.size w (w.alloc (.cells #[.int .i64 1, .int .i64 n, .string s, .slice sa len sc] 24)) := (Below.refl _ _).alloc (Nat.le_refl _) _
  have he2 := he.below hb (Nat.le_of_lt he.room)
  have r := he2.range
  have sh := he2.shape
  have HB := Lib.hid hb
  clear hb he2 he
  go_enter Tryz.func165, Tryz.ntmps165
  go_wp2_with fail
  go_ret
  exact ⟨rfl, HB.out⟩

set_option maxHeartbeats 2000000 in
theorem own_1hi (n : Int) (s : ByteArray) (sa : Option Addr) (len sc : Nat) (ea : Nat → Addr) (w : World) (he : ErrsAt w ea) (hn : 2147483647 < n) :
    Calls Tryz.prog 165 #[.agg #[.int .i64 1, .int .i64 n, .string s, .slice sa len sc]] w fun e w' => e = .returned (errV ea 105) ∧ Below w.heap.size w w' := by
  have hb : Below w.heap.size w (w.alloc (.cells #[.int .i64 1, .int .i64 n, .string s, .slice sa len sc] 24)) := (Below.refl _ _).alloc (Nat.le_refl _) _
  have he2 := he.below hb (Nat.le_of_lt he.room)
  have r := he2.range
  have sh := he2.shape
  have HB := Lib.hid hb
  clear hb he2 he
  have hn0 : -2147483648 ≤ n := by omega
  go_enter Tryz.func165, Tryz.ntmps165
  go_wp2_with fail
  go_ret
  exact ⟨rfl, HB.out⟩

set_option maxHeartbeats 2000000 in
theorem own_3lo (n : Int) (s : ByteArray) (sa : Option Addr) (len sc : Nat) (ea : Nat → Addr) (w : World) (he : ErrsAt w ea) (hn : n < 0) :
    Calls Tryz.prog 165 #[.agg #[.int .i64 3, .int .i64 n, .string s, .slice sa len sc]] w fun e w' => e = .returned (errV ea 105) ∧ Below w.heap.size w w' := by
  have hb : Below w.heap.size w (w.alloc (.cells #[.int .i64 3, .int .i64 n, .string s, .slice sa len sc] 24)) := (Below.refl _ _).alloc (Nat.le_refl _) _
  have he2 := he.below hb (Nat.le_of_lt he.room)
  have r := he2.range
  have sh := he2.shape
  have HB := Lib.hid hb
  clear hb he2 he
  go_enter Tryz.func165, Tryz.ntmps165
  go_wp2_with fail
  go_ret
  exact ⟨rfl, HB.out⟩

set_option maxHeartbeats 2000000 in
theorem own_3hi (n : Int) (s : ByteArray) (sa : Option Addr) (len sc : Nat) (ea : Nat → Addr) (w : World) (he : ErrsAt w ea) (hn : 14 < n) :
    Calls Tryz.prog 165 #[.agg #[.int .i64 3, .int .i64 n, .string s, .slice sa len sc]] w fun e w' => e = .returned (errV ea 105) ∧ Below w.heap.size w w' := by
  have hb : Below w.heap.size w (w.alloc (.cells #[.int .i64 3, .int .i64 n, .string s, .slice sa len sc] 24)) := (Below.refl _ _).alloc (Nat.le_refl _) _
  have he2 := he.below hb (Nat.le_of_lt he.room)
  have r := he2.range
  have sh := he2.shape
  have HB := Lib.hid hb
  clear hb he2 he
  have hn0 : 0 ≤ n := by omega
  go_enter Tryz.func165, Tryz.ntmps165
  go_wp2_with fail
  go_ret
  exact ⟨rfl, HB.out⟩

set_option maxHeartbeats 2000000 in
theorem own_0s (n : Int) (s : ByteArray) (sa : Option Addr) (len sc : Nat) (ea : Nat → Addr) (w : World) (he : ErrsAt w ea) (hs0 : s.toList.isEmpty = false) (hs1 : ¬s.toList = []) :
    Calls Tryz.prog 165 #[.agg #[.int .i64 0, .int .i64 n, .string s, .slice sa len sc]] w fun e w' => e = .returned (errV ea 103) ∧ Below w.heap.size w w' := by
  have hb : Below w.heap.size w (w.alloc (.cells #[.int .i64 0, .int .i64 n, .string s, .slice sa len sc] 24)) := (Below.refl _ _).alloc (Nat.le_refl _) _
  have he2 := he.below hb (Nat.le_of_lt he.room)
  have r := he2.range
  have sh := he2.shape
  have HB := Lib.hid hb
  clear hb he2 he
  go_enter Tryz.func165, Tryz.ntmps165
  go_wp2_with fail
  go_ret
  exact ⟨rfl, HB.out⟩

set_option maxHeartbeats 2000000 in
theorem own_0l (n : Int) (s : ByteArray) (sa : Option Addr) (len sc : Nat) (ea : Nat → Addr) (w : World) (he : ErrsAt w ea) (hs0 : s.toList.isEmpty = true) (hs1 : s.toList = []) (hl : 0 < len) :
    Calls Tryz.prog 165 #[.agg #[.int .i64 0, .int .i64 n, .string s, .slice sa len sc]] w fun e w' => e = .returned (errV ea 103) ∧ Below w.heap.size w w' := by
  have hb : Below w.heap.size w (w.alloc (.cells #[.int .i64 0, .int .i64 n, .string s, .slice sa len sc] 24)) := (Below.refl _ _).alloc (Nat.le_refl _) _
  have he2 := he.below hb (Nat.le_of_lt he.room)
  have r := he2.range
  have sh := he2.shape
  have HB := Lib.hid hb
  clear hb he2 he
  have hl' : (0 : Int) < (len : Int) := by omega
  go_enter Tryz.func165, Tryz.ntmps165
  go_wp2_with fail
  go_ret
  exact ⟨rfl, HB.out⟩

set_option maxHeartbeats 2000000 in
theorem own_0ok (n : Int) (s : ByteArray) (sa : Option Addr) (len sc : Nat) (ea : Nat → Addr) (w : World) (he : ErrsAt w ea) (hs0 : s.toList.isEmpty = true) (hs1 : s.toList = []) (hs : s.size ≤ 140737488351232) (hp : prB s.data.toList = true) :
    Calls Tryz.prog 165 #[.agg #[.int .i64 0, .int .i64 n, .string s, .slice sa 0 sc]] w fun e w' => e = .returned (errV ea 0) ∧ Below w.heap.size w w' := by
  have hb : Below w.heap.size w (w.alloc (.cells #[.int .i64 0, .int .i64 n, .string s, .slice sa 0 sc] 24)) := (Below.refl _ _).alloc (Nat.le_refl _) _
  have he2 := he.below hb (Nat.le_of_lt he.room)
  have r := he2.range
  have sh := he2.shape
  have HB := Lib.hid hb
  clear hb he2 he
  have HP := Lib.hid (show ∀ W, Calls Tryz.prog 212 #[.string s] W fun e w' => e = .returned (.bool true) ∧ W = w' from fun W => by
    have := printable_c s W hs
    rw [hp] at this
    exact this)
  clear hp hs
  go_enter Tryz.func165, Tryz.ntmps165
  go_wp2_with fail
  refine (HP.out _).mono ?_
  rintro e w' ⟨rfl, rfl⟩
  go_wp2_with fail
  go_ret
  exact ⟨rfl, HB.out⟩

set_option maxHeartbeats 2000000 in
theorem own_1s (n : Int) (s : ByteArray) (sa : Option Addr) (len sc : Nat) (ea : Nat → Addr) (w : World) (he : ErrsAt w ea) (hn1 : -2147483648 ≤ n) (hn2 : n ≤ 2147483647) (hs0 : s.toList.isEmpty = false) (hs1 : ¬s.toList = []) :
    Calls Tryz.prog 165 #[.agg #[.int .i64 1, .int .i64 n, .string s, .slice sa len sc]] w fun e w' => e = .returned (errV ea 103) ∧ Below w.heap.size w w' := by
  have hb : Below w.heap.size w (w.alloc (.cells #[.int .i64 1, .int .i64 n, .string s, .slice sa len sc] 24)) := (Below.refl _ _).alloc (Nat.le_refl _) _
  have he2 := he.below hb (Nat.le_of_lt he.room)
  have r := he2.range
  have sh := he2.shape
  have HB := Lib.hid hb
  clear hb he2 he
  go_enter Tryz.func165, Tryz.ntmps165
  go_wp2_with fail
  go_ret
  exact ⟨rfl, HB.out⟩

set_option maxHeartbeats 2000000 in
theorem own_1l (n : Int) (s : ByteArray) (sa : Option Addr) (len sc : Nat) (ea : Nat → Addr) (w : World) (he : ErrsAt w ea) (hn1 : -2147483648 ≤ n) (hn2 : n ≤ 2147483647) (hs0 : s.toList.isEmpty = true) (hs1 : s.toList = []) (hl : 0 < len) :
    Calls Tryz.prog 165 #[.agg #[.int .i64 1, .int .i64 n, .string s, .slice sa len sc]] w fun e w' => e = .returned (errV ea 103) ∧ Below w.heap.size w w' := by
  have hb : Below w.heap.size w (w.alloc (.cells #[.int .i64 1, .int .i64 n, .string s, .slice sa len sc] 24)) := (Below.refl _ _).alloc (Nat.le_refl _) _
  have he2 := he.below hb (Nat.le_of_lt he.room)
  have r := he2.range
  have sh := he2.shape
  have HB := Lib.hid hb
  clear hb he2 he
  have hl' : (0 : Int) < (len : Int) := by omega
  go_enter Tryz.func165, Tryz.ntmps165
  go_wp2_with fail
  go_ret
  exact ⟨rfl, HB.out⟩

set_option maxHeartbeats 2000000 in
theorem own_1ok (n : Int) (s : ByteArray) (sa : Option Addr) (len sc : Nat) (ea : Nat → Addr) (w : World) (he : ErrsAt w ea) (hn1 : -2147483648 ≤ n) (hn2 : n ≤ 2147483647) (hs0 : s.toList.isEmpty = true) (hs1 : s.toList = []) (hs : s.size ≤ 140737488351232) (hp : prB s.data.toList = true) :
    Calls Tryz.prog 165 #[.agg #[.int .i64 1, .int .i64 n, .string s, .slice sa 0 sc]] w fun e w' => e = .returned (errV ea 0) ∧ Below w.heap.size w w' := by
  have hb : Below w.heap.size w (w.alloc (.cells #[.int .i64 1, .int .i64 n, .string s, .slice sa 0 sc] 24)) := (Below.refl _ _).alloc (Nat.le_refl _) _
  have he2 := he.below hb (Nat.le_of_lt he.room)
  have r := he2.range
  have sh := he2.shape
  have HB := Lib.hid hb
  clear hb he2 he
  have HP := Lib.hid (show ∀ W, Calls Tryz.prog 212 #[.string s] W fun e w' => e = .returned (.bool true) ∧ W = w' from fun W => by
    have := printable_c s W hs
    rw [hp] at this
    exact this)
  clear hp hs
  go_enter Tryz.func165, Tryz.ntmps165
  go_wp2_with fail
  refine (HP.out _).mono ?_
  rintro e w' ⟨rfl, rfl⟩
  go_wp2_with fail
  go_ret
  exact ⟨rfl, HB.out⟩

set_option maxHeartbeats 2000000 in
theorem own_3s (n : Int) (s : ByteArray) (sa : Option Addr) (len sc : Nat) (ea : Nat → Addr) (w : World) (he : ErrsAt w ea) (hn1 : 0 ≤ n) (hn2 : n ≤ 14) (hs0 : s.toList.isEmpty = false) (hs1 : ¬s.toList = []) :
    Calls Tryz.prog 165 #[.agg #[.int .i64 3, .int .i64 n, .string s, .slice sa len sc]] w fun e w' => e = .returned (errV ea 103) ∧ Below w.heap.size w w' := by
  have hb : Below w.heap.size w (w.alloc (.cells #[.int .i64 3, .int .i64 n, .string s, .slice sa len sc] 24)) := (Below.refl _ _).alloc (Nat.le_refl _) _
  have he2 := he.below hb (Nat.le_of_lt he.room)
  have r := he2.range
  have sh := he2.shape
  have HB := Lib.hid hb
  clear hb he2 he
  go_enter Tryz.func165, Tryz.ntmps165
  go_wp2_with fail
  go_ret
  exact ⟨rfl, HB.out⟩

set_option maxHeartbeats 2000000 in
theorem own_3l (n : Int) (s : ByteArray) (sa : Option Addr) (len sc : Nat) (ea : Nat → Addr) (w : World) (he : ErrsAt w ea) (hn1 : 0 ≤ n) (hn2 : n ≤ 14) (hs0 : s.toList.isEmpty = true) (hs1 : s.toList = []) (hl : 0 < len) :
    Calls Tryz.prog 165 #[.agg #[.int .i64 3, .int .i64 n, .string s, .slice sa len sc]] w fun e w' => e = .returned (errV ea 103) ∧ Below w.heap.size w w' := by
  have hb : Below w.heap.size w (w.alloc (.cells #[.int .i64 3, .int .i64 n, .string s, .slice sa len sc] 24)) := (Below.refl _ _).alloc (Nat.le_refl _) _
  have he2 := he.below hb (Nat.le_of_lt he.room)
  have r := he2.range
  have sh := he2.shape
  have HB := Lib.hid hb
  clear hb he2 he
  have hl' : (0 : Int) < (len : Int) := by omega
  go_enter Tryz.func165, Tryz.ntmps165
  go_wp2_with fail
  go_ret
  exact ⟨rfl, HB.out⟩

set_option maxHeartbeats 2000000 in
theorem own_3ok (n : Int) (s : ByteArray) (sa : Option Addr) (len sc : Nat) (ea : Nat → Addr) (w : World) (he : ErrsAt w ea) (hn1 : 0 ≤ n) (hn2 : n ≤ 14) (hs0 : s.toList.isEmpty = true) (hs1 : s.toList = []) (hs : s.size ≤ 140737488351232) (hp : prB s.data.toList = true) :
    Calls Tryz.prog 165 #[.agg #[.int .i64 3, .int .i64 n, .string s, .slice sa 0 sc]] w fun e w' => e = .returned (errV ea 0) ∧ Below w.heap.size w w' := by
  have hb : Below w.heap.size w (w.alloc (.cells #[.int .i64 3, .int .i64 n, .string s, .slice sa 0 sc] 24)) := (Below.refl _ _).alloc (Nat.le_refl _) _
  have he2 := he.below hb (Nat.le_of_lt he.room)
  have r := he2.range
  have sh := he2.shape
  have HB := Lib.hid hb
  clear hb he2 he
  have HP := Lib.hid (show ∀ W, Calls Tryz.prog 212 #[.string s] W fun e w' => e = .returned (.bool true) ∧ W = w' from fun W => by
    have := printable_c s W hs
    rw [hp] at this
    exact this)
  clear hp hs
  go_enter Tryz.func165, Tryz.ntmps165
  go_wp2_with fail
  refine (HP.out _).mono ?_
  rintro e w' ⟨rfl, rfl⟩
  go_wp2_with fail
  go_ret
  exact ⟨rfl, HB.out⟩

set_option maxHeartbeats 2000000 in
theorem own_2l (n : Int) (s : ByteArray) (sa : Option Addr) (len sc : Nat) (ea : Nat → Addr) (w : World) (he : ErrsAt w ea) (hl : 0 < len) :
    Calls Tryz.prog 165 #[.agg #[.int .i64 2, .int .i64 n, .string s, .slice sa len sc]] w fun e w' => e = .returned (errV ea 103) ∧ Below w.heap.size w w' := by
  have hb : Below w.heap.size w (w.alloc (.cells #[.int .i64 2, .int .i64 n, .string s, .slice sa len sc] 24)) := (Below.refl _ _).alloc (Nat.le_refl _) _
  have he2 := he.below hb (Nat.le_of_lt he.room)
  have r := he2.range
  have sh := he2.shape
  have HB := Lib.hid hb
  clear hb he2 he
  have hl' : (0 : Int) < (len : Int) := by omega
  go_enter Tryz.func165, Tryz.ntmps165
  go_wp2_with fail
  go_ret
  exact ⟨rfl, HB.out⟩

set_option maxHeartbeats 2000000 in
theorem own_2n (n : Int) (s : ByteArray) (sa : Option Addr) (len sc : Nat) (ea : Nat → Addr) (w : World) (he : ErrsAt w ea) (hn : (n != 0) = true) (hn' : (n == 0) = false) :
    Calls Tryz.prog 165 #[.agg #[.int .i64 2, .int .i64 n, .string s, .slice sa 0 sc]] w fun e w' => e = .returned (errV ea 103) ∧ Below w.heap.size w w' := by
  have hb : Below w.heap.size w (w.alloc (.cells #[.int .i64 2, .int .i64 n, .string s, .slice sa 0 sc] 24)) := (Below.refl _ _).alloc (Nat.le_refl _) _
  have he2 := he.below hb (Nat.le_of_lt he.room)
  have r := he2.range
  have sh := he2.shape
  have HB := Lib.hid hb
  clear hb he2 he
  go_enter Tryz.func165, Tryz.ntmps165
  go_wp2_with fail
  go_ret
  exact ⟨rfl, HB.out⟩

set_option maxHeartbeats 2000000 in
theorem own_2p (n : Int) (s : ByteArray) (sa : Option Addr) (len sc : Nat) (ea : Nat → Addr) (w : World) (he : ErrsAt w ea) (hs : s.size ≤ 140737488351232) (hp : prB s.data.toList = false) :
    Calls Tryz.prog 165 #[.agg #[.int .i64 2, .int .i64 0, .string s, .slice sa 0 sc]] w fun e w' => e = .returned (errV ea 103) ∧ Below w.heap.size w w' := by
  have hb : Below w.heap.size w (w.alloc (.cells #[.int .i64 2, .int .i64 0, .string s, .slice sa 0 sc] 24)) := (Below.refl _ _).alloc (Nat.le_refl _) _
  have he2 := he.below hb (Nat.le_of_lt he.room)
  have r := he2.range
  have sh := he2.shape
  have HB := Lib.hid hb
  clear hb he2 he
  have hn : ((0 : Int) != 0) = false := rfl
  have HP := Lib.hid (show ∀ W, Calls Tryz.prog 212 #[.string s] W fun e w' => e = .returned (.bool false) ∧ W = w' from fun W => by
    have := printable_c s W hs
    rw [hp] at this
    exact this)
  clear hp hs
  go_enter Tryz.func165, Tryz.ntmps165
  go_wp2_with fail
  refine (HP.out _).mono ?_
  rintro e w' ⟨rfl, rfl⟩
  go_wp2_with fail
  go_ret
  exact ⟨rfl, HB.out⟩

set_option maxHeartbeats 2000000 in
theorem own_2ok (n : Int) (s : ByteArray) (sa : Option Addr) (len sc : Nat) (ea : Nat → Addr) (w : World) (he : ErrsAt w ea) (hs : s.size ≤ 140737488351232) (hp : prB s.data.toList = true) :
    Calls Tryz.prog 165 #[.agg #[.int .i64 2, .int .i64 0, .string s, .slice sa 0 sc]] w fun e w' => e = .returned (errV ea 0) ∧ Below w.heap.size w w' := by
  have hb : Below w.heap.size w (w.alloc (.cells #[.int .i64 2, .int .i64 0, .string s, .slice sa 0 sc] 24)) := (Below.refl _ _).alloc (Nat.le_refl _) _
  have he2 := he.below hb (Nat.le_of_lt he.room)
  have r := he2.range
  have sh := he2.shape
  have HB := Lib.hid hb
  clear hb he2 he
  have hn : ((0 : Int) != 0) = false := rfl
  have HP := Lib.hid (show ∀ W, Calls Tryz.prog 212 #[.string s] W fun e w' => e = .returned (.bool true) ∧ W = w' from fun W => by
    have := printable_c s W hs
    rw [hp] at this
    exact this)
  clear hp hs
  go_enter Tryz.func165, Tryz.ntmps165
  go_wp2_with fail
  refine (HP.out _).mono ?_
  rintro e w' ⟨rfl, rfl⟩
  go_wp2_with fail
  go_ret
  exact ⟨rfl, HB.out⟩

set_option maxHeartbeats 2000000 in
theorem own_4s (n : Int) (s : ByteArray) (sa : Option Addr) (len sc : Nat) (ea : Nat → Addr) (w : World) (he : ErrsAt w ea) (hs0 : s.toList.isEmpty = false) (hs1 : ¬s.toList = []) :
    Calls Tryz.prog 165 #[.agg #[.int .i64 4, .int .i64 n, .string s, .slice sa len sc]] w fun e w' => e = .returned (errV ea 103) ∧ Below w.heap.size w w' := by
  have hb : Below w.heap.size w (w.alloc (.cells #[.int .i64 4, .int .i64 n, .string s, .slice sa len sc] 24)) := (Below.refl _ _).alloc (Nat.le_refl _) _
  have he2 := he.below hb (Nat.le_of_lt he.room)
  have r := he2.range
  have sh := he2.shape
  have HB := Lib.hid hb
  clear hb he2 he
  go_enter Tryz.func165, Tryz.ntmps165
  go_wp2_with fail
  go_ret
  exact ⟨rfl, HB.out⟩

set_option maxHeartbeats 2000000 in
theorem own_4n (n : Int) (s : ByteArray) (sa : Option Addr) (len sc : Nat) (ea : Nat → Addr) (w : World) (he : ErrsAt w ea) (hs0 : s.toList.isEmpty = true) (hs1 : s.toList = []) (hn : (n != 0) = true) (hn' : (n == 0) = false) :
    Calls Tryz.prog 165 #[.agg #[.int .i64 4, .int .i64 n, .string s, .slice sa len sc]] w fun e w' => e = .returned (errV ea 103) ∧ Below w.heap.size w w' := by
  have hb : Below w.heap.size w (w.alloc (.cells #[.int .i64 4, .int .i64 n, .string s, .slice sa len sc] 24)) := (Below.refl _ _).alloc (Nat.le_refl _) _
  have he2 := he.below hb (Nat.le_of_lt he.room)
  have r := he2.range
  have sh := he2.shape
  have HB := Lib.hid hb
  clear hb he2 he
  go_enter Tryz.func165, Tryz.ntmps165
  go_wp2_with fail
  go_ret
  exact ⟨rfl, HB.out⟩

set_option maxHeartbeats 2000000 in
theorem own_4ok (n : Int) (s : ByteArray) (sa : Option Addr) (len sc : Nat) (ea : Nat → Addr) (w : World) (he : ErrsAt w ea) (hs0 : s.toList.isEmpty = true) (hs1 : s.toList = []) (hs : s.size ≤ 140737488351232) (hp : prB s.data.toList = true) :
    Calls Tryz.prog 165 #[.agg #[.int .i64 4, .int .i64 0, .string s, .slice sa len sc]] w fun e w' => e = .returned (errV ea 0) ∧ Below w.heap.size w w' := by
  have hb : Below w.heap.size w (w.alloc (.cells #[.int .i64 4, .int .i64 0, .string s, .slice sa len sc] 24)) := (Below.refl _ _).alloc (Nat.le_refl _) _
  have he2 := he.below hb (Nat.le_of_lt he.room)
  have r := he2.range
  have sh := he2.shape
  have HB := Lib.hid hb
  clear hb he2 he
  have HP := Lib.hid (show ∀ W, Calls Tryz.prog 212 #[.string s] W fun e w' => e = .returned (.bool true) ∧ W = w' from fun W => by
    have := printable_c s W hs
    rw [hp] at this
    exact this)
  clear hp hs
  go_enter Tryz.func165, Tryz.ntmps165
  go_wp2_with fail
  refine (HP.out _).mono ?_
  rintro e w' ⟨rfl, rfl⟩
  go_wp2_with fail
  go_ret
  exact ⟨rfl, HB.out⟩

end Go.Proofs.YtbalpfpcbckghaaGreatDoor
namespace Go.Proofs.YtbalpfpcbckghaaGreatDoor
open Go.RowKit Go.Lib
set_option linter.unusedVariables false

theorem empty_iff (s : ByteArray) : (s.toList.isEmpty = true ∧ s.toList = [] ∧ s.data.toList = []) ∨ (s.toList.isEmpty = false ∧ ¬s.toList = [] ∧ s.data.toList ≠ []) := by
  rw [Lib.toList_data]
  cases h : s.data.toList with
  | nil => exact .inl ⟨rfl, rfl, rfl⟩
  | cons a t => exact .inr ⟨rfl, by simp, by simp⟩

theorem own_c (k n : Int) (s : ByteArray) (sa : Option Addr) (len sc : Nat) (ea : Nat → Addr) (w : World) (he : ErrsAt w ea) (hs : s.size ≤ 140737488351232) :
    Calls Tryz.prog 165 #[.agg #[.int .i64 k, .int .i64 n, .string s, .slice sa len sc]] w fun e w' => e = .returned (errV ea (ownE k n s len)) ∧ Below w.heap.size w w' := by
  by_cases h0 : k < 0
  · rw [show ownE k n s len = 105 by unfold ownE; rw [if_pos (.inl h0)]]
    exact own_lo n s sa len sc ea w he k h0
  by_cases h4 : 4 < k
  · rw [show ownE k n s len = 105 by unfold ownE; rw [if_pos (.inr h4)]]
    exact own_hi n s sa len sc ea w he k h4
  have hk : k = 0 ∨ k = 1 ∨ k = 2 ∨ k = 3 ∨ k = 4 := by omega
  clear h0 h4
  have nz : ∀ m : Int, m ≠ 0 → (m != 0) = true ∧ (m == 0) = false := fun m hm => ⟨by rw [bne_iff_ne]; exact hm, by rw [beq_eq_false_iff_ne]; exact hm⟩
  have pe : s.data.toList = [] → prB s.data.toList = true := fun h => by rw [h]; rfl
  rcases hk with rfl | rfl | rfl | rfl | rfl
  · rcases empty_iff s with ⟨e1, e2, e3⟩ | ⟨e1, e2, e3⟩
    · by_cases hl : 0 < len
      · rw [show ownE 0 n s len = 103 by simp [ownE, e3, hl]]
        exact own_0l n s sa len sc ea w he e1 e2 hl
      · obtain rfl : len = 0 := by omega
        rw [show ownE 0 n s 0 = 0 by simp [ownE, e3, prB]]
        exact own_0ok n s sa 0 sc ea w he e1 e2 hs (pe e3)
    · rw [show ownE 0 n s len = 103 by unfold ownE; rw [if_neg (by omega), if_neg (by omega), if_neg (by omega), if_pos (.inl ⟨by omega, e3⟩)]]
      exact own_0s n s sa len sc ea w he e1 e2
  · by_cases hr : n < -2147483648
    · rw [show ownE 1 n s len = 105 by unfold ownE; rw [if_neg (by omega), if_pos ⟨rfl, .inl hr⟩]]
      exact own_1lo n s sa len sc ea w he hr
    by_cases hr2 : 2147483647 < n
    · rw [show ownE 1 n s len = 105 by unfold ownE; rw [if_neg (by omega), if_pos ⟨rfl, .inr hr2⟩]]
      exact own_1hi n s sa len sc ea w he hr2
    have q1 : -2147483648 ≤ n := by omega
    have q2 : n ≤ 2147483647 := by omega
    rcases empty_iff s with ⟨e1, e2, e3⟩ | ⟨e1, e2, e3⟩
    · by_cases hl : 0 < len
      · rw [show ownE 1 n s len = 103 by unfold ownE; rw [if_neg (by omega), if_neg (by omega), if_neg (by omega), if_pos (.inr (.inl ⟨by omega, hl⟩))]]
        exact own_1l n s sa len sc ea w he q1 q2 e1 e2 hl
      · obtain rfl : len = 0 := by omega
        rw [show ownE 1 n s 0 = 0 by unfold ownE; rw [if_neg (by omega), if_neg (by omega), if_neg (by omega), if_neg (by simp [e3]), if_neg (by rw [pe e3]; decide)]]
        exact own_1ok n s sa 0 sc ea w he q1 q2 e1 e2 hs (pe e3)
    · rw [show ownE 1 n s len = 103 by unfold ownE; rw [if_neg (by omega), if_neg (by omega), if_neg (by omega), if_pos (.inl ⟨by omega, e3⟩)]]
      exact own_1s n s sa len sc ea w he q1 q2 e1 e2
  · by_cases hl : 0 < len
    · rw [show ownE 2 n s len = 103 by unfold ownE; rw [if_neg (by omega), if_neg (by omega), if_neg (by omega), if_pos (.inr (.inl ⟨by omega, hl⟩))]]
      exact own_2l n s sa len sc ea w he hl
    obtain rfl : len = 0 := by omega
    by_cases hn : n = 0
    · subst hn
      cases hp : prB s.data.toList with
      | true =>
        rw [show ownE 2 0 s 0 = 0 by unfold ownE; rw [if_neg (by omega), if_neg (by omega), if_neg (by omega), if_neg (by omega), if_neg (by rw [hp]; decide)]]
        exact own_2ok 0 s sa 0 sc ea w he hs hp
      | false =>
        rw [show ownE 2 0 s 0 = 103 by unfold ownE; rw [if_neg (by omega), if_neg (by omega), if_neg (by omega), if_neg (by omega), if_pos hp]]
        exact own_2p 0 s sa 0 sc ea w he hs hp
    · rw [show ownE 2 n s 0 = 103 by unfold ownE; rw [if_neg (by omega), if_neg (by omega), if_neg (by omega), if_pos (.inr (.inr ⟨.inl rfl, hn⟩))]]
      exact own_2n n s sa 0 sc ea w he (nz n hn).1 (nz n hn).2
  · by_cases hr : n < 0
    · rw [show ownE 3 n s len = 105 by unfold ownE; rw [if_neg (by omega), if_neg (by omega), if_pos ⟨rfl, .inl hr⟩]]
      exact own_3lo n s sa len sc ea w he hr
    by_cases hr2 : 14 < n
    · rw [show ownE 3 n s len = 105 by unfold ownE; rw [if_neg (by omega), if_neg (by omega), if_pos ⟨rfl, .inr hr2⟩]]
      exact own_3hi n s sa len sc ea w he hr2
    have q1 : 0 ≤ n := by omega
    have q2 : n ≤ 14 := by omega
    rcases empty_iff s with ⟨e1, e2, e3⟩ | ⟨e1, e2, e3⟩
    · by_cases hl : 0 < len
      · rw [show ownE 3 n s len = 103 by unfold ownE; rw [if_neg (by omega), if_neg (by omega), if_neg (by omega), if_pos (.inr (.inl ⟨by omega, hl⟩))]]
        exact own_3l n s sa len sc ea w he q1 q2 e1 e2 hl
      · obtain rfl : len = 0 := by omega
        rw [show ownE 3 n s 0 = 0 by unfold ownE; rw [if_neg (by omega), if_neg (by omega), if_neg (by omega), if_neg (by simp [e3]), if_neg (by rw [pe e3]; decide)]]
        exact own_3ok n s sa 0 sc ea w he q1 q2 e1 e2 hs (pe e3)
    · rw [show ownE 3 n s len = 103 by unfold ownE; rw [if_neg (by omega), if_neg (by omega), if_neg (by omega), if_pos (.inl ⟨by omega, e3⟩)]]
      exact own_3s n s sa len sc ea w he q1 q2 e1 e2
  · rcases empty_iff s with ⟨e1, e2, e3⟩ | ⟨e1, e2, e3⟩
    · by_cases hn : n = 0
      · subst hn
        rw [show ownE 4 0 s len = 0 by unfold ownE; rw [if_neg (by omega), if_neg (by omega), if_neg (by omega), if_neg (by simp [e3]), if_neg (by rw [pe e3]; decide)]]
        exact own_4ok 0 s sa len sc ea w he e1 e2 hs (pe e3)
      · rw [show ownE 4 n s len = 103 by unfold ownE; rw [if_neg (by omega), if_neg (by omega), if_neg (by omega), if_pos (.inr (.inr ⟨.inr rfl, hn⟩))]]
        exact own_4n n s sa len sc ea w he e1 e2 (nz n hn).1 (nz n hn).2
    · rw [show ownE 4 n s len = 103 by unfold ownE; rw [if_neg (by omega), if_neg (by omega), if_neg (by omega), if_pos (.inl ⟨by omega, e3⟩)]]
      exact own_4s n s sa len sc ea w he e1 e2
end Go.Proofs.YtbalpfpcbckghaaGreatDoor
namespace Go.Proofs.YtbalpfpcbckghaaGreatDoor
open Go.Lib
set_option linter.unusedVariables false

/-- What digits spell. -/
def dg1 (c : UInt8) : Nat := c.toNat - 48
attribute [irreducible] dg1
end Go.Proofs.YtbalpfpcbckghaaGreatDoor
namespace Go.Proofs.YtbalpfpcbckghaaGreatDoor

/-- A word: its kind, line, text, and the value of a literal. -/
structure Tok where
  kind : Int
  line : Int
  s : ByteArray
  k : Int
  n : Int
  t : ByteArray
end Go.Proofs.YtbalpfpcbckghaaGreatDoor
namespace Go.Proofs.YtbalpfpcbckghaaGreatDoor
open Go.RowKit

/-- A list of nodes: each has what it is, a line, a name, a value (kind, number, text, items), and nodes. -/
inductive NL where
  | nil : NL
  | cons (op ln : Int) (s : ByteArray) (k n : Int) (t : ByteArray) (v : VL) (sub : NL) (rest : NL) : NL

namespace NL
def len : NL → Nat
  | .nil => 0
  | .cons _ _ _ _ _ _ _ _ r => r.len + 1
def app : NL → NL → NL
  | .nil, b => b
  | .cons op ln s k n t v sub r, b => .cons op ln s k n t v sub (r.app b)
theorem len_app : ∀ a b : NL, (a.app b).len = a.len + b.len
  | .nil, b => by simp [app, len]
  | .cons op ln s k n t v sub r, b => by simp [app, len, len_app r]; omega
def take : Nat → NL → NL
  | 0, _ => .nil
  | _ + 1, .nil => .nil
  | i + 1, .cons op ln s k n t v sub r => .cons op ln s k n t v sub (r.take i)
def drop : Nat → NL → NL
  | 0, l => l
  | _ + 1, .nil => .nil
  | i + 1, .cons _ _ _ _ _ _ _ _ r => r.drop i
theorem take_app_drop : ∀ (i : Nat) (l : NL), (l.take i).app (l.drop i) = l
  | 0, l => by cases l <;> rfl
  | i + 1, .nil => rfl
  | i + 1, .cons op ln s k n t v sub r => by rw [take, drop, app, take_app_drop i r]
theorem drop_len : ∀ l : NL, l.drop l.len = .nil
  | .nil => rfl
  | .cons op ln s k n t v sub r => by rw [len, drop, drop_len r]
theorem take_len : ∀ l : NL, l.take l.len = l
  | .nil => rfl
  | .cons op ln s k n t v sub r => by rw [len, take, take_len r]
theorem len_drop : ∀ (i : Nat) (l : NL), (l.drop i).len = l.len - i
  | 0, l => by rw [drop]; rfl
  | i + 1, .nil => by simp [drop, len]
  | i + 1, .cons op ln s k n t v sub r => by rw [drop, len_drop i r, len]; omega
theorem drop_of_lt : ∀ (i : Nat) (l : NL), i < l.len → ∃ op ln s k n t v sub, l.drop i = .cons op ln s k n t v sub (l.drop (i + 1))
  | _, .nil, h => by simp [len] at h
  | 0, .cons op ln s k n t v sub r, _ => ⟨op, ln, s, k, n, t, v, sub, by rw [drop, drop, drop]⟩
  | i + 1, .cons op ln s k n t v sub r, h => by
    rw [len] at h
    obtain ⟨op', ln', s', k', n', t', v', sub', e⟩ := drop_of_lt i r (by omega)
    exact ⟨op', ln', s', k', n', t', v', sub', by rw [drop, drop, e]⟩
theorem take_succ : ∀ (i : Nat) (l : NL) (op ln : Int) (s : ByteArray) (k n : Int) (t : ByteArray) (v : VL) (sub : NL), l.drop i = .cons op ln s k n t v sub (l.drop (i + 1)) → l.take (i + 1) = (l.take i).app (.cons op ln s k n t v sub .nil)
  | 0, .nil, op, ln, s, k, n, t, v, sub, h => by simp [drop] at h
  | 0, .cons op ln s k n t v sub r, op', ln', s', k', n', t', v', sub', h => by
    simp only [drop] at h
    injection h with h1 h2 h3 h4 h5 h6 h7 h8 _
    subst h1; subst h2; subst h3; subst h4; subst h5; subst h6; subst h7; subst h8
    simp [take, app]
  | i + 1, .nil, op, ln, s, k, n, t, v, sub, h => by simp [drop] at h
  | i + 1, .cons op0 ln0 s0 k0 n0 t0 v0 sub0 r, op, ln, s, k, n, t, v, sub, h => by
    rw [drop, drop] at h
    rw [take, take_succ i r op ln s k n t v sub h, take, app]
end NL

/-- A list of nodes in memory: its cells, from an address on; all in blocks of a sort. -/
def RpN (w : World) (S : Nat → Prop) : NL → Option Addr → Prop
  | .nil, _ => True
  | .cons op ln s k n t v sub rest, A => ∃ (b o : Nat) (va : Option Addr) (vc : Nat) (sa : Option Addr) (sc : Nat), A = some ⟨b, o, none⟩ ∧ S b ∧
      w.cell? ⟨b, o, none⟩ = some (.int .i64 op) ∧ w.cell? ⟨b, o + 1, none⟩ = some (.int .i64 ln) ∧ w.cell? ⟨b, o + 2, none⟩ = some (.string s) ∧
      w.cell? ⟨b, o + 3, none⟩ = some (.int .i64 k) ∧ w.cell? ⟨b, o + 4, none⟩ = some (.int .i64 n) ∧ w.cell? ⟨b, o + 5, none⟩ = some (.string t) ∧
      w.cell? ⟨b, o + 6, none⟩ = some (.slice va v.len vc) ∧ v.len ≤ vc ∧ RpL w S v va ∧
      w.cell? ⟨b, o + 7, none⟩ = some (.slice sa sub.len sc) ∧ sub.len ≤ sc ∧ RpN w S sub sa ∧ RpN w S rest (some ⟨b, o + 8, none⟩)

theorem RpN.keep {w w' : World} {S S' : Nat → Prop} (hw : ∀ b, S b → w'.heap[b]? = w.heap[b]?) (hS : ∀ b, S b → S' b) : ∀ (l : NL) (A : Option Addr), RpN w S l A → RpN w' S' l A
  | .nil, _, _ => trivial
  | .cons op ln s k n t v sub rest, A, ⟨b, o, va, vc, sa, sc, hA, hb, h0, h1, h2, h3, h4, h5, h6, hv, hvr, h7, hc, hs, hr⟩ => by
    have hk : ∀ p : Addr, p.block = b → w'.cell? p = w.cell? p := fun p hp => World.cell?_of_block (w := w) (hw p.block (by rw [hp]; exact hb))
    exact ⟨b, o, va, vc, sa, sc, hA, hS b hb, (hk _ rfl).trans h0, (hk _ rfl).trans h1, (hk _ rfl).trans h2, (hk _ rfl).trans h3, (hk _ rfl).trans h4, (hk _ rfl).trans h5, (hk _ rfl).trans h6, hv, RpL.keep hw hS v va hvr, (hk _ rfl).trans h7, hc, RpN.keep hw hS sub sa hs, RpN.keep hw hS rest _ hr⟩

theorem RpN.below {w w' : World} {S : Nat → Prop} {B : Nat} {l : NL} {A : Option Addr} (h : RpN w S l A) (hb : Below B w w') (hS : ∀ b, S b → b < B) : RpN w' S l A :=
  h.keep (fun b hbS => hb.block b (hS b hbS)) (fun _ h => h)

theorem RpN.grown {w w' : World} {S : Nat → Prop} {R : Option Nat} {l : NL} {A : Option Addr} (h : RpN w S l A) (hb : w.grownBy w' R) (hS : ∀ b, S b → b < w.heap.size ∧ some b ≠ R) : RpN w' S l A :=
  h.keep (fun b hbS => hb.block b (hS b hbS).1 (hS b hbS).2) (fun _ h => h)

theorem RpN.wide {w : World} {S S' : Nat → Prop} {l : NL} {A : Option Addr} (h : RpN w S l A) (hS : ∀ b, S b → S' b) : RpN w S' l A := h.keep (fun _ _ => rfl) hS

/-- The i-th node of a list in memory. -/
theorem RpN.drop {w : World} {S : Nat → Prop} : ∀ (i : Nat) (l : NL) (b o : Nat), RpN w S l (some ⟨b, o, none⟩) → RpN w S (l.drop i) (some ⟨b, o + 8 * i, none⟩)
  | 0, l, b, o, h => by rw [NL.drop]; exact h
  | i + 1, .nil, _, _, _ => by rw [NL.drop]; trivial
  | i + 1, .cons op ln s k n t v sub r, b, o, ⟨b', o', va, vc, sa, sc, hA, _, _, _, _, _, _, _, _, _, _, _, _, _, hr⟩ => by
    injection hA with hA
    injection hA with h1 h2
    subst h1; subst h2
    have := RpN.drop i r b (o + 8) hr
    rw [NL.drop]
    rw [show o + 8 * (i + 1) = o + 8 + 8 * i from by omega]
    exact this
end Go.Proofs.YtbalpfpcbckghaaGreatDoor
namespace Go.Proofs.YtbalpfpcbckghaaGreatDoor
open Go.RowKit Go.Lib
set_option linter.unusedVariables false

end Go.Proofs.YtbalpfpcbckghaaGreatDoor
