/- Contracts of the functions that the statement reaches, and the plain mathematics beneath: several texts joined. -/
import Derived.Test.YtggngahmafbihaaGreatDoorPbiAA
import Derived.Test.YtggngahmafbihaaGreatDoorPbiAE
namespace Go.Proofs.YtggngahmafbihaaGreatDoor

namespace NL
def tot : NL → Nat
  | .nil => 0
  | .cons _ _ _ _ _ _ _ sub r => 1 + sub.tot + r.tot
def deep : NL → Nat
  | .nil => 0
  | .cons _ _ _ _ _ _ _ sub r => Nat.max (1 + sub.deep) r.deep
/-- All values within are no longer than a machine can hold. -/
def fit : NL → Prop
  | .nil => True
  | .cons _ _ s _ _ t v sub r => s.size ≤ 140737488351232 ∧ t.size ≤ 140737488351232 ∧ v.len ≤ 140737488351232 ∧ v.fit ∧ sub.len ≤ 140737488351232 ∧ sub.fit ∧ r.fit
theorem len_tot : ∀ l : NL, l.len ≤ l.tot
  | .nil => Nat.le_refl _
  | .cons _ _ _ _ _ _ _ sub r => by have := len_tot r; simp only [len, tot]; omega
theorem deep_app : ∀ a b : NL, (a.app b).deep = Nat.max a.deep b.deep
  | .nil, b => by simp [app, deep]
  | .cons _ _ _ _ _ _ _ sub r, b => by simp only [app, deep, deep_app r]; exact (Nat.max_assoc _ _ _).symm
end NL
end Go.Proofs.YtggngahmafbihaaGreatDoor
namespace Go.Proofs.YtggngahmafbihaaGreatDoor

/-- What has to stand in a node (0 an expression, 1 an item, 2 what is set, 3 a Var, 4 the last Var, 5 codes, 6 a Block, 7 a statement, 8 an Except), and whether it has what it has to have. -/
def rolesP (op : Int) (n : Nat) : List Nat × Bool :=
  if op = 1 ∨ op = 2 ∨ op = 45 ∨ op = 46 then ([], n == 0)
  else if op = 3 ∨ op = 4 ∨ op = 26 ∨ op = 40 then ([0], n == 1)
  else if (5 ≤ op ∧ op ≤ 18) ∨ op = 20 ∨ op = 22 then ([0, 0], n == 2)
  else if op = 19 ∨ op = 21 then ([0, 0, 0], n == 3)
  else if op = 23 then ([0, 0] ++ List.replicate (n - 2) 1, decide (2 ≤ n))
  else if op = 24 ∨ op = 25 then (List.replicate n 1, true)
  else if op = 27 then ([2, 0], n == 2)
  else if op = 28 then ((List.replicate (n - 2) 3 ++ (if 1 < n then [4] else [])) ++ [0], decide (2 ≤ n))
  else if op = 29 then ([0, 5, 0].take (Nat.min n 3), n == 2 || n == 3)
  else if op = 41 then ((List.range n).map (fun i => if n % 2 = 1 ∧ i = n - 1 then 6 else if i % 2 = 0 then 0 else 6), decide (2 ≤ n))
  else if op = 42 ∨ op = 44 ∨ op = 48 then ([0, 6], n == 2)
  else if op = 43 then ([0, 0, 6], n == 3)
  else if op = 47 then (List.replicate n 0, decide (n ≤ 1))
  else if op = 49 then ([6] ++ List.replicate (n - 1) 8, decide (2 ≤ n))
  else if op = 50 then ([5, 6], n == 2)
  else if op = 51 then ([6, 6], n == 2)
  else if op = 52 then (List.replicate n 7, true)
  else ([], false)
end Go.Proofs.YtggngahmafbihaaGreatDoor
namespace Go.Proofs.YtggngahmafbihaaGreatDoor
open Go.RowKit Go.Lib
set_option linter.unusedVariables false

/-- Are two lists of values alike? -/
def sameL : VL → VL → Bool
  | .nil, .nil => true
  | .cons k n s a r, .cons k' n' s' a' r' => (sameL a a' && decide (k = k') && decide (n = n') && decide (s = s')) && sameL r r'
  | _, _ => false
/-- Are two values alike? -/
def same1 (k n : Int) (s : ByteArray) (a : VL) (k' n' : Int) (s' : ByteArray) (a' : VL) : Bool := sameL a a' && decide (k = k') && decide (n = n') && decide (s = s')
theorem sameL_iff : ∀ a b : VL, sameL a b = true ↔ a = b
  | .nil, .nil => by simp [sameL]
  | .nil, .cons .. => by simp [sameL]
  | .cons .., .nil => by simp [sameL]
  | .cons k n s a r, .cons k' n' s' a' r' => by
    rw [sameL, Bool.and_eq_true, Bool.and_eq_true, Bool.and_eq_true, Bool.and_eq_true, sameL_iff a a', sameL_iff r r', decide_eq_true_eq, decide_eq_true_eq, decide_eq_true_eq]
    constructor
    · rintro ⟨⟨⟨⟨rfl, rfl⟩, rfl⟩, rfl⟩, rfl⟩; rfl
    · intro h; injection h with h1 h2 h3 h4 h5; exact ⟨⟨⟨⟨h4, h1⟩, h2⟩, h3⟩, h5⟩
theorem sameL_len : ∀ a b : VL, a.len ≠ b.len → sameL a b = false
  | a, b, h => by
    cases hq : sameL a b with
    | false => rfl
    | true => rw [(sameL_iff a b).1 hq] at h; exact absurd rfl h
theorem sameL_drop {a b : VL} {i : Nat} {k n : Int} {s : ByteArray} {x : VL} {k' n' : Int} {s' : ByteArray} {x' : VL} (ha : a.drop i = .cons k n s x (a.drop (i + 1))) (hb : b.drop i = .cons k' n' s' x' (b.drop (i + 1))) :
    sameL (a.drop i) (b.drop i) = (same1 k n s x k' n' s' x' && sameL (a.drop (i + 1)) (b.drop (i + 1))) := by rw [ha, hb]; rfl
end Go.Proofs.YtggngahmafbihaaGreatDoor
namespace Go.Proofs.YtggngahmafbihaaGreatDoor

/-- Two rows of nodes alike but for lines. -/
def sameN : NL → NL → Bool
  | .nil, .nil => true
  | .cons op _ s k n t v sub r, .cons op' _ s' k' n' t' v' sub' r' => same1 k n t v k' n' t' v' && decide (op = op') && decide (s = s') && sameN sub sub' && sameN r r'
  | _, _ => false
end Go.Proofs.YtggngahmafbihaaGreatDoor
namespace Go.Proofs.YtggngahmafbihaaGreatDoor
open Go.RowKit Go.Lib
set_option linter.unusedVariables false

/-- The reference's count: one number in a block of its own. -/
def RwAt (w : World) (L : Nat) (n : Int) : Prop := w.heap[L]? = some (.cells #[.int .i64 n] 191 (0, 0))
section
variable {w w' : World} {L : Nat} {left : Int}
theorem RwAt.lt (h : RwAt w L left) : L < w.heap.size := by
  rcases Nat.lt_or_ge L w.heap.size with hlt | hge
  · exact hlt
  · unfold RwAt at h; rw [Array.getElem?_eq_none hge] at h; cases h
theorem RwAt.c0 (h : RwAt w L left) : w.cell? ⟨L, 0, none⟩ = some (.int .i64 left) := cell_of_row w L 0 _ _ _ h
theorem RwAt.fr (h : RwAt w L left) : w.frozen? ⟨L, 0, none⟩ = false := by unfold RwAt at h; simp [World.frozen?, h]
theorem RwAt.alloc (h : RwAt w L left) (o : Obj) : RwAt (w.alloc o) L left := (Below.heap_alloc w o L h.lt).trans h
theorem RwAt.set (h : RwAt w L left) (n : Int) : RwAt (w.setCell ⟨L, 0, none⟩ (.int .i64 n)) L n := by
  unfold RwAt at h ⊢; simp [World.setCell, Array.getElem?_modify, h]
theorem RwAt.below (h : RwAt w L left) {B : Nat} (hb : Below B w w') (hL : L < B) : RwAt w' L left := (hb.block L hL).trans h
theorem RwAt.new (W : World) (n : Int) : RwAt (W.alloc (.cells #[.int .i64 n] 191)) W.heap.size n := by unfold RwAt World.alloc; simp
end

/-- Out of the loop over the items. -/
theorem bne_of {a b : Int} (h : a ≠ b) : (a != b) = true ∧ (a == b) = false := by simp [h]

end Go.Proofs.YtggngahmafbihaaGreatDoor
