/-
  The names of the codes; lit's reader: code.
-/
import Derived.Test.YtoemnccklakkeaaDoorRdE
namespace Go.Proofs.YtoemnccklakkeaaDoor
open Go.RowKit Go.Lib

/-- The names of the codes, by number. -/
def nmL : List ByteArray := [⟨#[69, 95, 78, 79, 78, 69]⟩, ⟨#[69, 95, 84, 89, 80, 69]⟩, ⟨#[69, 95, 68, 73, 86]⟩, ⟨#[69, 95, 80, 69, 82, 77]⟩, ⟨#[69, 95, 80, 82, 79, 80, 78, 70]⟩, ⟨#[69, 95, 86, 69, 82, 66, 78, 70]⟩,
  ⟨#[69, 95, 86, 65, 82, 78, 70]⟩, ⟨#[69, 95, 73, 78, 86, 73, 78, 68]⟩, ⟨#[69, 95, 82, 69, 67, 77, 79, 86, 69]⟩, ⟨#[69, 95, 77, 65, 88, 82, 69, 67]⟩, ⟨#[69, 95, 82, 65, 78, 71, 69]⟩, ⟨#[69, 95, 65, 82, 71, 83]⟩,
  ⟨#[69, 95, 78, 65, 67, 67]⟩, ⟨#[69, 95, 73, 78, 86, 65, 82, 71]⟩, ⟨#[69, 95, 81, 85, 79, 84, 65]⟩]
theorem nmL_len : nmL.length = 15 := rfl

theorem names_c (w : World) : Calls Tryd.prog 36 #[] w fun e w' => e = .returned (.slice (some ⟨w.heap.size, 0, none⟩) 15 15) ∧ w' = w.alloc (.cells (nmL.map Value.string).toArray 9) := by
  go_enter Tryd.func36, Tryd.ntmps36
  go_wp2
  go_ret
  exact ⟨rfl, rfl⟩

/-- How many letters of a name are at hand, from the k-th on; with fuel. -/
def cpl (s : ByteArray) (i : Nat) (n : ByteArray) : Nat → Nat → Nat
  | 0, k => k
  | f + 1, k => if k < n.size ∧ i + k < s.size ∧ pk s (i + k) = pk n k then cpl s i n f (k + 1) else k
def cp (s : ByteArray) (i : Nat) (n : ByteArray) : Nat := cpl s i n (n.size + 1) 0

/-- What is known behind one name more: the code, how many of its letters, the most letters of any. -/
def codeStep (s : ByteArray) (i : Nat) (n : ByteArray) (c : Nat) (r : Int × Int × Int) : Int × Int × Int :=
  if (cp s i n = n.size ∧ r.2.1 < cp s i n) then (c, cp s i n, max r.2.2 (cp s i n)) else (r.1, r.2.1, max r.2.2 (cp s i n))
def codeTo (s : ByteArray) (i : Nat) : Nat → Int × Int × Int
  | 0 => (0, -1, 0)
  | c + 1 => codeStep s i (nmL.getD c ByteArray.empty) c (codeTo s i c)

/-- A code: the place behind its name, whether all is right, the code. -/
def codeSp (s : ByteArray) (i : Nat) : Nat × Bool × Int :=
  let r := codeTo s i 15
  if r.2.1 < 0 then (i + r.2.2.toNat, false, r.1) else (i + r.2.1.toNat, true, r.1)

theorem cpl_le (s : ByteArray) (i : Nat) (n : ByteArray) : ∀ (f k : Nat), k ≤ n.size → k ≤ cpl s i n f k ∧ cpl s i n f k ≤ n.size
  | 0, k, h => ⟨Nat.le_refl _, h⟩
  | f + 1, k, h => by
    unfold cpl
    split
    · rename_i hc
      have := cpl_le s i n f (k + 1) (by omega)
      omega
    · omega
theorem cp_le (s : ByteArray) (i : Nat) (n : ByteArray) : cp s i n ≤ n.size := (cpl_le s i n _ 0 (Nat.zero_le _)).2

theorem nm_short : ∀ n ∈ nmL, n.size ≤ 20 := by decide

theorem codeTo_range (s : ByteArray) (i : Nat) : ∀ c, c ≤ 15 → (0 ≤ (codeTo s i c).1 ∧ (codeTo s i c).1 ≤ 14) ∧ (-1 ≤ (codeTo s i c).2.1 ∧ (codeTo s i c).2.1 ≤ 20) ∧ (0 ≤ (codeTo s i c).2.2 ∧ (codeTo s i c).2.2 ≤ 20)
  | 0, _ => by simp [codeTo]
  | c + 1, h => by
    obtain ⟨h1, h2, h3⟩ := codeTo_range s i c (by omega)
    have hc : c < nmL.length := by rw [nmL_len]; omega
    have hn : (nmL.getD c ByteArray.empty).size ≤ 20 := by
      rw [List.getD_eq_getElem?_getD, List.getElem?_eq_getElem hc]
      exact nm_short _ (List.getElem_mem hc)
    have hcp := cp_le s i (nmL.getD c ByteArray.empty)
    rw [codeTo, codeStep]
    split
    · refine ⟨?_, ?_, ?_⟩ <;> simp only <;> omega
    · refine ⟨?_, ?_, ?_⟩ <;> simp only <;> omega
end Go.Proofs.YtoemnccklakkeaaDoor
