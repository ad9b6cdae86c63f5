/-
  The reference's Printed, odd, Valid and Right: the walks.
-/
import Derived.Test.YtoemnccklakkeaaDoorVwD
namespace Go.Proofs.YtoemnccklakkeaaDoor
open Go.RowKit Go.Lib
set_option linter.unusedVariables false

set_option maxHeartbeats 400000 in
theorem printed_c (s : ByteArray) (w : World) (hs : s.size ≤ 140737488351232) :
    Calls Tryd.prog 26 #[.string s] w fun e w' => e = .returned (.bool (prB s.data.toList)) ∧ w = w' := by
  go_enter Tryd.func26, Tryd.ntmps26
  go_wp2
  go_loop [3] (fun i => ∃ k : Nat, k ≤ s.size ∧ i = .int .i64 k ∧ Hid (prB (s.data.toList.take k) = true)) (fun i => s.size - (intOf i).toNat)
  case atStart => exact ⟨0, Nat.zero_le _, rfl, rfl⟩
  case round =>
    obtain ⟨k, hk, rfl, hall⟩ := hrel
    by_cases hlt : k < s.size
    · have hts := Lib.hid (take_snoc s k hlt)
      go_wp2
      all_goals first
        | (go_ret
           exact ⟨ret_bool (prB_bad s k hlt (by omega)).symm, rfl⟩)
        | (refine ⟨⟨k + 1, by omega, by go_num, ?_⟩, by simp [intOf]; omega⟩
           show prB _ = true
           have hx := hall.out
           unfold prB at hx ⊢
           rw [hts.out, List.all_append, hx, List.all_cons, show prC s[k] = true from decide_eq_true (by omega)]
           rfl)
    · obtain rfl : k = s.size := by omega
      go_wp2
      go_ret
      refine ⟨ret_bool ?_, rfl⟩
      have := hall.out
      rw [List.take_of_length_le (by simp)] at this
      exact this.symm

/-- The reference's count: one number in a block of its own. -/
def RwAt (w : World) (L : Nat) (n : Int) : Prop := w.heap[L]? = some (.cells #[.int .i64 n] 94 (0, 0))
section
variable {w w' : World} {L : Nat} {left : Int}
theorem RwAt.lt (h : RwAt w L left) : L < w.heap.size := by
  rcases Nat.lt_or_ge L w.heap.size with hlt | hge
  · exact hlt
  · unfold RwAt at h; rw [Array.getElem?_eq_none hge] at h; cases h
theorem RwAt.c0 (h : RwAt w L left) : w.cell? ⟨L, 0, none⟩ = some (.int .i64 left) := cell_of_row w L 0 _ _ _ h
theorem RwAt.fr (h : RwAt w L left) : w.frozen? ⟨L, 0, none⟩ = false := by unfold RwAt at h; simp [World.frozen?, h]
theorem RwAt.alloc (h : RwAt w L left) (o : Obj) : RwAt (w.alloc o) L left := (Below.heap_alloc w o L h.lt).trans h
theorem RwAt.set (h : RwAt w L left) (n : Int) : RwAt (w.setCell ⟨L, 0, none⟩ (.int .i64 n)) L n := by
  unfold RwAt at h ⊢; simp [World.setCell, Array.getElem?_modify, h]
theorem RwAt.below (h : RwAt w L left) {B : Nat} (hb : Below B w w') (hL : L < B) : RwAt w' L left := (hb.block L hL).trans h
theorem RwAt.new (W : World) (n : Int) : RwAt (W.alloc (.cells #[.int .i64 n] 94)) W.heap.size n := by unfold RwAt World.alloc; simp
end

/-- What a call of odd is to show. -/
def POdd (w : World) (L : Nat) (r : Nat × Int) (e : Ending) (w' : World) : Prop := e = .returned (.int .i64 r.1) ∧ (∃ m, RwAt w' L m ∧ (r.1 = 0 → m = 4096 - r.2)) ∧ w.grownBy w' (some L)

def OddC (N : Nat) : Prop := ∀ (k n : Int) (s : ByteArray) (sub : VL) (sa : Option Addr) (sc : Nat) (deep left : Int) (L : Nat) (w : World), sub.size < N → RwAt w L (4096 - left) →
  s.size ≤ 140737488351232 → sub.len ≤ 140737488351232 → sub.fit → sub.len ≤ sc → RpL w (fun b => b < w.heap.size ∧ b ≠ L) sub sa → 1 ≤ deep → deep ≤ 41 → 0 ≤ left → left ≤ 4096 →
  Calls Tryd.prog 71 #[.pointer (some ⟨L, 0, none⟩), .agg #[.int .i64 k, .int .i64 n, .string s, .slice sa sub.len sc], .int .i64 deep] w (POdd w L (walk1 k n s sub deep left))

/-- Out of the loop over the items. -/
theorem bne_of {a b : Int} (h : a ≠ b) : (a != b) = true ∧ (a == b) = false := by simp [h]

/-- Where odd goes on to look at a value's kind, and it is not a Str. -/
theorem kind_cases {k n : Int} {s : ByteArray} {len : Nat} (hk : k ≠ 2) :
    (ownE k n s len = 105 ∧ (k < 0 ∨ (0 ≤ k ∧ 4 < k) ∨ (k = 1 ∧ n < -2147483648) ∨ (k = 1 ∧ -2147483648 ≤ n ∧ 2147483647 < n) ∨ (k = 3 ∧ n < 0) ∨ (k = 3 ∧ 0 ≤ n ∧ 14 < n))) ∨
    (ownE k n s len = 103 ∧ ((k = 0 ∧ s.toList.isEmpty = false) ∨ (k = 0 ∧ s.toList.isEmpty = true ∧ 0 < len) ∨ (k = 1 ∧ -2147483648 ≤ n ∧ n ≤ 2147483647 ∧ s.toList.isEmpty = false) ∨ (k = 1 ∧ -2147483648 ≤ n ∧ n ≤ 2147483647 ∧ s.toList.isEmpty = true ∧ 0 < len) ∨
      (k = 3 ∧ 0 ≤ n ∧ n ≤ 14 ∧ s.toList.isEmpty = false) ∨ (k = 3 ∧ 0 ≤ n ∧ n ≤ 14 ∧ s.toList.isEmpty = true ∧ 0 < len) ∨ (k = 4 ∧ n ≠ 0) ∨ (k = 4 ∧ n = 0 ∧ s.toList.isEmpty = false))) ∨
    (ownE k n s len = 0 ∧ s = ⟨#[]⟩ ∧ ((k = 0 ∧ len = 0) ∨ (k = 1 ∧ -2147483648 ≤ n ∧ n ≤ 2147483647 ∧ len = 0) ∨ (k = 3 ∧ 0 ≤ n ∧ n ≤ 14 ∧ len = 0) ∨ (k = 4 ∧ n = 0))) := by
  have hse : (s.toList.isEmpty = true ∧ s.data.toList = [] ∧ s = ⟨#[]⟩) ∨ (s.toList.isEmpty = false ∧ s.data.toList ≠ []) := by
    rw [Lib.toList_data]
    rcases s with ⟨⟨l⟩⟩
    cases l with
    | nil => exact .inl ⟨rfl, rfl, rfl⟩
    | cons a r => exact .inr ⟨rfl, by simp⟩
  unfold ownE
  by_cases h1 : k < 0 ∨ 4 < k
  · rw [if_pos h1]; exact .inl ⟨rfl, by omega⟩
  rw [if_neg h1]
  by_cases h2 : k = 1 ∧ (n < -2147483648 ∨ 2147483647 < n)
  · rw [if_pos h2]; exact .inl ⟨rfl, by omega⟩
  rw [if_neg h2]
  by_cases h3 : k = 3 ∧ (n < 0 ∨ 14 < n)
  · rw [if_pos h3]; exact .inl ⟨rfl, by omega⟩
  rw [if_neg h3]
  right
  have hkk : k = 0 ∨ k = 1 ∨ k = 3 ∨ k = 4 := by omega
  rcases hse with ⟨e1, e2, e3⟩ | ⟨e1, e2⟩
  · by_cases h4 : k ≠ 4 ∧ 0 < len
    · rw [if_pos (.inr (.inl h4))]
      left; refine ⟨rfl, ?_⟩
      simp only [e1]; simp; omega
    · by_cases h5 : k = 4 ∧ n ≠ 0
      · rw [if_pos (.inr (.inr ⟨.inr h5.1, h5.2⟩))]
        left; refine ⟨rfl, ?_⟩
        simp only [e1]; simp; omega
      · rw [if_neg (by rintro (⟨_, h⟩ | h | ⟨h, h'⟩); exact h e2; exact h4 h; rcases h with h | h; exact hk h; exact h5 ⟨h, h'⟩), if_neg (by rw [e2]; decide)]
        right; exact ⟨rfl, e3, by omega⟩
  · rw [if_pos (.inl ⟨hk, e2⟩)]
    left; refine ⟨rfl, ?_⟩
    simp only [e1]; simp; omega
/-- The same of a Str. -/
theorem str_cases {n : Int} {s : ByteArray} {len : Nat} :
    (ownE 2 n s len = 103 ∧ (n ≠ 0 ∨ (n = 0 ∧ 0 < len))) ∨ (ownE 2 n s len = 103 ∧ n = 0 ∧ len = 0 ∧ prB s.data.toList = false) ∨ (ownE 2 n s len = 0 ∧ n = 0 ∧ len = 0 ∧ prB s.data.toList = true) := by
  unfold ownE
  rw [if_neg (by decide), if_neg (by rintro ⟨h, _⟩; cases h), if_neg (by rintro ⟨h, _⟩; cases h)]
  by_cases h : n ≠ 0 ∨ 0 < len
  · rw [if_pos (by rcases h with h | h; exact .inr (.inr ⟨.inl rfl, h⟩); exact .inr (.inl ⟨by decide, h⟩))]
    left; exact ⟨rfl, by omega⟩
  · rw [if_neg (by rintro (⟨h', _⟩ | ⟨_, h'⟩ | ⟨_, h'⟩); exact h' rfl; exact h (.inr h'); exact h (.inl h'))]
    right
    by_cases hp : prB s.data.toList = false
    · rw [if_pos hp]; left; exact ⟨rfl, by omega, by omega, hp⟩
    · rw [if_neg hp]; right; exact ⟨rfl, by omega, by omega, by simpa using hp⟩
end Go.Proofs.YtoemnccklakkeaaDoor
