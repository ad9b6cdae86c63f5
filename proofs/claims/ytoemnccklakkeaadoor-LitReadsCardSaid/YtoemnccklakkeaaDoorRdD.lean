/-
  Printable texts; the names of the codes; lit's reader: str.
-/
import Derived.Test.YtoemnccklakkeaaDoorRdC
import Derived.Laws.AppendOwn
import Derived.OwnWalk
import Derived.Laws.IdiomStrings
import Derived.Laws.BytesArg
import Derived.Handy
namespace Go.Proofs.YtoemnccklakkeaaDoor
open Go.RowKit Go.Lib

theorem take_snoc (s : ByteArray) (k : Nat) (h : k < s.size) : s.data.toList.take (k + 1) = s.data.toList.take k ++ [s[k]] := by
  rw [List.take_succ_eq_append_getElem (by simpa using h)]; rfl

/-- May a byte stand in a text? -/
def prC (c : UInt8) : Bool := decide (32 ≤ c.toNat ∧ c.toNat ≤ 126)
def prB (l : List UInt8) : Bool := l.all prC

theorem prB_bad (s : ByteArray) (k : Nat) (h0 : k < s.size) (h1 : (s[k].toNat : Int) < 32 ∨ 126 < (s[k].toNat : Int)) : prB s.data.toList = false := by
  rw [Bool.eq_false_iff]
  intro hn
  unfold prB at hn
  rw [List.all_eq_true] at hn
  have := hn s[k] (by show s.data[k] ∈ s.data.toList; simp)
  simp only [prC, decide_eq_true_eq] at this
  omega

set_option maxHeartbeats 400000 in
theorem printable_c (s : ByteArray) (w : World) (hs : s.size ≤ 140737488351232) :
    Calls Tryd.prog 87 #[.string s] w fun e w' => e = .returned (.bool (prB s.data.toList)) ∧ w = w' := by
  go_enter Tryd.func87, Tryd.ntmps87
  go_wp2
  go_loop [6] (fun i => ∃ k : Nat, k ≤ s.size ∧ i = .int .i64 k ∧ Hid (prB (s.data.toList.take k) = true)) (fun i => s.size - (intOf i).toNat)
  case atStart => exact ⟨0, Nat.zero_le _, rfl, rfl⟩
  case round =>
    obtain ⟨k, hk, rfl, hall⟩ := hrel
    by_cases hlt : k < s.size
    · have hts := Lib.hid (take_snoc s k hlt)
      go_wp2
      all_goals first
        | (go_ret
           exact ⟨ret_bool (prB_bad s k hlt (by omega)).symm, rfl⟩)
        | (refine ⟨⟨k + 1, by omega, by go_num, ?_⟩, by simp [intOf]; omega⟩
           show prB _ = true
           have hx := hall.out
           unfold prB at hx ⊢
           rw [hts.out, List.all_append, hx, List.all_cons, show prC s[k] = true from decide_eq_true (by omega)]
           rfl)
    · obtain rfl : k = s.size := by omega
      go_wp2
      go_ret
      refine ⟨ret_bool ?_, rfl⟩
      have := hall.out
      rw [List.take_of_length_le (by simp)] at this
      exact this.symm

/-- One byte as a text. -/
theorem one_text (B : Nat) (c : UInt8) (W : World) (h : W.cell? ⟨B, 0, none⟩ = some (.int .u8 c.toNat)) :
    (convert 109 9 (.slice (some ⟨B, 0, none⟩) 1 1)).run Tryd.prog W = .ok (.string ⟨#[c]⟩) W :=
  run_convert_bytes_back W _ _ 5 ⟨B, 0, none⟩ 1 [c] Tryd.underlying109 Tryd.underlying5 Tryd.underlying9 (fun j hj => by
    obtain rfl : j = 0 := by simpa using hj
    exact h)

/-- The bytes of a text in quotes: the place, whether all is right, what was read. -/
def strLoop (s : ByteArray) : Nat → Nat → List UInt8 → Nat × Bool × List UInt8
  | 0, i, l => (i, true, l)
  | f + 1, i, l =>
    if pk s i = 34 then (i, true, l)
    else if pk s i = 92 then
      if pk s (i + 1) = 34 ∨ pk s (i + 1) = 92 then strLoop s f (i + 2) (l ++ [pk s (i + 1)]) else (i + 1, false, l)
    else if prC (pk s i) then strLoop s f (i + 1) (l ++ [pk s i]) else (i, false, l)

theorem Rds.alloc {w1 w2 : World} {R : Nat} {s : ByteArray} {i : Nat} {ok : Bool} (h : Rds w1 w2 R s i ok) (o : Obj) : Rds w1 (w2.alloc o) R s i ok :=
  ⟨(Below.heap_alloc w2 o R h.at_.lt).trans h.at_, ⟨h.grown.os, h.grown.tape, h.grown.output, Nat.le_trans h.grown.size (by simp), fun k hk hne => (Below.heap_alloc w2 o k (Nat.lt_of_lt_of_le hk h.grown.size)).trans (h.grown.block k hk hne)⟩⟩
/-- Behind an append onto a row of the call's own. -/
theorem Rds.append {w1 w2 w3 : World} {R : Nat} {s : ByteArray} {i : Nat} {ok : Bool} {row : Option Nat} (h : Rds w1 w2 R s i ok) (hg : w2.grownBy w3 row) (hR : R < w1.heap.size) (hr : ∀ k, row = some k → w1.heap.size ≤ k) : Rds w1 w3 R s i ok :=
  ⟨(hg.block R h.at_.lt (fun e => by have := hr R e.symm; omega)).trans h.at_,
   ⟨hg.os.trans h.grown.os, hg.tape.trans h.grown.tape, hg.output.trans h.grown.output, Nat.le_trans h.grown.size hg.size,
    fun k hk hne => (hg.block k (Nat.lt_of_lt_of_le hk h.grown.size) (fun e => by have := hr k e.symm; omega)).trans (h.grown.block k hk hne)⟩⟩

theorem u8_info : (Tryd.prog.info? 5).map (fun i => (i.zero, i.size, i.bytes)) = some (some (.int .u8 0), 1, 1) := by kernel_rfl

def u8s (l : List UInt8) : List Value := l.map fun c => Value.int .u8 c.toNat
end Go.Proofs.YtoemnccklakkeaaDoor
