/- Contracts of the functions that the statement reaches, and the plain mathematics beneath: several texts joined. -/
import Derived.Test.YtcnfbdabbnhjlaaDoorCmdE
import Derived.Test.YtcnfbdabbnhjlaaDoorCmdB
import Derived.Deep.RegionHeld3
import Derived.Test.YtcnfbdabbnhjlaaDoorCmdC
import Derived.Test.YtcnfbdabbnhjlaaDoorCmdD
import Derived.Test.YtcnfbdabbnhjlaaDoorRows
import Derived.Stop.LaidErr
import Derived.Lib.LaidTab
import Derived.ProofKit
import Derived.Test.YtcnfbdabbnhjlaaDoorTie
import Derived.Test.YtcnfbdabbnhjlaaDoorCards
import Derived.SevenTiedAt
import Derived.LaidMore
import Derived.Stop.Joined
import Derived.HandedShaped
import Derived.OpenShut
import Derived.ShutString
import Derived.Lay
import Derived.Test.YtcnfbdabbnhjlaaDoorCmdA
namespace Go.Proofs.YtcnfbdabbnhjlaaDoor
open Go.RowKit Go.Lib
set_option linter.unusedVariables false

/-- A row of values of the call's own. -/
structure CInv (base : Nat) (w0 wr : World) (V : Value) (acc : VL) (xs : List Value) : Prop where
  own : wr.ownsRow base 70 4 V acc.len xs
  cells : CellsOf wr (fun b => base ≤ b ∧ b < wr.heap.size ∧ V.ownBlock ≠ some b) acc xs
  below : Below base w0 wr
  size : base ≤ wr.heap.size
theorem CInv.nil (w : World) : CInv w.heap.size w w (.slice none 0 0) .nil [] := ⟨World.ownsRow_nil _ _ _ _, rfl, Below.refl _ _, Nat.le_refl _⟩
theorem CInv.move {base : Nat} {w0 wr w' : World} {V : Value} {acc : VL} {xs : List Value} (h : CInv base w0 wr V acc xs) (hb : Below wr.heap.size wr w') : CInv base w0 w' V acc xs :=
  ⟨own_below h.own hb, h.cells.keep (fun b hb' => hb.block b hb'.2.1) (fun b hb' => ⟨hb'.1, Nat.lt_of_lt_of_le hb'.2.1 hb.size, hb'.2.2⟩), h.below.trans (below_le' hb h.size), Nat.le_trans h.size hb.size⟩
theorem CInv.step {base : Nat} {w0 wr w3 w5 : World} {V V' : Value} {acc : VL} {xs : List Value} (h : CInv base w0 wr V acc xs) (hb : Below wr.heap.size wr w3)
    {k n : Int} {t : ByteArray} {sub : VL} {sa : Option Addr} {sc : Nat} (hsc : sub.len ≤ sc) (hrep : RpL w3 (fun b => wr.heap.size ≤ b ∧ b < w3.heap.size) sub sa) {o1 : Obj}
    (hown : w5.ownsRow base 70 4 V' (acc.len + 1) (xs ++ [.int .i64 k, .int .i64 n, .string t, .slice sa sub.len sc])) (hg : (w3.alloc o1).grownBy w5 V.ownBlock)
    (hob : V'.ownBlock = V.ownBlock ∨ V'.ownBlock = some (w3.alloc o1).heap.size) :
    CInv base w0 w5 V' (acc.app (val1 k n t sub)) (xs ++ [.int .i64 k, .int .i64 n, .string t, .slice sa sub.len sc]) := by
  have h3 := h.move hb
  have hVg : ∀ g, V.ownBlock = some g → base ≤ g ∧ g < wr.heap.size := fun g hg => ⟨own_ge h.own g hg, own_lt h.own g hg⟩
  have hsz : (w3.alloc o1).heap.size = w3.heap.size + 1 := by simp
  have hz5 : w3.heap.size + 1 ≤ w5.heap.size := by have := hg.size; omega
  have hz3 := hb.size
  have hz0 := h.size
  have blk : ∀ b, b < w3.heap.size → V.ownBlock ≠ some b → w5.heap[b]? = w3.heap[b]? := fun b hb hne => by
    have h1 := hg.block b (by omega) (fun e => hne e.symm)
    rw [h1, Below.heap_alloc _ _ _ hb]
  have hV'b : ∀ b, b < w3.heap.size → V.ownBlock ≠ some b → V'.ownBlock ≠ some b := fun b hb hne e => by
    rcases hob with e2 | e2
    · exact hne (e2.symm.trans e)
    · rw [e] at e2
      injection e2 with e2
      omega
  refine ⟨by rw [VL.len_app]; exact hown, ?_, ?_, by omega⟩
  · refine CellsOf.app _ _ _ _ ?_ ⟨sa, sc, [], rfl, hsc, ?_, rfl⟩
    · exact h3.cells.keep (fun b hb => blk b hb.2.1 hb.2.2) (fun b hb => ⟨hb.1, by have := hb.2.1; omega, hV'b b hb.2.1 hb.2.2⟩)
    · have hne : ∀ b, wr.heap.size ≤ b → V.ownBlock ≠ some b := fun b hb e => by have := (hVg b e).2; omega
      exact hrep.keep (fun b hb => blk b hb.2 (hne b hb.1)) (fun b hb => ⟨by have := hb.1; omega, by have := hb.2; omega, hV'b b hb.2 (hne b hb.1)⟩)
  · exact grown_below (h3.below.alloc h3.size o1) (by simp; omega) hg (fun k hk => (hVg k hk).1)
/-- What the row reads as. -/
theorem CInv.rep {base : Nat} {w0 wr : World} {V : Value} {acc : VL} {xs : List Value} (h : CInv base w0 wr V acc xs) : ∃ (sa : Option Addr) (sc : Nat), V = .slice sa acc.len sc ∧ acc.len ≤ sc ∧ RpL wr (fun b => base ≤ b ∧ b < wr.heap.size) acc sa :=
  own_rep h.own (h.cells.keep (fun _ _ => rfl) (fun b hb => ⟨hb.1, hb.2.1⟩)) (fun g hg => ⟨own_ge h.own g hg, own_lt h.own g hg⟩)

/-- A copy comes out. -/
def PCopy (w : World) (k n : Int) (s : ByteArray) (sub : VL) (e : Ending) (w' : World) : Prop :=
  ∃ (sa : Option Addr) (sc : Nat), e = .returned (.agg #[.int .i64 k, .int .i64 n, .string s, .slice sa sub.len sc]) ∧ sub.len ≤ sc ∧ RpL w' (fun b => w.heap.size ≤ b ∧ b < w'.heap.size) sub sa ∧ Below w.heap.size w w'

theorem clone_end {w wr : World} {k n : Int} {s : ByteArray} {sub : VL} {bv : Value} {sb : Option Addr} {cb : Nat} (hb : Below w.heap.size w wr) (hz : w.heap.size + 2 ≤ wr.heap.size) (hr : StB wr (w.heap.size + 1) (.int .i64 0) (.int .i64 0) (.string ⟨#[]⟩) (.slice none 0 0))
    (hbv : bv = .slice sb sub.len cb) (hcb : sub.len ≤ cb) (hrb : RpL wr (fun b => w.heap.size + 2 ≤ b ∧ b < wr.heap.size) sub sb) :
    StB (((((wr.setCell ⟨w.heap.size, 3, none⟩ bv).setCell ⟨w.heap.size + 1, 0, none⟩ (.int .i64 k)).setCell ⟨w.heap.size + 1, 1, none⟩ (.int .i64 n)).setCell ⟨w.heap.size + 1, 2, none⟩ (.string s)).setCell ⟨w.heap.size + 1, 3, none⟩ bv) (w.heap.size + 1) (.int .i64 k) (.int .i64 n) (.string s) bv ∧
    PCopy w k n s sub (.returned (.agg #[.int .i64 k, .int .i64 n, .string s, bv])) (((((wr.setCell ⟨w.heap.size, 3, none⟩ bv).setCell ⟨w.heap.size + 1, 0, none⟩ (.int .i64 k)).setCell ⟨w.heap.size + 1, 1, none⟩ (.int .i64 n)).setCell ⟨w.heap.size + 1, 2, none⟩ (.string s)).setCell ⟨w.heap.size + 1, 3, none⟩ bv) := by
  have hr' : StB (wr.setCell ⟨w.heap.size, 3, none⟩ bv) (w.heap.size + 1) (.int .i64 0) (.int .i64 0) (.string ⟨#[]⟩) (.slice none 0 0) := hr.far (by show w.heap.size + 1 ≠ w.heap.size; omega) _
  have hz1 : (wr.setCell ⟨w.heap.size, 3, none⟩ bv).heap.size = wr.heap.size := by simp [World.setCell]
  have hb1 : Below w.heap.size w (wr.setCell ⟨w.heap.size, 3, none⟩ bv) := Below.setCell hb (show w.heap.size ≤ (⟨w.heap.size, 3, none⟩ : Addr).block from Nat.le_refl _) _
  have hrb1 : RpL (wr.setCell ⟨w.heap.size, 3, none⟩ bv) (fun b => w.heap.size + 2 ≤ b ∧ b < wr.heap.size) sub sb := hrb.keep (fun c hc => Below.heap_setCell _ _ _ _ (by show c ≠ w.heap.size; omega)) (fun c hc => hc)
  exact ⟨hr'.set4 _ _ _ _, sb, cb, by rw [hbv], hcb, hrb1.keep (fun c hc => heap_set4 _ _ _ _ _ _ _ (by omega)) (fun c hc => ⟨by omega, by rw [size_set4, hz1]; exact hc.2⟩), below_set4 hb1 (by omega) _ _ _ _⟩

end Go.Proofs.YtcnfbdabbnhjlaaDoor
namespace Go.Proofs.YtcnfbdabbnhjlaaDoor
open Go.RowKit Go.Lib
set_option linter.unusedVariables false

theorem list_end {w wr : World} {sub : VL} {sb : Option Addr} {cb : Nat} (hb : Below w.heap.size w wr) (hz : w.heap.size + 1 ≤ wr.heap.size) (hr : StB wr w.heap.size (.int .i64 0) (.int .i64 0) (.string ⟨#[]⟩) (.slice none 0 0))
    (hcb : sub.len ≤ cb) (hrb : RpL wr (fun b => w.heap.size + 1 ≤ b ∧ b < wr.heap.size) sub sb) :
    StB ((((wr.setCell ⟨w.heap.size, 0, none⟩ (.int .i64 4)).setCell ⟨w.heap.size, 1, none⟩ (.int .i64 0)).setCell ⟨w.heap.size, 2, none⟩ (.string ⟨#[]⟩)).setCell ⟨w.heap.size, 3, none⟩ (.slice sb sub.len cb)) w.heap.size (.int .i64 4) (.int .i64 0) (.string ⟨#[]⟩) (.slice sb sub.len cb) ∧
    PCopy w 4 0 ⟨#[]⟩ sub (.returned (.agg #[.int .i64 4, .int .i64 0, .string ⟨#[]⟩, .slice sb sub.len cb])) ((((wr.setCell ⟨w.heap.size, 0, none⟩ (.int .i64 4)).setCell ⟨w.heap.size, 1, none⟩ (.int .i64 0)).setCell ⟨w.heap.size, 2, none⟩ (.string ⟨#[]⟩)).setCell ⟨w.heap.size, 3, none⟩ (.slice sb sub.len cb)) :=
  ⟨hr.set4 _ _ _ _, sb, cb, rfl, hcb, hrb.keep (fun c hc => heap_set4 _ _ _ _ _ _ _ (by omega)) (fun c hc => ⟨by omega, by rw [size_set4]; exact hc.2⟩), below_set4 hb (Nat.le_refl _) _ _ _ _⟩

end Go.Proofs.YtcnfbdabbnhjlaaDoor
namespace Go.Proofs.YtcnfbdabbnhjlaaDoor
open Go.RowKit Go.Lib
set_option linter.unusedVariables false

section
variable {w w' : World} {L : Nat} {left : Int}
end

/-- Out of the loop over the items. -/
theorem bne_of {a b : Int} (h : a ≠ b) : (a != b) = true ∧ (a == b) = false := by simp [h]

/-- Where odd goes on to look at a value's kind, and it is not a Str. -/
theorem kind_cases {k n : Int} {s : ByteArray} {len : Nat} (hk : k ≠ 2) :
    (ownE k n s len = 105 ∧ (k < 0 ∨ (0 ≤ k ∧ 4 < k) ∨ (k = 1 ∧ n < -2147483648) ∨ (k = 1 ∧ -2147483648 ≤ n ∧ 2147483647 < n) ∨ (k = 3 ∧ n < 0) ∨ (k = 3 ∧ 0 ≤ n ∧ 14 < n))) ∨
    (ownE k n s len = 103 ∧ ((k = 0 ∧ s.toList.isEmpty = false) ∨ (k = 0 ∧ s.toList.isEmpty = true ∧ 0 < len) ∨ (k = 1 ∧ -2147483648 ≤ n ∧ n ≤ 2147483647 ∧ s.toList.isEmpty = false) ∨ (k = 1 ∧ -2147483648 ≤ n ∧ n ≤ 2147483647 ∧ s.toList.isEmpty = true ∧ 0 < len) ∨
      (k = 3 ∧ 0 ≤ n ∧ n ≤ 14 ∧ s.toList.isEmpty = false) ∨ (k = 3 ∧ 0 ≤ n ∧ n ≤ 14 ∧ s.toList.isEmpty = true ∧ 0 < len) ∨ (k = 4 ∧ n ≠ 0) ∨ (k = 4 ∧ n = 0 ∧ s.toList.isEmpty = false))) ∨
    (ownE k n s len = 0 ∧ s = ⟨#[]⟩ ∧ ((k = 0 ∧ len = 0) ∨ (k = 1 ∧ -2147483648 ≤ n ∧ n ≤ 2147483647 ∧ len = 0) ∨ (k = 3 ∧ 0 ≤ n ∧ n ≤ 14 ∧ len = 0) ∨ (k = 4 ∧ n = 0))) := by
  have hse : (s.toList.isEmpty = true ∧ s.data.toList = [] ∧ s = ⟨#[]⟩) ∨ (s.toList.isEmpty = false ∧ s.data.toList ≠ []) := by
    rw [Lib.toList_data]
    rcases s with ⟨⟨l⟩⟩
    cases l with
    | nil => exact .inl ⟨rfl, rfl, rfl⟩
    | cons a r => exact .inr ⟨rfl, by simp⟩
  unfold ownE
  by_cases h1 : k < 0 ∨ 4 < k
  · rw [if_pos h1]; exact .inl ⟨rfl, by omega⟩
  rw [if_neg h1]
  by_cases h2 : k = 1 ∧ (n < -2147483648 ∨ 2147483647 < n)
  · rw [if_pos h2]; exact .inl ⟨rfl, by omega⟩
  rw [if_neg h2]
  by_cases h3 : k = 3 ∧ (n < 0 ∨ 14 < n)
  · rw [if_pos h3]; exact .inl ⟨rfl, by omega⟩
  rw [if_neg h3]
  right
  have hkk : k = 0 ∨ k = 1 ∨ k = 3 ∨ k = 4 := by omega
  rcases hse with ⟨e1, e2, e3⟩ | ⟨e1, e2⟩
  · by_cases h4 : k ≠ 4 ∧ 0 < len
    · rw [if_pos (.inr (.inl h4))]
      left; refine ⟨rfl, ?_⟩
      simp only [e1]; simp; omega
    · by_cases h5 : k = 4 ∧ n ≠ 0
      · rw [if_pos (.inr (.inr ⟨.inr h5.1, h5.2⟩))]
        left; refine ⟨rfl, ?_⟩
        simp only [e1]; simp; omega
      · rw [if_neg (by rintro (⟨_, h⟩ | h | ⟨h, h'⟩); exact h e2; exact h4 h; rcases h with h | h; exact hk h; exact h5 ⟨h, h'⟩), if_neg (by rw [e2]; decide)]
        right; exact ⟨rfl, e3, by omega⟩
  · rw [if_pos (.inl ⟨hk, e2⟩)]
    left; refine ⟨rfl, ?_⟩
    simp only [e1]; simp; omega
/-- The same of a Str. -/
theorem str_cases {n : Int} {s : ByteArray} {len : Nat} :
    (ownE 2 n s len = 103 ∧ (n ≠ 0 ∨ (n = 0 ∧ 0 < len))) ∨ (ownE 2 n s len = 103 ∧ n = 0 ∧ len = 0 ∧ prB s.data.toList = false) ∨ (ownE 2 n s len = 0 ∧ n = 0 ∧ len = 0 ∧ prB s.data.toList = true) := by
  unfold ownE
  rw [if_neg (by decide), if_neg (by rintro ⟨h, _⟩; cases h), if_neg (by rintro ⟨h, _⟩; cases h)]
  by_cases h : n ≠ 0 ∨ 0 < len
  · rw [if_pos (by rcases h with h | h; exact .inr (.inr ⟨.inl rfl, h⟩); exact .inr (.inl ⟨by decide, h⟩))]
    left; exact ⟨rfl, by omega⟩
  · rw [if_neg (by rintro (⟨h', _⟩ | ⟨_, h'⟩ | ⟨_, h'⟩); exact h' rfl; exact h (.inr h'); exact h (.inl h'))]
    right
    by_cases hp : prB s.data.toList = false
    · rw [if_pos hp]; left; exact ⟨rfl, by omega, by omega, hp⟩
    · rw [if_neg hp]; right; exact ⟨rfl, by omega, by omega, by simpa using hp⟩
end Go.Proofs.YtcnfbdabbnhjlaaDoor
namespace Go.Proofs.YtcnfbdabbnhjlaaDoor
open Go.RowKit Go.Lib
set_option linter.unusedVariables false

/-- A copy of a list comes out. -/
def PList (w : World) (l : VL) (e : Ending) (w' : World) : Prop :=
  ∃ (sa : Option Addr) (sc : Nat), e = .returned (.slice sa l.len sc) ∧ l.len ≤ sc ∧ RpL w' (fun b => w.heap.size ≤ b ∧ b < w'.heap.size) l sa ∧ Below w.heap.size w w'
theorem cell_below {w W : World} (hb : Below w.heap.size w W) {p : Addr} {v : Value} (h : w.cell? p = some v) : W.cell? p = some v := by
  have hlt : p.block < w.heap.size := by
    unfold World.cell? at h
    rcases Nat.lt_or_ge p.block w.heap.size with hlt | hge
    · exact hlt
    · rw [Array.getElem?_eq_none hge] at h; cases h
  exact (World.cell?_of_block (w := w) (hb.block _ hlt)).trans h

theorem value_end {w wr : World} {k n : Int} {s : ByteArray} {sub : VL} {sb : Option Addr} {cb : Nat} (hb : Below w.heap.size w wr) (hz : w.heap.size + 2 ≤ wr.heap.size) (hr : StB wr (w.heap.size + 1) (.int .i64 0) (.int .i64 0) (.string ⟨#[]⟩) (.slice none 0 0))
    (hcb : sub.len ≤ cb) (hrb : RpL wr (fun b => w.heap.size + 2 ≤ b ∧ b < wr.heap.size) sub sb) :
    StB ((((wr.setCell ⟨w.heap.size + 1, 0, none⟩ (.int .i64 k)).setCell ⟨w.heap.size + 1, 1, none⟩ (.int .i64 n)).setCell ⟨w.heap.size + 1, 2, none⟩ (.string s)).setCell ⟨w.heap.size + 1, 3, none⟩ (.slice sb sub.len cb)) (w.heap.size + 1) (.int .i64 k) (.int .i64 n) (.string s) (.slice sb sub.len cb) ∧
    PCopy w k n s sub (.returned (.agg #[.int .i64 k, .int .i64 n, .string s, .slice sb sub.len cb])) ((((wr.setCell ⟨w.heap.size + 1, 0, none⟩ (.int .i64 k)).setCell ⟨w.heap.size + 1, 1, none⟩ (.int .i64 n)).setCell ⟨w.heap.size + 1, 2, none⟩ (.string s)).setCell ⟨w.heap.size + 1, 3, none⟩ (.slice sb sub.len cb)) :=
  ⟨hr.set4 _ _ _ _, sb, cb, rfl, hcb, hrb.keep (fun c hc => heap_set4 _ _ _ _ _ _ _ (by omega)) (fun c hc => ⟨by omega, by rw [size_set4]; exact hc.2⟩), below_set4 hb (by omega) _ _ _ _⟩

end Go.Proofs.YtcnfbdabbnhjlaaDoor
namespace Go.Proofs.YtcnfbdabbnhjlaaDoor
open Go.RowKit Go.Lib
set_option linter.unusedVariables false

end Go.Proofs.YtcnfbdabbnhjlaaDoor
namespace Go.Proofs.YtcnfbdabbnhjlaaDoor
open Go.RowKit Go.Lib
set_option linter.unusedVariables false

/-- Is a value right? -/
def rightB (k n : Int) (s : ByteArray) (sub : VL) : Bool := decide ((walk1 k n s sub 1 4096).1 = 0)
end Go.Proofs.YtcnfbdabbnhjlaaDoor
namespace Go.Proofs.YtcnfbdabbnhjlaaDoor
open Go.RowKit Go.Lib
set_option linter.unusedVariables false

/-- How deep values are, beside what was met. -/
def deepF : VL → Int → Int
  | .nil, a => a
  | .cons k n s sub rest, a => deepF rest (max a ((if k = 4 then deepF sub 0 else 0) + 1))
def dp (k : Int) (sub : VL) : Int := (if k = 4 then deepF sub 0 else 0) + 1
theorem deepF_cons (k n : Int) (s : ByteArray) (sub rest : VL) (a : Int) : deepF (.cons k n s sub rest) a = deepF rest (max a (dp k sub)) := rfl
theorem deepF_bound : ∀ (l : VL) (a : Int), a ≤ deepF l a ∧ deepF l a ≤ max a (cost l)
  | .nil, a => ⟨Int.le_refl _, by rw [deepF]; omega⟩
  | .cons k n s sub rest, a => by
    have h1 := deepF_bound sub 0
    have h2 := deepF_bound rest (max a (dp k sub))
    have hm := mOf_ge k s
    have hc := cost_ge sub
    have hr := cost_ge rest
    rw [deepF_cons, cost]
    have hd : dp k sub ≤ 1 + cost sub := by unfold dp; split <;> omega
    omega
/-- How great values are, beside what was met. -/
def szF : VL → Int → Int
  | .nil, a => a
  | .cons k n s sub rest, a => szF rest (a + (if k = 2 then 1 + (s.size : Int) else if k = 4 then szF sub 1 else 1))
def sz1 (k : Int) (s : ByteArray) (sub : VL) : Int := if k = 2 then 1 + (s.size : Int) else if k = 4 then szF sub 1 else 1
theorem szF_cons (k n : Int) (s : ByteArray) (sub rest : VL) (a : Int) : szF (.cons k n s sub rest) a = szF rest (a + sz1 k s sub) := rfl
theorem szF_bound : ∀ (l : VL) (a : Int), a ≤ szF l a ∧ szF l a ≤ a + cost l
  | .nil, a => ⟨Int.le_refl _, by rw [szF, cost]; omega⟩
  | .cons k n s sub rest, a => by
    have h1 := szF_bound sub 1
    have h2 := szF_bound rest (a + sz1 k s sub)
    have hm := mOf_ge k s
    have hc := cost_ge sub
    rw [szF_cons, cost]
    have hd : 0 ≤ sz1 k s sub ∧ sz1 k s sub ≤ 1 + mOf k s + cost sub := by
      unfold sz1
      by_cases h2 : k = 2
      · rw [if_pos h2]; have : mOf k s = s.size := by unfold mOf; rw [if_pos h2]
        omega
      · rw [if_neg h2]
        split <;> omega
    omega

end Go.Proofs.YtcnfbdabbnhjlaaDoor
namespace Go.Proofs.YtcnfbdabbnhjlaaDoor
open Go.RowKit Go.Lib
set_option linter.unusedVariables false

/-- Fits' code. -/
def fitsV (k : Int) (s : ByteArray) (sub : VL) : Int := if 40 < dp k sub then 9 else if 4096 < sz1 k s sub then 14 else 0
/-- Are all values right? -/
def rightsL : VL → Bool
  | .nil => true
  | .cons k n s sub rest => rightB k n s sub && rightsL rest
theorem rights_cost : ∀ (l : VL), rightsL l = true → cost l ≤ 4096 * (l.len : Int)
  | .nil, _ => by rw [cost, VL.len]; omega
  | .cons k n s sub rest, h => by
    rw [rightsL, Bool.and_eq_true] at h
    have h1 := walk1_cost k n s sub 1 4096 (by omega) (of_decide_eq_true h.1)
    have h2 := rights_cost rest h.2
    rw [cost, VL.len]; omega
/-- A number below another one. -/
def PNum (b : Nat) (w : World) (e : Ending) (w' : World) : Prop := ∃ r : Nat, r < b ∧ e = .returned (.int .i64 r) ∧ w = w'
set_option maxHeartbeats 1000000 in
theorem wnumber_c (n : Int) (b : Nat) (w : World) (hn0 : -9223372036854775808 ≤ n) (hn1 : n ≤ 9223372036854775807) (hb0 : 0 < b) (hb1 : b ≤ 1000000) :
    Calls Tryd.prog 8 #[.int .i64 n, .int .i64 b] w (PNum b w) := by
  have ht1 : Int.tmod n b < b := Int.tmod_lt_of_pos n (by omega)
  have ht0 : -(b : Int) < Int.tmod n b := by
    by_cases h : 0 ≤ n
    · have := Int.tmod_nonneg (b : Int) h; omega
    · have h1 := Int.tmod_lt_of_pos (-n) (show (0 : Int) < (b : Int) by omega)
      rw [Int.neg_tmod] at h1; omega
  have hbz : ((b : Int) == 0) = false := (bne_of (by omega)).2
  by_cases hneg : Int.tmod n b < 0
  · have hd : decide (Int.tmod n b < 0) = true := decide_eq_true hneg
    go_enter Tryd.func8, Tryd.ntmps8
    go_wp2_with fail
    go_ret
    exact ⟨(Int.tmod n b + b).toNat, by omega, ret_int (by omega), rfl⟩
  · have hd : decide (Int.tmod n b < 0) = false := decide_eq_false hneg
    go_enter Tryd.func8, Tryd.ntmps8
    go_wp2_with fail
    go_ret
    exact ⟨(Int.tmod n b).toNat, by omega, ret_int (by omega), rfl⟩
theorem tmod_emod (n : Int) (b : Nat) (hb : 0 < b) : (Int.tmod n b < 0 → n % (b : Int) = Int.tmod n b + b) ∧ (¬ Int.tmod n b < 0 → n % (b : Int) = Int.tmod n b) := by
  have h0 : n % (b : Int) = (Int.tmod n b) % (b : Int) := by
    conv => lhs; rw [← Int.tmod_add_mul_tdiv n b]
    rw [Int.add_mul_emod_self_left]
  have ht1 : Int.tmod n b < b := Int.tmod_lt_of_pos n (by omega)
  have ht0 : -(b : Int) < Int.tmod n b := by
    by_cases h : 0 ≤ n
    · have := Int.tmod_nonneg (b : Int) h; omega
    · have h1 := Int.tmod_lt_of_pos (-n) (show (0 : Int) < (b : Int) by omega)
      rw [Int.neg_tmod] at h1; omega
  refine ⟨fun h => ?_, fun h => ?_⟩
  · rw [h0, ← Int.add_emod_right, Int.emod_eq_of_lt (by omega) (by omega)]
  · rw [h0, Int.emod_eq_of_lt (by omega) (by omega)]
set_option maxHeartbeats 1000000 in
theorem wnumber_e (n : Int) (b : Nat) (w : World) (hn0 : -9223372036854775808 ≤ n) (hn1 : n ≤ 9223372036854775807) (hb0 : 0 < b) (hb1 : b ≤ 1000000) :
    Calls Tryd.prog 8 #[.int .i64 n, .int .i64 b] w fun e w' => e = .returned (.int .i64 (((n % (b : Int)).toNat : Nat) : Int)) ∧ w = w' := by
  have hem := tmod_emod n b hb0
  have hem0 := Int.emod_nonneg n (show (b : Int) ≠ 0 by omega)
  have ht1 : Int.tmod n b < b := Int.tmod_lt_of_pos n (by omega)
  have ht0 : -(b : Int) < Int.tmod n b := by
    by_cases h : 0 ≤ n
    · have := Int.tmod_nonneg (b : Int) h; omega
    · have h1 := Int.tmod_lt_of_pos (-n) (show (0 : Int) < (b : Int) by omega)
      rw [Int.neg_tmod] at h1; omega
  have hbz : ((b : Int) == 0) = false := (bne_of (by omega)).2
  obtain ⟨r, hr⟩ : ∃ r, r = ((n % (b : Int)).toNat : Int) := ⟨_, rfl⟩
  rw [← hr]
  by_cases hneg : Int.tmod n b < 0
  · have hd : decide (Int.tmod n b < 0) = true := decide_eq_true hneg
    have HE := Lib.hid (show Int.tmod n b + b = r by have := hem.1 hneg; omega)
    clear hem hem0 hr
    go_enter Tryd.func8, Tryd.ntmps8
    go_wp2_with fail
    go_ret
    exact ⟨ret_int HE.out, rfl⟩
  · have hd : decide (Int.tmod n b < 0) = false := decide_eq_false hneg
    have HE := Lib.hid (show Int.tmod n b = r by have := hem.2 hneg; omega)
    clear hem hem0 hr
    go_enter Tryd.func8, Tryd.ntmps8
    go_wp2_with fail
    go_ret
    exact ⟨ret_int HE.out, rfl⟩
end Go.Proofs.YtcnfbdabbnhjlaaDoor
namespace Go.Proofs.YtcnfbdabbnhjlaaDoor
open Go.RowKit Go.Lib
set_option linter.unusedVariables false

theorem trim_pad : ∀ (i : Nat) (c : UInt8) (l : List UInt8), c ≠ 32 → Lib.trimLeftB (List.replicate i 32 ++ c :: l) 32 = c :: l
  | 0, c, l, h => by
    show List.dropWhile (· == 32) (c :: l) = c :: l
    rw [List.dropWhile_cons, if_neg (by simpa using h)]
  | i + 1, c, l, h => by
    rw [List.replicate_succ, List.cons_append]
    show List.dropWhile (· == 32) (32 :: (List.replicate i 32 ++ c :: l)) = c :: l
    rw [List.dropWhile_cons, if_pos (by rfl)]
    exact trim_pad i c l h
theorem short_head (i : Nat) (c : UInt8) (l : List UInt8) (h : c ≠ 32) (v : List UInt8) (hv : shortL (c :: l) = v) (hn : v ≠ []) : cmdHead (List.replicate i 32 ++ c :: l) = (v, l, if l ≠ [] then [l] else []) := by
  unfold cmdHead
  simp only [trim_pad i c l h, hv]
  rw [if_pos hn]
  rfl

set_option maxRecDepth 100000 in
set_option maxHeartbeats 4000000 in
theorem cmdShort_c (s : ByteArray) (colon : Bool) (sp : Int) (ea : Nat → Addr) (w : World) (hs0 : -9223372036854775808 ≤ sp) (hs1 : sp ≤ 9223372036854775807) (he : ErrsAt w ea) (ht : SpaceAt w) :
    Calls Tryd.prog 4 #[.string s, .bool colon, .int .i64 sp] w fun e w' => e = .returned (.bool true) ∧ Below w.heap.size w w' := by
  have hroom := he.room
  have F := Lib.hid (cfirst_c ea w he ht)
  have NA := Lib.hid (fun W => wnumber_e sp 4 W hs0 hs1 (by decide) (by decide))
  obtain ⟨k, hk, hk4⟩ : ∃ k : Nat, k = (sp % ((4 : Nat) : Int)).toNat ∧ k < 4 := ⟨_, rfl, by omega⟩
  rw [← hk] at NA
  by_cases hbig : 100 < s.size
  · have hd : (100 : Int) < (s.size : Int) := by omega
    clear hk he ht
    go_enter Tryd.func4, Tryd.ntmps4
    go_wp2_with fail
    refine F.out.mono ?_
    rintro e w2 ⟨rfl, hb2⟩
    have HB2 := Lib.hid hb2
    clear hb2
    go_wp2_with fail
    go_ret
    exact ⟨rfl, HB2.out⟩
  have hd : ¬ (100 : Int) < (s.size : Int) := by omega
  have hss : s.size ≤ 100 := by omega
  have PC := Lib.hid (fun (W : World) (hW : Below w.heap.size w W) (t : ByteArray) (ht_ : t.size ≤ 10000) => parse_c t none 0 0 0 0 obN W (space_below ht hW hroom) (by have := hW.size; omega) (obN_c (he.below hW (by omega))) ht_)
  have HSL := Lib.hid (show s.data.toList.length = s.size by rw [Array.length_toList]; rfl)
  clear hk he ht hbig
  cases colon with
  | false =>
    go_enter Tryd.func4, Tryd.ntmps4
    go_wp2_with fail
    refine F.out.mono ?_
    rintro e w2 ⟨rfl, hb2⟩
    have HB2 := Lib.hid hb2
    clear hb2
    go_wp2_with fail
    go_loopg [8, 9] k (fun kk pv iv wr => ∃ (p : ByteArray) (i : Nat), pv = .string p ∧ iv = .int .i64 (i : Int) ∧ i + kk = k ∧ w2 = wr ∧ Hid (p.data.toList = List.replicate i 32))
    case atStart => exact ⟨⟨#[]⟩, 0, rfl, rfl, by omega, rfl, rfl⟩
    case round =>
      obtain ⟨p, i, rfl, rfl, hk_, rfl, hp⟩ := hrel
      have hpz : p.size = i := by rw [size_listE, hp.out, List.length_replicate]
      have HPZ := Lib.hid hpz
      have hpz2 : p.size ≤ 4 := by omega
      clear hpz
      by_cases hi : i < k
      · obtain ⟨kk, rfl⟩ : ∃ kk, gk = kk + 1 := ⟨gk - 1, by omega⟩
        have HP := Lib.hid (show (p ++ (⟨#[32]⟩ : ByteArray)).data.toList = List.replicate (i + 1) 32 by
          rw [ByteArray.data_append, Array.toList_append, hp.out, List.replicate_succ'])
        clear hp
        go_wp2_with fail
        refine (NA.out _).mono ?_
        rintro e w3 ⟨rfl, rfl⟩
        go_wp2_with fail
        go_roundg kk
        case measure => omega
        case rel => exact ⟨_, i + 1, rfl, by go_num, by omega, rfl, HP.out⟩
      · obtain rfl : i = k := by omega
        have HTX := Lib.hid (show (p ++ (⟨#[34]⟩ : ByteArray) ++ s).data.toList = List.replicate i 32 ++ 34 :: s.data.toList by
          rw [ByteArray.data_append, ByteArray.data_append, Array.toList_append, Array.toList_append, hp.out, List.append_assoc]; rfl)
        have HPC := Lib.hid (fun W hW => by
          have := PC.out W hW (p ++ (⟨#[34]⟩ : ByteArray) ++ s) (by rw [ByteArray.size_append, ByteArray.size_append, show (⟨#[34]⟩ : ByteArray).size = 1 from rfl]; omega)
          unfold CmdOut at this
          rw [HTX.out, short_head i 34 s.data.toList (by decide) [115, 97, 121] rfl (by simp)] at this
          simp only at this
          exact this)
        have hge : ¬ (i : Int) < (i : Int) := by omega
        clear hp HTX PC
        go_wp2_with fail
        refine (NA.out _).mono ?_
        rintro e w3 ⟨rfl, rfl⟩
        go_wp2_with fail
        refine (HPC.out _ HB2.out).mono ?_
        rintro e w4 ⟨A, c, rfl, hc, hst, hb4⟩
        rw [byteArr_mk s]
        have HB4 := Lib.hid (HB2.out.trans (below_le' hb4 HB2.out.size))
        clear hb4
        by_cases hs0 : s.data.toList = []
        · have t1 : s.toList.isEmpty = true := by rw [Lib.toList_data, hs0]; rfl
          have hz : (if s.data.toList ≠ [] then [s.data.toList] else []) = [] := by rw [if_neg (by simp [hs0])]
          rw [hz] at hc hst ⊢
          clear hst hc hz hs0
          go_wp2_with fail
          go_ret
          exact ⟨rfl, HB4.out.alloc HB4.out.size _⟩
        · have t1 : s.toList.isEmpty = false := by rw [Lib.toList_data]; cases hq : s.data.toList with | nil => exact absurd hq hs0 | cons => rfl
          have hz : (if s.data.toList ≠ [] then [s.data.toList] else []) = [s.data.toList] := by rw [if_pos hs0]
          rw [hz] at hc hst ⊢
          obtain ⟨g, o, rfl, hg, hcell⟩ : ∃ g o, A = some ⟨g, o, none⟩ ∧ g < w4.heap.size ∧ ∀ j x, [s.data.toList][j]? = some x → w4.cell? ⟨g, o + j, none⟩ = some (.string ⟨x.toArray⟩) := by
            rcases hst with h | h
            · cases h
            · exact h
          have k0 : w4.cell? ⟨g, o, none⟩ = some (.string s) := by
            have := hcell 0 _ rfl
            rw [byteArr_mk s] at this; exact this
          clear hst hc hz hs0 hcell
          go_wp2_with fail
          go_ret
          exact ⟨rfl, HB4.out.alloc HB4.out.size _⟩
  | true =>
    go_enter Tryd.func4, Tryd.ntmps4
    go_wp2_with fail
    refine F.out.mono ?_
    rintro e w2 ⟨rfl, hb2⟩
    have HB2 := Lib.hid hb2
    clear hb2
    go_wp2_with fail
    go_loopg [8, 9] k (fun kk pv iv wr => ∃ (p : ByteArray) (i : Nat), pv = .string p ∧ iv = .int .i64 (i : Int) ∧ i + kk = k ∧ w2 = wr ∧ Hid (p.data.toList = List.replicate i 32))
    case atStart => exact ⟨⟨#[]⟩, 0, rfl, rfl, by omega, rfl, rfl⟩
    case round =>
      obtain ⟨p, i, rfl, rfl, hk_, rfl, hp⟩ := hrel
      have hpz : p.size = i := by rw [size_listE, hp.out, List.length_replicate]
      have HPZ := Lib.hid hpz
      have hpz2 : p.size ≤ 4 := by omega
      clear hpz
      by_cases hi : i < k
      · obtain ⟨kk, rfl⟩ : ∃ kk, gk = kk + 1 := ⟨gk - 1, by omega⟩
        have HP := Lib.hid (show (p ++ (⟨#[32]⟩ : ByteArray)).data.toList = List.replicate (i + 1) 32 by
          rw [ByteArray.data_append, Array.toList_append, hp.out, List.replicate_succ'])
        clear hp
        go_wp2_with fail
        refine (NA.out _).mono ?_
        rintro e w3 ⟨rfl, rfl⟩
        go_wp2_with fail
        go_roundg kk
        case measure => omega
        case rel => exact ⟨_, i + 1, rfl, by go_num, by omega, rfl, HP.out⟩
      · obtain rfl : i = k := by omega
        have HTX := Lib.hid (show (p ++ (⟨#[58]⟩ : ByteArray) ++ s).data.toList = List.replicate i 32 ++ 58 :: s.data.toList by
          rw [ByteArray.data_append, ByteArray.data_append, Array.toList_append, Array.toList_append, hp.out, List.append_assoc]; rfl)
        have HPC := Lib.hid (fun W hW => by
          have := PC.out W hW (p ++ (⟨#[58]⟩ : ByteArray) ++ s) (by rw [ByteArray.size_append, ByteArray.size_append, show (⟨#[58]⟩ : ByteArray).size = 1 from rfl]; omega)
          unfold CmdOut at this
          rw [HTX.out, short_head i 58 s.data.toList (by decide) [101, 109, 111, 116, 101] rfl (by simp)] at this
          simp only at this
          exact this)
        have hge : ¬ (i : Int) < (i : Int) := by omega
        clear hp HTX PC
        go_wp2_with fail
        refine (NA.out _).mono ?_
        rintro e w3 ⟨rfl, rfl⟩
        go_wp2_with fail
        refine (HPC.out _ HB2.out).mono ?_
        rintro e w4 ⟨A, c, rfl, hc, hst, hb4⟩
        rw [byteArr_mk s]
        have HB4 := Lib.hid (HB2.out.trans (below_le' hb4 HB2.out.size))
        clear hb4
        by_cases hs0 : s.data.toList = []
        · have t1 : s.toList.isEmpty = true := by rw [Lib.toList_data, hs0]; rfl
          have hz : (if s.data.toList ≠ [] then [s.data.toList] else []) = [] := by rw [if_neg (by simp [hs0])]
          rw [hz] at hc hst ⊢
          clear hst hc hz hs0
          go_wp2_with fail
          go_ret
          exact ⟨rfl, HB4.out.alloc HB4.out.size _⟩
        · have t1 : s.toList.isEmpty = false := by rw [Lib.toList_data]; cases hq : s.data.toList with | nil => exact absurd hq hs0 | cons => rfl
          have hz : (if s.data.toList ≠ [] then [s.data.toList] else []) = [s.data.toList] := by rw [if_pos hs0]
          rw [hz] at hc hst ⊢
          obtain ⟨g, o, rfl, hg, hcell⟩ : ∃ g o, A = some ⟨g, o, none⟩ ∧ g < w4.heap.size ∧ ∀ j x, [s.data.toList][j]? = some x → w4.cell? ⟨g, o + j, none⟩ = some (.string ⟨x.toArray⟩) := by
            rcases hst with h | h
            · cases h
            · exact h
          have k0 : w4.cell? ⟨g, o, none⟩ = some (.string s) := by
            have := hcell 0 _ rfl
            rw [byteArr_mk s] at this; exact this
          clear hst hc hz hs0 hcell
          go_wp2_with fail
          go_ret
          exact ⟨rfl, HB4.out.alloc HB4.out.size _⟩
end Go.Proofs.YtcnfbdabbnhjlaaDoor
namespace Go.Proofs.YtcnfbdabbnhjlaaDoor
open Go.RowKit Go.Lib
set_option linter.unusedVariables false

theorem star_err : "*" ++ "errors.errorString" = "*errors.errorString" := by decide
theorem row_err (u : TypeId) (h : Tryd.prog.typeName? 3 u = some "*errors.errorString") : u = 157 :=
  typeName_ptr_named (nm := "errors.errorString") (by rw [star_err]; kernel_rfl) (by kernel_rfl) (by decide) u (by rw [star_err]; exact h)
/-- A sentinel that heads the list: its variable's cell. -/
theorem sent_at {n : String} {text : List UInt8} {r : List (String × DataW Unit)} {W : World} (g : Nat) (h : laidMet Tryd.prog ((n, .iface "*errors.errorString" (.ptr (.agg [.lit (.string text)]))) :: r) W)
    (hg : Tryd.prog.globalNamed n = some g) (ht : (Tryd.prog.globals[g]?).map (·.type) = some 64) : ∃ a : Addr, W.cell? ⟨g, 0, none⟩ = some (.iface 157 (.pointer (some a))) := by
  obtain ⟨a, s, hv, _⟩ := laid_sentinel h hg ht Tryd.underlying64 row_err Tryd.underlying157 Tryd.underlying171 rfl rfl Tryd.underlying9 (by kernel_rfl) (by kernel_rfl)
  exact ⟨a, by simpa using World.var?_cell hg hv 0⟩
end Go.Proofs.YtcnfbdabbnhjlaaDoor
namespace Go.Proofs.YtcnfbdabbnhjlaaDoor
open Go.ChangeShapes Go.WideShapes Go.ChangeAt Go.RowKit Go.Lib
open Go.ChangeMaps (open_string shut_string)
set_option linter.unusedVariables false

theorem own_knob : ownKnob Tryd.prog.godebug = none := by kernel_rfl

/-- The kit's wrap with a condition, the world's shape kept. -/
theorem handed_and_shaped {H : Type} {enc : TypeId × Value → H} {a : Assume} {C : Checked} {os : Os} {f : FuncId} {fn : Func} {s : ChangeSpec} {conds : List PathCond} {apart fresh handsOn again : Bool} {X : World → Array Value → Prop}
    (hX : ∀ (w w' : World) (args : Array Value), w.heap = w'.heap → X w args → X w' args)
    (own : ownKnob C.prog.godebug = none) (started : os.Started) (noInit : C.prog.inits.idxOf? f = none) (hfn : C.prog.funcs[f]? = some fn)
    (witness : ∃ (w : World) (tape : Tape) (i : Input), w.os = os ∧ (w.forCall tape i).Shaped C.prog ∧ i.vars = [] ∧ Input.okWide C.prog (w.forCall tape i) .any w.heap.size f i ∧
      ((s.pre enc C.prog fn conds apart (w.forCall tape i).memory i.args ∧ X (w.forCall tape i).memory i.args) ∧ sizedMet enc C.prog fn (OpenSpec.ofChange s) apart (w.forCall tape i).memory i.args) ∧ a.holds C.prog (lone (Frame.enter C.prog f i.args .normal) [] (w.forCall tape i)))
    (contract : ∀ (W : World) (base : Nat) (args : Array Value) (ds gs : List (DataW H)) (before : List MemPlace),
      (∀ (j : Nat) t v, fn.params[j]? = some t → args[j]? = some v → Value.okWide C.prog W .any base t v) →
      DataW.Whole enc C.prog fn.params.toList s.vars apart W args.toList ds gs before →
      (DataW.weightsEach C.prog (fn.params.toList ++ s.plain.varTypes C.prog) (ds ++ gs)).all (· ≤ reachBytes) = true → X W args → W.ShapedOpen C.prog →
      Calls C.prog f args W fun e W' => ∃ v, e = .returned v ∧ s.post enc C.prog fn apart fresh handsOn again W args v W') :
    ReturnsInHanded a C os f .any (fun w args => (s.pre enc C.prog fn conds apart w args ∧ X w args) ∧ sizedMet enc C.prog fn (OpenSpec.ofChange s) apart w args) (s.post enc C.prog fn apart fresh handsOn again) := by
  refine returnsInHanded_of_calls own started noInit witness ?_
  intro w tape i _ hsh _ hok hpre hholds
  obtain ⟨_, _, _, fn', hfn', _, _, _, _, hval⟩ := hok
  have e : fn' = fn := Option.some.inj (hfn'.symm.trans hfn)
  subst e
  obtain ⟨⟨⟨ds, gs, before, hw, hc⟩, hx⟩, hz⟩ := hpre
  have hw' := DataW.Whole.of_heap (w' := w.forCall tape i) (by rfl) hw
  refine (contract (w.forCall tape i) w.heap.size i.args ds gs before hval hw' (hz.weights hw) (hX _ _ _ (by rfl) hx) hsh).mono fun e W' ⟨v, he, hp⟩ => ?_
  subst he
  exact ChangeSpec.post_blind hp

theorem i64_range {a : Int} (h : (Lit.int .i64 a).wf = true) : -9223372036854775808 ≤ a ∧ a ≤ 9223372036854775807 := by
  have e1 : IntKind.i64.min = -9223372036854775808 := by decide
  have e2 : IntKind.i64.max = 9223372036854775807 := by decide
  simp [Lit.wf] at h
  omega
/-- The errors' addresses out of five of them. -/
def eaOf (a b c d e : Addr) (k : Nat) : Addr := if k = 111 then a else if k = 112 then b else if k = 104 then c else if k = 105 then d else e
theorem room_of {W : World} (h : W.ShapedOpen Tryd.prog) : 10 < W.heap.size := by
  have hsome : (((begin Tryd.prog (fun _ _ => 0) default).world.heap[10]?).bind Obj.row?).isSome = true := by kernel_rfl
  obtain ⟨⟨z, t⟩, hz⟩ := Option.isSome_iff_exists.1 hsome
  have hn : Tryd.prog.globals.size = 11 := by kernel_rfl
  obtain ⟨cs, hc, _⟩ := h.1 10 z t (by rw [hn]; decide) hz
  rcases Nat.lt_or_ge 10 W.heap.size with hlt | hge
  · exact hlt
  · rw [Array.getElem?_eq_none hge] at hc; cases hc

end Go.Proofs.YtcnfbdabbnhjlaaDoor
