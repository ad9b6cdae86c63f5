/- Contracts of the functions that the statement reaches, and the plain mathematics beneath: several texts joined. -/
import Derived.Test.YtcnfbdabbnhjlaaDoorCmmE
import Derived.Test.YtcnfbdabbnhjlaaDoorCmmB
import Derived.Deep.RegionHeld3
import Derived.Test.YtcnfbdabbnhjlaaDoorCmmC
import Derived.Test.YtcnfbdabbnhjlaaDoorCmmD
import Derived.Test.YtcnfbdabbnhjlaaDoorRows
import Derived.Stop.LaidErr
import Derived.Lib.LaidTab
import Derived.ProofKit
import Derived.Test.YtcnfbdabbnhjlaaDoorCmmA
namespace Go.Proofs.YtcnfbdabbnhjlaaDoor
open Go.RowKit Go.Lib
set_option linter.unusedVariables false

/-- A row of values of the call's own. -/
structure CInv (base : Nat) (w0 wr : World) (V : Value) (acc : VL) (xs : List Value) : Prop where
  own : wr.ownsRow base 70 4 V acc.len xs
  cells : CellsOf wr (fun b => base ≤ b ∧ b < wr.heap.size ∧ V.ownBlock ≠ some b) acc xs
  below : Below base w0 wr
  size : base ≤ wr.heap.size
theorem CInv.nil (w : World) : CInv w.heap.size w w (.slice none 0 0) .nil [] := ⟨World.ownsRow_nil _ _ _ _, rfl, Below.refl _ _, Nat.le_refl _⟩
theorem CInv.move {base : Nat} {w0 wr w' : World} {V : Value} {acc : VL} {xs : List Value} (h : CInv base w0 wr V acc xs) (hb : Below wr.heap.size wr w') : CInv base w0 w' V acc xs :=
  ⟨own_below h.own hb, h.cells.keep (fun b hb' => hb.block b hb'.2.1) (fun b hb' => ⟨hb'.1, Nat.lt_of_lt_of_le hb'.2.1 hb.size, hb'.2.2⟩), h.below.trans (below_le' hb h.size), Nat.le_trans h.size hb.size⟩
theorem CInv.step {base : Nat} {w0 wr w3 w5 : World} {V V' : Value} {acc : VL} {xs : List Value} (h : CInv base w0 wr V acc xs) (hb : Below wr.heap.size wr w3)
    {k n : Int} {t : ByteArray} {sub : VL} {sa : Option Addr} {sc : Nat} (hsc : sub.len ≤ sc) (hrep : RpL w3 (fun b => wr.heap.size ≤ b ∧ b < w3.heap.size) sub sa) {o1 : Obj}
    (hown : w5.ownsRow base 70 4 V' (acc.len + 1) (xs ++ [.int .i64 k, .int .i64 n, .string t, .slice sa sub.len sc])) (hg : (w3.alloc o1).grownBy w5 V.ownBlock)
    (hob : V'.ownBlock = V.ownBlock ∨ V'.ownBlock = some (w3.alloc o1).heap.size) :
    CInv base w0 w5 V' (acc.app (val1 k n t sub)) (xs ++ [.int .i64 k, .int .i64 n, .string t, .slice sa sub.len sc]) := by
  have h3 := h.move hb
  have hVg : ∀ g, V.ownBlock = some g → base ≤ g ∧ g < wr.heap.size := fun g hg => ⟨own_ge h.own g hg, own_lt h.own g hg⟩
  have hsz : (w3.alloc o1).heap.size = w3.heap.size + 1 := by simp
  have hz5 : w3.heap.size + 1 ≤ w5.heap.size := by have := hg.size; omega
  have hz3 := hb.size
  have hz0 := h.size
  have blk : ∀ b, b < w3.heap.size → V.ownBlock ≠ some b → w5.heap[b]? = w3.heap[b]? := fun b hb hne => by
    have h1 := hg.block b (by omega) (fun e => hne e.symm)
    rw [h1, Below.heap_alloc _ _ _ hb]
  have hV'b : ∀ b, b < w3.heap.size → V.ownBlock ≠ some b → V'.ownBlock ≠ some b := fun b hb hne e => by
    rcases hob with e2 | e2
    · exact hne (e2.symm.trans e)
    · rw [e] at e2
      injection e2 with e2
      omega
  refine ⟨by rw [VL.len_app]; exact hown, ?_, ?_, by omega⟩
  · refine CellsOf.app _ _ _ _ ?_ ⟨sa, sc, [], rfl, hsc, ?_, rfl⟩
    · exact h3.cells.keep (fun b hb => blk b hb.2.1 hb.2.2) (fun b hb => ⟨hb.1, by have := hb.2.1; omega, hV'b b hb.2.1 hb.2.2⟩)
    · have hne : ∀ b, wr.heap.size ≤ b → V.ownBlock ≠ some b := fun b hb e => by have := (hVg b e).2; omega
      exact hrep.keep (fun b hb => blk b hb.2 (hne b hb.1)) (fun b hb => ⟨by have := hb.1; omega, by have := hb.2; omega, hV'b b hb.2 (hne b hb.1)⟩)
  · exact grown_below (h3.below.alloc h3.size o1) (by simp; omega) hg (fun k hk => (hVg k hk).1)
/-- What the row reads as. -/
theorem CInv.rep {base : Nat} {w0 wr : World} {V : Value} {acc : VL} {xs : List Value} (h : CInv base w0 wr V acc xs) : ∃ (sa : Option Addr) (sc : Nat), V = .slice sa acc.len sc ∧ acc.len ≤ sc ∧ RpL wr (fun b => base ≤ b ∧ b < wr.heap.size) acc sa :=
  own_rep h.own (h.cells.keep (fun _ _ => rfl) (fun b hb => ⟨hb.1, hb.2.1⟩)) (fun g hg => ⟨own_ge h.own g hg, own_lt h.own g hg⟩)

/-- A copy comes out. -/
def PCopy (w : World) (k n : Int) (s : ByteArray) (sub : VL) (e : Ending) (w' : World) : Prop :=
  ∃ (sa : Option Addr) (sc : Nat), e = .returned (.agg #[.int .i64 k, .int .i64 n, .string s, .slice sa sub.len sc]) ∧ sub.len ≤ sc ∧ RpL w' (fun b => w.heap.size ≤ b ∧ b < w'.heap.size) sub sa ∧ Below w.heap.size w w'

theorem clone_end {w wr : World} {k n : Int} {s : ByteArray} {sub : VL} {bv : Value} {sb : Option Addr} {cb : Nat} (hb : Below w.heap.size w wr) (hz : w.heap.size + 2 ≤ wr.heap.size) (hr : StB wr (w.heap.size + 1) (.int .i64 0) (.int .i64 0) (.string ⟨#[]⟩) (.slice none 0 0))
    (hbv : bv = .slice sb sub.len cb) (hcb : sub.len ≤ cb) (hrb : RpL wr (fun b => w.heap.size + 2 ≤ b ∧ b < wr.heap.size) sub sb) :
    StB (((((wr.setCell ⟨w.heap.size, 3, none⟩ bv).setCell ⟨w.heap.size + 1, 0, none⟩ (.int .i64 k)).setCell ⟨w.heap.size + 1, 1, none⟩ (.int .i64 n)).setCell ⟨w.heap.size + 1, 2, none⟩ (.string s)).setCell ⟨w.heap.size + 1, 3, none⟩ bv) (w.heap.size + 1) (.int .i64 k) (.int .i64 n) (.string s) bv ∧
    PCopy w k n s sub (.returned (.agg #[.int .i64 k, .int .i64 n, .string s, bv])) (((((wr.setCell ⟨w.heap.size, 3, none⟩ bv).setCell ⟨w.heap.size + 1, 0, none⟩ (.int .i64 k)).setCell ⟨w.heap.size + 1, 1, none⟩ (.int .i64 n)).setCell ⟨w.heap.size + 1, 2, none⟩ (.string s)).setCell ⟨w.heap.size + 1, 3, none⟩ bv) := by
  have hr' : StB (wr.setCell ⟨w.heap.size, 3, none⟩ bv) (w.heap.size + 1) (.int .i64 0) (.int .i64 0) (.string ⟨#[]⟩) (.slice none 0 0) := hr.far (by show w.heap.size + 1 ≠ w.heap.size; omega) _
  have hz1 : (wr.setCell ⟨w.heap.size, 3, none⟩ bv).heap.size = wr.heap.size := by simp [World.setCell]
  have hb1 : Below w.heap.size w (wr.setCell ⟨w.heap.size, 3, none⟩ bv) := Below.setCell hb (show w.heap.size ≤ (⟨w.heap.size, 3, none⟩ : Addr).block from Nat.le_refl _) _
  have hrb1 : RpL (wr.setCell ⟨w.heap.size, 3, none⟩ bv) (fun b => w.heap.size + 2 ≤ b ∧ b < wr.heap.size) sub sb := hrb.keep (fun c hc => Below.heap_setCell _ _ _ _ (by show c ≠ w.heap.size; omega)) (fun c hc => hc)
  exact ⟨hr'.set4 _ _ _ _, sb, cb, by rw [hbv], hcb, hrb1.keep (fun c hc => heap_set4 _ _ _ _ _ _ _ (by omega)) (fun c hc => ⟨by omega, by rw [size_set4, hz1]; exact hc.2⟩), below_set4 hb1 (by omega) _ _ _ _⟩

end Go.Proofs.YtcnfbdabbnhjlaaDoor
namespace Go.Proofs.YtcnfbdabbnhjlaaDoor
open Go.RowKit Go.Lib
set_option linter.unusedVariables false

theorem list_end {w wr : World} {sub : VL} {sb : Option Addr} {cb : Nat} (hb : Below w.heap.size w wr) (hz : w.heap.size + 1 ≤ wr.heap.size) (hr : StB wr w.heap.size (.int .i64 0) (.int .i64 0) (.string ⟨#[]⟩) (.slice none 0 0))
    (hcb : sub.len ≤ cb) (hrb : RpL wr (fun b => w.heap.size + 1 ≤ b ∧ b < wr.heap.size) sub sb) :
    StB ((((wr.setCell ⟨w.heap.size, 0, none⟩ (.int .i64 4)).setCell ⟨w.heap.size, 1, none⟩ (.int .i64 0)).setCell ⟨w.heap.size, 2, none⟩ (.string ⟨#[]⟩)).setCell ⟨w.heap.size, 3, none⟩ (.slice sb sub.len cb)) w.heap.size (.int .i64 4) (.int .i64 0) (.string ⟨#[]⟩) (.slice sb sub.len cb) ∧
    PCopy w 4 0 ⟨#[]⟩ sub (.returned (.agg #[.int .i64 4, .int .i64 0, .string ⟨#[]⟩, .slice sb sub.len cb])) ((((wr.setCell ⟨w.heap.size, 0, none⟩ (.int .i64 4)).setCell ⟨w.heap.size, 1, none⟩ (.int .i64 0)).setCell ⟨w.heap.size, 2, none⟩ (.string ⟨#[]⟩)).setCell ⟨w.heap.size, 3, none⟩ (.slice sb sub.len cb)) :=
  ⟨hr.set4 _ _ _ _, sb, cb, rfl, hcb, hrb.keep (fun c hc => heap_set4 _ _ _ _ _ _ _ (by omega)) (fun c hc => ⟨by omega, by rw [size_set4]; exact hc.2⟩), below_set4 hb (Nat.le_refl _) _ _ _ _⟩

end Go.Proofs.YtcnfbdabbnhjlaaDoor
namespace Go.Proofs.YtcnfbdabbnhjlaaDoor
open Go.RowKit Go.Lib
set_option linter.unusedVariables false

section
variable {w w' : World} {L : Nat} {left : Int}
end

/-- Out of the loop over the items. -/
theorem bne_of {a b : Int} (h : a ≠ b) : (a != b) = true ∧ (a == b) = false := by simp [h]

/-- Where odd goes on to look at a value's kind, and it is not a Str. -/
theorem kind_cases {k n : Int} {s : ByteArray} {len : Nat} (hk : k ≠ 2) :
    (ownE k n s len = 105 ∧ (k < 0 ∨ (0 ≤ k ∧ 4 < k) ∨ (k = 1 ∧ n < -2147483648) ∨ (k = 1 ∧ -2147483648 ≤ n ∧ 2147483647 < n) ∨ (k = 3 ∧ n < 0) ∨ (k = 3 ∧ 0 ≤ n ∧ 14 < n))) ∨
    (ownE k n s len = 103 ∧ ((k = 0 ∧ s.toList.isEmpty = false) ∨ (k = 0 ∧ s.toList.isEmpty = true ∧ 0 < len) ∨ (k = 1 ∧ -2147483648 ≤ n ∧ n ≤ 2147483647 ∧ s.toList.isEmpty = false) ∨ (k = 1 ∧ -2147483648 ≤ n ∧ n ≤ 2147483647 ∧ s.toList.isEmpty = true ∧ 0 < len) ∨
      (k = 3 ∧ 0 ≤ n ∧ n ≤ 14 ∧ s.toList.isEmpty = false) ∨ (k = 3 ∧ 0 ≤ n ∧ n ≤ 14 ∧ s.toList.isEmpty = true ∧ 0 < len) ∨ (k = 4 ∧ n ≠ 0) ∨ (k = 4 ∧ n = 0 ∧ s.toList.isEmpty = false))) ∨
    (ownE k n s len = 0 ∧ s = ⟨#[]⟩ ∧ ((k = 0 ∧ len = 0) ∨ (k = 1 ∧ -2147483648 ≤ n ∧ n ≤ 2147483647 ∧ len = 0) ∨ (k = 3 ∧ 0 ≤ n ∧ n ≤ 14 ∧ len = 0) ∨ (k = 4 ∧ n = 0))) := by
  have hse : (s.toList.isEmpty = true ∧ s.data.toList = [] ∧ s = ⟨#[]⟩) ∨ (s.toList.isEmpty = false ∧ s.data.toList ≠ []) := by
    rw [Lib.toList_data]
    rcases s with ⟨⟨l⟩⟩
    cases l with
    | nil => exact .inl ⟨rfl, rfl, rfl⟩
    | cons a r => exact .inr ⟨rfl, by simp⟩
  unfold ownE
  by_cases h1 : k < 0 ∨ 4 < k
  · rw [if_pos h1]; exact .inl ⟨rfl, by omega⟩
  rw [if_neg h1]
  by_cases h2 : k = 1 ∧ (n < -2147483648 ∨ 2147483647 < n)
  · rw [if_pos h2]; exact .inl ⟨rfl, by omega⟩
  rw [if_neg h2]
  by_cases h3 : k = 3 ∧ (n < 0 ∨ 14 < n)
  · rw [if_pos h3]; exact .inl ⟨rfl, by omega⟩
  rw [if_neg h3]
  right
  have hkk : k = 0 ∨ k = 1 ∨ k = 3 ∨ k = 4 := by omega
  rcases hse with ⟨e1, e2, e3⟩ | ⟨e1, e2⟩
  · by_cases h4 : k ≠ 4 ∧ 0 < len
    · rw [if_pos (.inr (.inl h4))]
      left; refine ⟨rfl, ?_⟩
      simp only [e1]; simp; omega
    · by_cases h5 : k = 4 ∧ n ≠ 0
      · rw [if_pos (.inr (.inr ⟨.inr h5.1, h5.2⟩))]
        left; refine ⟨rfl, ?_⟩
        simp only [e1]; simp; omega
      · rw [if_neg (by rintro (⟨_, h⟩ | h | ⟨h, h'⟩); exact h e2; exact h4 h; rcases h with h | h; exact hk h; exact h5 ⟨h, h'⟩), if_neg (by rw [e2]; decide)]
        right; exact ⟨rfl, e3, by omega⟩
  · rw [if_pos (.inl ⟨hk, e2⟩)]
    left; refine ⟨rfl, ?_⟩
    simp only [e1]; simp; omega
/-- The same of a Str. -/
theorem str_cases {n : Int} {s : ByteArray} {len : Nat} :
    (ownE 2 n s len = 103 ∧ (n ≠ 0 ∨ (n = 0 ∧ 0 < len))) ∨ (ownE 2 n s len = 103 ∧ n = 0 ∧ len = 0 ∧ prB s.data.toList = false) ∨ (ownE 2 n s len = 0 ∧ n = 0 ∧ len = 0 ∧ prB s.data.toList = true) := by
  unfold ownE
  rw [if_neg (by decide), if_neg (by rintro ⟨h, _⟩; cases h), if_neg (by rintro ⟨h, _⟩; cases h)]
  by_cases h : n ≠ 0 ∨ 0 < len
  · rw [if_pos (by rcases h with h | h; exact .inr (.inr ⟨.inl rfl, h⟩); exact .inr (.inl ⟨by decide, h⟩))]
    left; exact ⟨rfl, by omega⟩
  · rw [if_neg (by rintro (⟨h', _⟩ | ⟨_, h'⟩ | ⟨_, h'⟩); exact h' rfl; exact h (.inr h'); exact h (.inl h'))]
    right
    by_cases hp : prB s.data.toList = false
    · rw [if_pos hp]; left; exact ⟨rfl, by omega, by omega, hp⟩
    · rw [if_neg hp]; right; exact ⟨rfl, by omega, by omega, by simpa using hp⟩
end Go.Proofs.YtcnfbdabbnhjlaaDoor
namespace Go.Proofs.YtcnfbdabbnhjlaaDoor
open Go.RowKit Go.Lib
set_option linter.unusedVariables false

/-- A copy of a list comes out. -/
def PList (w : World) (l : VL) (e : Ending) (w' : World) : Prop :=
  ∃ (sa : Option Addr) (sc : Nat), e = .returned (.slice sa l.len sc) ∧ l.len ≤ sc ∧ RpL w' (fun b => w.heap.size ≤ b ∧ b < w'.heap.size) l sa ∧ Below w.heap.size w w'
theorem cell_below {w W : World} (hb : Below w.heap.size w W) {p : Addr} {v : Value} (h : w.cell? p = some v) : W.cell? p = some v := by
  have hlt : p.block < w.heap.size := by
    unfold World.cell? at h
    rcases Nat.lt_or_ge p.block w.heap.size with hlt | hge
    · exact hlt
    · rw [Array.getElem?_eq_none hge] at h; cases h
  exact (World.cell?_of_block (w := w) (hb.block _ hlt)).trans h

theorem value_end {w wr : World} {k n : Int} {s : ByteArray} {sub : VL} {sb : Option Addr} {cb : Nat} (hb : Below w.heap.size w wr) (hz : w.heap.size + 2 ≤ wr.heap.size) (hr : StB wr (w.heap.size + 1) (.int .i64 0) (.int .i64 0) (.string ⟨#[]⟩) (.slice none 0 0))
    (hcb : sub.len ≤ cb) (hrb : RpL wr (fun b => w.heap.size + 2 ≤ b ∧ b < wr.heap.size) sub sb) :
    StB ((((wr.setCell ⟨w.heap.size + 1, 0, none⟩ (.int .i64 k)).setCell ⟨w.heap.size + 1, 1, none⟩ (.int .i64 n)).setCell ⟨w.heap.size + 1, 2, none⟩ (.string s)).setCell ⟨w.heap.size + 1, 3, none⟩ (.slice sb sub.len cb)) (w.heap.size + 1) (.int .i64 k) (.int .i64 n) (.string s) (.slice sb sub.len cb) ∧
    PCopy w k n s sub (.returned (.agg #[.int .i64 k, .int .i64 n, .string s, .slice sb sub.len cb])) ((((wr.setCell ⟨w.heap.size + 1, 0, none⟩ (.int .i64 k)).setCell ⟨w.heap.size + 1, 1, none⟩ (.int .i64 n)).setCell ⟨w.heap.size + 1, 2, none⟩ (.string s)).setCell ⟨w.heap.size + 1, 3, none⟩ (.slice sb sub.len cb)) :=
  ⟨hr.set4 _ _ _ _, sb, cb, rfl, hcb, hrb.keep (fun c hc => heap_set4 _ _ _ _ _ _ _ (by omega)) (fun c hc => ⟨by omega, by rw [size_set4]; exact hc.2⟩), below_set4 hb (by omega) _ _ _ _⟩

end Go.Proofs.YtcnfbdabbnhjlaaDoor
namespace Go.Proofs.YtcnfbdabbnhjlaaDoor
open Go.RowKit Go.Lib
set_option linter.unusedVariables false

end Go.Proofs.YtcnfbdabbnhjlaaDoor
namespace Go.Proofs.YtcnfbdabbnhjlaaDoor
open Go.RowKit Go.Lib
set_option linter.unusedVariables false

/-- Is a value right? -/
def rightB (k n : Int) (s : ByteArray) (sub : VL) : Bool := decide ((walk1 k n s sub 1 4096).1 = 0)
end Go.Proofs.YtcnfbdabbnhjlaaDoor
namespace Go.Proofs.YtcnfbdabbnhjlaaDoor
open Go.RowKit Go.Lib
set_option linter.unusedVariables false

/-- How deep values are, beside what was met. -/
def deepF : VL → Int → Int
  | .nil, a => a
  | .cons k n s sub rest, a => deepF rest (max a ((if k = 4 then deepF sub 0 else 0) + 1))
def dp (k : Int) (sub : VL) : Int := (if k = 4 then deepF sub 0 else 0) + 1
theorem deepF_cons (k n : Int) (s : ByteArray) (sub rest : VL) (a : Int) : deepF (.cons k n s sub rest) a = deepF rest (max a (dp k sub)) := rfl
theorem deepF_bound : ∀ (l : VL) (a : Int), a ≤ deepF l a ∧ deepF l a ≤ max a (cost l)
  | .nil, a => ⟨Int.le_refl _, by rw [deepF]; omega⟩
  | .cons k n s sub rest, a => by
    have h1 := deepF_bound sub 0
    have h2 := deepF_bound rest (max a (dp k sub))
    have hm := mOf_ge k s
    have hc := cost_ge sub
    have hr := cost_ge rest
    rw [deepF_cons, cost]
    have hd : dp k sub ≤ 1 + cost sub := by unfold dp; split <;> omega
    omega
/-- How great values are, beside what was met. -/
def szF : VL → Int → Int
  | .nil, a => a
  | .cons k n s sub rest, a => szF rest (a + (if k = 2 then 1 + (s.size : Int) else if k = 4 then szF sub 1 else 1))
def sz1 (k : Int) (s : ByteArray) (sub : VL) : Int := if k = 2 then 1 + (s.size : Int) else if k = 4 then szF sub 1 else 1
theorem szF_cons (k n : Int) (s : ByteArray) (sub rest : VL) (a : Int) : szF (.cons k n s sub rest) a = szF rest (a + sz1 k s sub) := rfl
theorem szF_bound : ∀ (l : VL) (a : Int), a ≤ szF l a ∧ szF l a ≤ a + cost l
  | .nil, a => ⟨Int.le_refl _, by rw [szF, cost]; omega⟩
  | .cons k n s sub rest, a => by
    have h1 := szF_bound sub 1
    have h2 := szF_bound rest (a + sz1 k s sub)
    have hm := mOf_ge k s
    have hc := cost_ge sub
    rw [szF_cons, cost]
    have hd : 0 ≤ sz1 k s sub ∧ sz1 k s sub ≤ 1 + mOf k s + cost sub := by
      unfold sz1
      by_cases h2 : k = 2
      · rw [if_pos h2]; have : mOf k s = s.size := by unfold mOf; rw [if_pos h2]
        omega
      · rw [if_neg h2]
        split <;> omega
    omega

end Go.Proofs.YtcnfbdabbnhjlaaDoor
namespace Go.Proofs.YtcnfbdabbnhjlaaDoor
open Go.RowKit Go.Lib
set_option linter.unusedVariables false

/-- Fits' code. -/
def fitsV (k : Int) (s : ByteArray) (sub : VL) : Int := if 40 < dp k sub then 9 else if 4096 < sz1 k s sub then 14 else 0
/-- Are all values right? -/
def rightsL : VL → Bool
  | .nil => true
  | .cons k n s sub rest => rightB k n s sub && rightsL rest
theorem rights_cost : ∀ (l : VL), rightsL l = true → cost l ≤ 4096 * (l.len : Int)
  | .nil, _ => by rw [cost, VL.len]; omega
  | .cons k n s sub rest, h => by
    rw [rightsL, Bool.and_eq_true] at h
    have h1 := walk1_cost k n s sub 1 4096 (by omega) (of_decide_eq_true h.1)
    have h2 := rights_cost rest h.2
    rw [cost, VL.len]; omega
/-- A number below another one. -/
def PNum (b : Nat) (w : World) (e : Ending) (w' : World) : Prop := ∃ r : Nat, r < b ∧ e = .returned (.int .i64 r) ∧ w = w'
set_option maxHeartbeats 1000000 in
theorem wnumber_c (n : Int) (b : Nat) (w : World) (hn0 : -9223372036854775808 ≤ n) (hn1 : n ≤ 9223372036854775807) (hb0 : 0 < b) (hb1 : b ≤ 1000000) :
    Calls Tryd.prog 8 #[.int .i64 n, .int .i64 b] w (PNum b w) := by
  have ht1 : Int.tmod n b < b := Int.tmod_lt_of_pos n (by omega)
  have ht0 : -(b : Int) < Int.tmod n b := by
    by_cases h : 0 ≤ n
    · have := Int.tmod_nonneg (b : Int) h; omega
    · have h1 := Int.tmod_lt_of_pos (-n) (show (0 : Int) < (b : Int) by omega)
      rw [Int.neg_tmod] at h1; omega
  have hbz : ((b : Int) == 0) = false := (bne_of (by omega)).2
  by_cases hneg : Int.tmod n b < 0
  · have hd : decide (Int.tmod n b < 0) = true := decide_eq_true hneg
    go_enter Tryd.func8, Tryd.ntmps8
    go_wp2_with fail
    go_ret
    exact ⟨(Int.tmod n b + b).toNat, by omega, ret_int (by omega), rfl⟩
  · have hd : decide (Int.tmod n b < 0) = false := decide_eq_false hneg
    go_enter Tryd.func8, Tryd.ntmps8
    go_wp2_with fail
    go_ret
    exact ⟨(Int.tmod n b).toNat, by omega, ret_int (by omega), rfl⟩
theorem tmod_emod (n : Int) (b : Nat) (hb : 0 < b) : (Int.tmod n b < 0 → n % (b : Int) = Int.tmod n b + b) ∧ (¬ Int.tmod n b < 0 → n % (b : Int) = Int.tmod n b) := by
  have h0 : n % (b : Int) = (Int.tmod n b) % (b : Int) := by
    conv => lhs; rw [← Int.tmod_add_mul_tdiv n b]
    rw [Int.add_mul_emod_self_left]
  have ht1 : Int.tmod n b < b := Int.tmod_lt_of_pos n (by omega)
  have ht0 : -(b : Int) < Int.tmod n b := by
    by_cases h : 0 ≤ n
    · have := Int.tmod_nonneg (b : Int) h; omega
    · have h1 := Int.tmod_lt_of_pos (-n) (show (0 : Int) < (b : Int) by omega)
      rw [Int.neg_tmod] at h1; omega
  refine ⟨fun h => ?_, fun h => ?_⟩
  · rw [h0, ← Int.add_emod_right, Int.emod_eq_of_lt (by omega) (by omega)]
  · rw [h0, Int.emod_eq_of_lt (by omega) (by omega)]
set_option maxHeartbeats 1000000 in
theorem wnumber_e (n : Int) (b : Nat) (w : World) (hn0 : -9223372036854775808 ≤ n) (hn1 : n ≤ 9223372036854775807) (hb0 : 0 < b) (hb1 : b ≤ 1000000) :
    Calls Tryd.prog 8 #[.int .i64 n, .int .i64 b] w fun e w' => e = .returned (.int .i64 (((n % (b : Int)).toNat : Nat) : Int)) ∧ w = w' := by
  have hem := tmod_emod n b hb0
  have hem0 := Int.emod_nonneg n (show (b : Int) ≠ 0 by omega)
  have ht1 : Int.tmod n b < b := Int.tmod_lt_of_pos n (by omega)
  have ht0 : -(b : Int) < Int.tmod n b := by
    by_cases h : 0 ≤ n
    · have := Int.tmod_nonneg (b : Int) h; omega
    · have h1 := Int.tmod_lt_of_pos (-n) (show (0 : Int) < (b : Int) by omega)
      rw [Int.neg_tmod] at h1; omega
  have hbz : ((b : Int) == 0) = false := (bne_of (by omega)).2
  obtain ⟨r, hr⟩ : ∃ r, r = ((n % (b : Int)).toNat : Int) := ⟨_, rfl⟩
  rw [← hr]
  by_cases hneg : Int.tmod n b < 0
  · have hd : decide (Int.tmod n b < 0) = true := decide_eq_true hneg
    have HE := Lib.hid (show Int.tmod n b + b = r by have := hem.1 hneg; omega)
    clear hem hem0 hr
    go_enter Tryd.func8, Tryd.ntmps8
    go_wp2_with fail
    go_ret
    exact ⟨ret_int HE.out, rfl⟩
  · have hd : decide (Int.tmod n b < 0) = false := decide_eq_false hneg
    have HE := Lib.hid (show Int.tmod n b = r by have := hem.2 hneg; omega)
    clear hem hem0 hr
    go_enter Tryd.func8, Tryd.ntmps8
    go_wp2_with fail
    go_ret
    exact ⟨ret_int HE.out, rfl⟩
end Go.Proofs.YtcnfbdabbnhjlaaDoor
namespace Go.Proofs.YtcnfbdabbnhjlaaDoor
open Go.RowKit Go.Lib
set_option linter.unusedVariables false

theorem trim_pad : ∀ (i : Nat) (c : UInt8) (l : List UInt8), c ≠ 32 → Lib.trimLeftB (List.replicate i 32 ++ c :: l) 32 = c :: l
  | 0, c, l, h => by
    show List.dropWhile (· == 32) (c :: l) = c :: l
    rw [List.dropWhile_cons, if_neg (by simpa using h)]
  | i + 1, c, l, h => by
    rw [List.replicate_succ, List.cons_append]
    show List.dropWhile (· == 32) (32 :: (List.replicate i 32 ++ c :: l)) = c :: l
    rw [List.dropWhile_cons, if_pos (by rfl)]
    exact trim_pad i c l h
theorem short_head (i : Nat) (c : UInt8) (l : List UInt8) (h : c ≠ 32) (v : List UInt8) (hv : shortL (c :: l) = v) (hn : v ≠ []) : cmdHead (List.replicate i 32 ++ c :: l) = (v, l, if l ≠ [] then [l] else []) := by
  unfold cmdHead
  simp only [trim_pad i c l h, hv]
  rw [if_pos hn]
  rfl

set_option maxRecDepth 100000 in
set_option maxHeartbeats 4000000 in
theorem cmdShort_c (s : ByteArray) (colon : Bool) (sp : Int) (ea : Nat → Addr) (w : World) (hs0 : -9223372036854775808 ≤ sp) (hs1 : sp ≤ 9223372036854775807) (he : ErrsAt w ea) (ht : SpaceAt w) :
    Calls Tryd.prog 4 #[.string s, .bool colon, .int .i64 sp] w fun e w' => e = .returned (.bool true) ∧ Below w.heap.size w w' := by
  have hroom := he.room
  have F := Lib.hid (cfirst_c ea w he ht)
  have NA := Lib.hid (fun W => wnumber_e sp 4 W hs0 hs1 (by decide) (by decide))
  obtain ⟨k, hk, hk4⟩ : ∃ k : Nat, k = (sp % ((4 : Nat) : Int)).toNat ∧ k < 4 := ⟨_, rfl, by omega⟩
  rw [← hk] at NA
  by_cases hbig : 100 < s.size
  · have hd : (100 : Int) < (s.size : Int) := by omega
    clear hk he ht
    go_enter Tryd.func4, Tryd.ntmps4
    go_wp2_with fail
    refine F.out.mono ?_
    rintro e w2 ⟨rfl, hb2⟩
    have HB2 := Lib.hid hb2
    clear hb2
    go_wp2_with fail
    go_ret
    exact ⟨rfl, HB2.out⟩
  have hd : ¬ (100 : Int) < (s.size : Int) := by omega
  have hss : s.size ≤ 100 := by omega
  have PC := Lib.hid (fun (W : World) (hW : Below w.heap.size w W) (t : ByteArray) (ht_ : t.size ≤ 10000) => parse_c t none 0 0 0 0 obN W (space_below ht hW hroom) (by have := hW.size; omega) (obN_c (he.below hW (by omega))) ht_ (fun _ _ _ _ => trivial))
  have HSL := Lib.hid (show s.data.toList.length = s.size by rw [Array.length_toList]; rfl)
  clear hk he ht hbig
  cases colon with
  | false =>
    go_enter Tryd.func4, Tryd.ntmps4
    go_wp2_with fail
    refine F.out.mono ?_
    rintro e w2 ⟨rfl, hb2⟩
    have HB2 := Lib.hid hb2
    clear hb2
    go_wp2_with fail
    go_loopg [8, 9] k (fun kk pv iv wr => ∃ (p : ByteArray) (i : Nat), pv = .string p ∧ iv = .int .i64 (i : Int) ∧ i + kk = k ∧ w2 = wr ∧ Hid (p.data.toList = List.replicate i 32))
    case atStart => exact ⟨⟨#[]⟩, 0, rfl, rfl, by omega, rfl, rfl⟩
    case round =>
      obtain ⟨p, i, rfl, rfl, hk_, rfl, hp⟩ := hrel
      have hpz : p.size = i := by rw [size_listE, hp.out, List.length_replicate]
      have HPZ := Lib.hid hpz
      have hpz2 : p.size ≤ 4 := by omega
      clear hpz
      by_cases hi : i < k
      · obtain ⟨kk, rfl⟩ : ∃ kk, gk = kk + 1 := ⟨gk - 1, by omega⟩
        have HP := Lib.hid (show (p ++ (⟨#[32]⟩ : ByteArray)).data.toList = List.replicate (i + 1) 32 by
          rw [ByteArray.data_append, Array.toList_append, hp.out, List.replicate_succ'])
        clear hp
        go_wp2_with fail
        refine (NA.out _).mono ?_
        rintro e w3 ⟨rfl, rfl⟩
        go_wp2_with fail
        go_roundg kk
        case measure => omega
        case rel => exact ⟨_, i + 1, rfl, by go_num, by omega, rfl, HP.out⟩
      · obtain rfl : i = k := by omega
        have HTX := Lib.hid (show (p ++ (⟨#[34]⟩ : ByteArray) ++ s).data.toList = List.replicate i 32 ++ 34 :: s.data.toList by
          rw [ByteArray.data_append, ByteArray.data_append, Array.toList_append, Array.toList_append, hp.out, List.append_assoc]; rfl)
        have HPC := Lib.hid (fun W hW => by
          have := PC.out W hW (p ++ (⟨#[34]⟩ : ByteArray) ++ s) (by rw [ByteArray.size_append, ByteArray.size_append, show (⟨#[34]⟩ : ByteArray).size = 1 from rfl]; omega)
          unfold CmdOut at this
          rw [HTX.out, short_head i 34 s.data.toList (by decide) [115, 97, 121] rfl (by simp)] at this
          simp only at this
          exact this)
        have hge : ¬ (i : Int) < (i : Int) := by omega
        clear hp HTX PC
        go_wp2_with fail
        refine (NA.out _).mono ?_
        rintro e w3 ⟨rfl, rfl⟩
        go_wp2_with fail
        refine (HPC.out _ HB2.out).mono ?_
        rintro e w4 ⟨A, c, rfl, hc, hst, hb4⟩
        rw [byteArr_mk s]
        have HB4 := Lib.hid (HB2.out.trans (below_le' hb4 HB2.out.size))
        clear hb4
        by_cases hs0 : s.data.toList = []
        · have t1 : s.toList.isEmpty = true := by rw [Lib.toList_data, hs0]; rfl
          have hz : (if s.data.toList ≠ [] then [s.data.toList] else []) = [] := by rw [if_neg (by simp [hs0])]
          rw [hz] at hc hst ⊢
          clear hst hc hz hs0
          go_wp2_with fail
          go_ret
          exact ⟨rfl, HB4.out.alloc HB4.out.size _⟩
        · have t1 : s.toList.isEmpty = false := by rw [Lib.toList_data]; cases hq : s.data.toList with | nil => exact absurd hq hs0 | cons => rfl
          have hz : (if s.data.toList ≠ [] then [s.data.toList] else []) = [s.data.toList] := by rw [if_pos hs0]
          rw [hz] at hc hst ⊢
          obtain ⟨g, o, rfl, hg, hcell⟩ : ∃ g o, A = some ⟨g, o, none⟩ ∧ g < w4.heap.size ∧ ∀ j x, [s.data.toList][j]? = some x → w4.cell? ⟨g, o + j, none⟩ = some (.string ⟨x.toArray⟩) := by
            rcases hst with h | h
            · cases h
            · exact h
          have k0 : w4.cell? ⟨g, o, none⟩ = some (.string s) := by
            have := hcell 0 _ rfl
            rw [byteArr_mk s] at this; exact this
          clear hst hc hz hs0 hcell
          go_wp2_with fail
          go_ret
          exact ⟨rfl, HB4.out.alloc HB4.out.size _⟩
  | true =>
    go_enter Tryd.func4, Tryd.ntmps4
    go_wp2_with fail
    refine F.out.mono ?_
    rintro e w2 ⟨rfl, hb2⟩
    have HB2 := Lib.hid hb2
    clear hb2
    go_wp2_with fail
    go_loopg [8, 9] k (fun kk pv iv wr => ∃ (p : ByteArray) (i : Nat), pv = .string p ∧ iv = .int .i64 (i : Int) ∧ i + kk = k ∧ w2 = wr ∧ Hid (p.data.toList = List.replicate i 32))
    case atStart => exact ⟨⟨#[]⟩, 0, rfl, rfl, by omega, rfl, rfl⟩
    case round =>
      obtain ⟨p, i, rfl, rfl, hk_, rfl, hp⟩ := hrel
      have hpz : p.size = i := by rw [size_listE, hp.out, List.length_replicate]
      have HPZ := Lib.hid hpz
      have hpz2 : p.size ≤ 4 := by omega
      clear hpz
      by_cases hi : i < k
      · obtain ⟨kk, rfl⟩ : ∃ kk, gk = kk + 1 := ⟨gk - 1, by omega⟩
        have HP := Lib.hid (show (p ++ (⟨#[32]⟩ : ByteArray)).data.toList = List.replicate (i + 1) 32 by
          rw [ByteArray.data_append, Array.toList_append, hp.out, List.replicate_succ'])
        clear hp
        go_wp2_with fail
        refine (NA.out _).mono ?_
        rintro e w3 ⟨rfl, rfl⟩
        go_wp2_with fail
        go_roundg kk
        case measure => omega
        case rel => exact ⟨_, i + 1, rfl, by go_num, by omega, rfl, HP.out⟩
      · obtain rfl : i = k := by omega
        have HTX := Lib.hid (show (p ++ (⟨#[58]⟩ : ByteArray) ++ s).data.toList = List.replicate i 32 ++ 58 :: s.data.toList by
          rw [ByteArray.data_append, ByteArray.data_append, Array.toList_append, Array.toList_append, hp.out, List.append_assoc]; rfl)
        have HPC := Lib.hid (fun W hW => by
          have := PC.out W hW (p ++ (⟨#[58]⟩ : ByteArray) ++ s) (by rw [ByteArray.size_append, ByteArray.size_append, show (⟨#[58]⟩ : ByteArray).size = 1 from rfl]; omega)
          unfold CmdOut at this
          rw [HTX.out, short_head i 58 s.data.toList (by decide) [101, 109, 111, 116, 101] rfl (by simp)] at this
          simp only at this
          exact this)
        have hge : ¬ (i : Int) < (i : Int) := by omega
        clear hp HTX PC
        go_wp2_with fail
        refine (NA.out _).mono ?_
        rintro e w3 ⟨rfl, rfl⟩
        go_wp2_with fail
        refine (HPC.out _ HB2.out).mono ?_
        rintro e w4 ⟨A, c, rfl, hc, hst, hb4⟩
        rw [byteArr_mk s]
        have HB4 := Lib.hid (HB2.out.trans (below_le' hb4 HB2.out.size))
        clear hb4
        by_cases hs0 : s.data.toList = []
        · have t1 : s.toList.isEmpty = true := by rw [Lib.toList_data, hs0]; rfl
          have hz : (if s.data.toList ≠ [] then [s.data.toList] else []) = [] := by rw [if_neg (by simp [hs0])]
          rw [hz] at hc hst ⊢
          clear hst hc hz hs0
          go_wp2_with fail
          go_ret
          exact ⟨rfl, HB4.out.alloc HB4.out.size _⟩
        · have t1 : s.toList.isEmpty = false := by rw [Lib.toList_data]; cases hq : s.data.toList with | nil => exact absurd hq hs0 | cons => rfl
          have hz : (if s.data.toList ≠ [] then [s.data.toList] else []) = [s.data.toList] := by rw [if_pos hs0]
          rw [hz] at hc hst ⊢
          obtain ⟨g, o, rfl, hg, hcell⟩ : ∃ g o, A = some ⟨g, o, none⟩ ∧ g < w4.heap.size ∧ ∀ j x, [s.data.toList][j]? = some x → w4.cell? ⟨g, o + j, none⟩ = some (.string ⟨x.toArray⟩) := by
            rcases hst with h | h
            · cases h
            · exact h
          have k0 : w4.cell? ⟨g, o, none⟩ = some (.string s) := by
            have := hcell 0 _ rfl
            rw [byteArr_mk s] at this; exact this
          clear hst hc hz hs0 hcell
          go_wp2_with fail
          go_ret
          exact ⟨rfl, HB4.out.alloc HB4.out.size _⟩
end Go.Proofs.YtcnfbdabbnhjlaaDoor
namespace Go.Proofs.YtcnfbdabbnhjlaaDoor
open Go.RowKit Go.Lib
set_option linter.unusedVariables false

/-- What a function that is asked of texts answers, in all later worlds. -/
def AskC (g : Nat) (env : Value) (p : List UInt8 → Bool) (w : World) : Prop := ∀ (x : List UInt8) (W : World), Below w.heap.size w W → x.length ≤ 1000 → Calls Tryd.prog g #[.string ⟨x.toArray⟩, env] W fun e w' => e = .returned (.bool (p x)) ∧ Below W.heap.size W w'
/-- Where the first text is of which it is so. -/
def idxP (p : List UInt8 → Bool) : List (List UInt8) → Nat → Int
  | [], _ => -1
  | x :: l, i => if p x then (i : Int) else idxP p l (i + 1)
theorem idxP_drop (p : List UInt8 → Bool) (l : List (List UInt8)) (i : Nat) (x : List UInt8) (h : l[i]? = some x) : idxP p (l.drop i) i = if p x then (i : Int) else idxP p (l.drop (i + 1)) (i + 1) := by
  have hi : i < l.length := by
    rcases Nat.lt_or_ge i l.length with hlt | hge
    · exact hlt
    · rw [List.getElem?_eq_none hge] at h; cases h
  rw [List.getElem?_eq_getElem hi] at h
  injection h with h
  rw [List.drop_eq_getElem_cons hi, h, idxP]
theorem idxP_any (p : List UInt8 → Bool) : ∀ (l : List (List UInt8)) (i : Nat), decide (0 ≤ idxP p l i) = l.any p
  | [], i => rfl
  | x :: l, i => by
    rw [idxP, List.any_cons]
    cases p x
    · rw [if_neg (by decide), Bool.false_or]; exact idxP_any p l (i + 1)
    · rw [if_pos rfl, Bool.true_or]; exact decide_eq_true (by omega)
set_option maxRecDepth 100000 in
set_option maxHeartbeats 1000000 in
theorem idxF_c (g : Nat) (eg : ∀ args w, (callFunc g args).run Tryd.prog w = .ok (.enter g args) w) (env : Value) (p : List UInt8 → Bool) (A : Option Addr) (c : Nat) (l : List (List UInt8)) (w : World) (hp : AskC g env p w) (h : StrO w A l) (hl : l.length ≤ 1000000) (hx1 : ∀ x ∈ l, x.length ≤ 1000) :
    Calls Tryd.prog 81 #[.slice A l.length c, .func (.func g) #[] #[env]] w fun e w' => e = .returned (.int .i64 (idxP p l 0)) ∧ Below w.heap.size w w' := by
  obtain ⟨r, hr⟩ : ∃ r, r = idxP p l 0 := ⟨_, rfl⟩
  rw [← hr]
  have HR := Lib.hid hr
  have HP := Lib.hid hp
  have HH := Lib.hid h
  have HX := Lib.hid hx1
  clear hr hp h hx1
  go_enter Tryd.func81, Tryd.ntmps81
  go_wp2_with fail
  go_loopg [5, 8] l.length (fun kk a iv wr => ∃ i : Nat, iv = .int .i64 (i : Int) ∧ i + kk = l.length ∧ Hid (Below w.heap.size w wr) ∧ Hid (r = idxP p (l.drop i) i))
  case atStart => exact ⟨0, rfl, by omega, Lib.hid (Below.refl _ _), HR⟩
  case round =>
    obtain ⟨i, rfl, hk, HB, HQ⟩ := hrel
    by_cases hi : i < l.length
    · obtain ⟨kk, rfl⟩ : ∃ kk, gk = kk + 1 := ⟨gk - 1, by omega⟩
      obtain ⟨x, hx⟩ : ∃ x, l[i]? = some x := ⟨_, List.getElem?_eq_getElem hi⟩
      obtain ⟨ga, o, rfl, hga, hcell⟩ : ∃ g o, A = some ⟨g, o, none⟩ ∧ g < w.heap.size ∧ ∀ j x, l[j]? = some x → w.cell? ⟨g, o + j, none⟩ = some (.string ⟨x.toArray⟩) := by
        rcases HH.out with h | h
        · rw [h] at hi; exact absurd hi (Nat.not_lt_zero _)
        · exact h
      have hc : wr.cell? ⟨ga, o + i, none⟩ = some (.string ⟨x.toArray⟩) := (HB.out.cell (p := ⟨ga, o + i, none⟩) hga).trans (hcell i x hx)
      have AC := Lib.hid (HP.out x wr HB.out (HX.out x (List.mem_of_getElem? hx)))
      have HD := Lib.hid (HQ.out.trans (idxP_drop p l i x hx))
      have b0 : (0 : Int) ≤ (i : Int) := by omega
      have b1 : (i : Int) < (l.length : Int) := by omega
      obtain ⟨b, hb⟩ : ∃ b, b = p x := ⟨_, rfl⟩
      rw [← hb] at AC HD
      clear hcell hx hb
      cases b with
      | true =>
        go_wp2_with fail
        refine AC.out.mono ?_
        rintro e w1 ⟨rfl, hb1⟩
        have HB1 := Lib.hid (HB.out.trans (below_le' hb1 HB.out.size))
        clear hb1
        go_wp2_with fail
        go_ret
        exact ⟨by rw [HD.out]; rfl, HB1.out⟩
      | false =>
        go_wp2_with fail
        refine AC.out.mono ?_
        rintro e w1 ⟨rfl, hb1⟩
        have HB1 := Lib.hid (HB.out.trans (below_le' hb1 HB.out.size))
        clear hb1
        go_wp2_with fail
        go_roundg kk
        case measure => omega
        case rel => exact ⟨i + 1, by go_num, by omega, HB1, Lib.hid (by rw [HD.out]; rfl)⟩
    · have hge : ¬ (i : Int) < (l.length : Int) := by omega
      have HE := Lib.hid (show r = -1 by rw [HQ.out, List.drop_eq_nil_of_le (by omega)]; rfl)
      go_wp2_with fail
      go_ret
      exact ⟨by rw [HE.out]; rfl, HB.out⟩
set_option maxRecDepth 100000 in
theorem conF_c (g : Nat) (eg : ∀ args w, (callFunc g args).run Tryd.prog w = .ok (.enter g args) w) (env : Value) (p : List UInt8 → Bool) (A : Option Addr) (c : Nat) (l : List (List UInt8)) (w : World) (hp : AskC g env p w) (h : StrO w A l) (hl : l.length ≤ 1000000) (hx1 : ∀ x ∈ l, x.length ≤ 1000) :
    Calls Tryd.prog 53 #[.slice A l.length c, .func (.func g) #[] #[env]] w fun e w' => e = .returned (.bool (l.any p)) ∧ Below w.heap.size w w' := by
  have IC := Lib.hid (idxF_c g eg env p A c l w hp h hl hx1)
  obtain ⟨r, hr⟩ : ∃ r, r = l.any p := ⟨_, rfl⟩
  obtain ⟨k, hk⟩ : ∃ k, k = idxP p l 0 := ⟨_, rfl⟩
  have HK := Lib.hid (show decide (0 ≤ k) = r by rw [hk, hr]; exact idxP_any p l 0)
  rw [← hk] at IC
  rw [← hr]
  clear hr hk hp h hl hx1 eg
  go_enter Tryd.func53, Tryd.ntmps53
  go_wp2_with fail
  refine IC.out.mono ?_
  rintro e w1 ⟨rfl, hb⟩
  have HB := Lib.hid hb
  clear hb
  go_wp2_with fail
  go_ret
  exact ⟨by rw [← HK.out]; rfl, HB.out⟩

/-- Small letters, the same. -/
def eqP (q : List UInt8) (n : List UInt8) : Bool := lowS n == q
def preP (q : List UInt8) (n : List UInt8) : Bool := Lib.hasPrefix (lowS n) q
set_option maxRecDepth 100000 in
set_option maxHeartbeats 1000000 in
theorem obj2_c (q : List UInt8) (a : Addr) (w : World) (h : w.cell? a = some (.string ⟨q.toArray⟩)) (ha : a.block < w.heap.size) : AskC 36 (.pointer (some a)) (eqP q) w := by
  intro x W hW hx
  have hc : W.cell? a = some (.string ⟨q.toArray⟩) := (hW.cell ha).trans h
  have haW : a.block < W.heap.size := Nat.lt_of_lt_of_le ha hW.size
  obtain ⟨lx, hlx⟩ : ∃ lx : ByteArray, lx = ⟨(lowS x).toArray⟩ := ⟨_, rfl⟩
  obtain ⟨qb, hqb⟩ : ∃ qb : ByteArray, qb = ⟨q.toArray⟩ := ⟨_, rfl⟩
  rw [← hqb] at hc
  obtain ⟨r, hr⟩ : ∃ r, r = eqP q x := ⟨_, rfl⟩
  obtain ⟨S, hS⟩ : ∃ S : World → Prop, S = fun W1 => W1.cell? a = some (.string qb) ∧ Below W.heap.size W W1 := ⟨_, rfl⟩
  have KS : ∀ W1, Below W.heap.size W W1 → S W1 := fun W1 h1 => by rw [hS]; exact ⟨(h1.cell haW).trans hc, h1⟩
  have BS : ∀ W1, S W1 → Below W.heap.size W W1 := fun W1 h1 => by rw [hS] at h1; exact h1.2
  have C1 := Lib.hid (fun W1 (h1 : S W1) => (show Calls Tryd.prog 27 #[.string ⟨x.toArray⟩] W1 fun e w' => e = .returned (.string lx) ∧ S w' from by
    have := lower_c ⟨x.toArray⟩ W1 (by simp [ByteArray.size]; omega)
    rw [show (⟨x.toArray⟩ : ByteArray).data.toList = x from rfl, ← hlx] at this
    exact this.mono fun e w' ⟨h2, h3⟩ => ⟨h2, KS _ ((BS W1 h1).trans (below_le' h3 (BS W1 h1).size))⟩))
  have K0 : S W.drew := KS _ ((Below.refl _ _).drew)
  have HE := Lib.hid (show (lx.toList == qb.toList) = r by rw [Lib.toList_data, Lib.toList_data, hlx, hqb, hr]; rfl)
  have BSS := Lib.hid BS
  have HRR := Lib.hid hr
  rw [← hr]
  have HXB := Lib.hid hlx
  clear h hW ha KS BS hlx hqb hr
  subst hS
  go_enter Tryd.func36, Tryd.ntmps36
  go_wp2_with fail
  go_region_held3 (fun W1 => W1.cell? a = some (.string qb) ∧ Below W.heap.size W W1)
    (first | (with_reducible assumption) | (with_reducible exact K0))
    (first
      | (go_at_call 27; refine (C1.out _ ?_).mono ?_; (with_reducible assumption); rintro e w8 ⟨rfl, hs8⟩)
      )
  have HB := Lib.hid (BSS.out _ hs8)
  clear hs8 C1 K0
  go_wp2_with fail
  go_ret
  exact ⟨by rw [← HE.out]; rfl, HB.out⟩
set_option maxRecDepth 100000 in
set_option maxHeartbeats 1000000 in
theorem obj3_c (q : List UInt8) (a : Addr) (w : World) (h : w.cell? a = some (.string ⟨q.toArray⟩)) (ha : a.block < w.heap.size) : AskC 37 (.pointer (some a)) (preP q) w := by
  intro x W hW hx
  have hc : W.cell? a = some (.string ⟨q.toArray⟩) := (hW.cell ha).trans h
  have haW : a.block < W.heap.size := Nat.lt_of_lt_of_le ha hW.size
  obtain ⟨lx, hlx⟩ : ∃ lx : ByteArray, lx = ⟨(lowS x).toArray⟩ := ⟨_, rfl⟩
  obtain ⟨qb, hqb⟩ : ∃ qb : ByteArray, qb = ⟨q.toArray⟩ := ⟨_, rfl⟩
  rw [← hqb] at hc
  obtain ⟨r, hr⟩ : ∃ r, r = preP q x := ⟨_, rfl⟩
  obtain ⟨S, hS⟩ : ∃ S : World → Prop, S = fun W1 => W1.cell? a = some (.string qb) ∧ Below W.heap.size W W1 := ⟨_, rfl⟩
  have KS : ∀ W1, Below W.heap.size W W1 → S W1 := fun W1 h1 => by rw [hS]; exact ⟨(h1.cell haW).trans hc, h1⟩
  have BS : ∀ W1, S W1 → Below W.heap.size W W1 := fun W1 h1 => by rw [hS] at h1; exact h1.2
  have C1 := Lib.hid (fun W1 (h1 : S W1) => (show Calls Tryd.prog 27 #[.string ⟨x.toArray⟩] W1 fun e w' => e = .returned (.string lx) ∧ S w' from by
    have := lower_c ⟨x.toArray⟩ W1 (by simp [ByteArray.size]; omega)
    rw [show (⟨x.toArray⟩ : ByteArray).data.toList = x from rfl, ← hlx] at this
    exact this.mono fun e w' ⟨h2, h3⟩ => ⟨h2, KS _ ((BS W1 h1).trans (below_le' h3 (BS W1 h1).size))⟩))
  have K0 : S W.drew := KS _ ((Below.refl _ _).drew)
  have C2 := Lib.hid (fun W1 (h1 : S W1) => (show Calls Tryd.prog 26 #[.string lx, .string qb] W1 fun e w' => e = .returned (.bool r) ∧ S w' from by
    have := Tryd.strings_HasPrefix lx qb W1
    rw [hlx, hqb] at this
    rw [hr, hlx, hqb]
    exact this.mono fun e w' ⟨h2, h3⟩ => ⟨h2, by rw [h3]; exact h1⟩))
  have BSS := Lib.hid BS
  have HRR := Lib.hid hr
  rw [← hr]
  have HXB := Lib.hid hlx
  clear h hW ha KS BS hlx hqb hr
  subst hS
  go_enter Tryd.func37, Tryd.ntmps37
  go_wp2_with fail
  go_region_held3 (fun W1 => W1.cell? a = some (.string qb) ∧ Below W.heap.size W W1)
    (first | (with_reducible assumption) | (with_reducible exact K0))
    (first
      | (go_at_call 27; refine (C1.out _ ?_).mono ?_; (with_reducible assumption); rintro e w8 ⟨rfl, hs8⟩)
      | (go_at_call 26; refine (C2.out _ ?_).mono ?_; (with_reducible assumption); rintro e w9 ⟨rfl, hs9⟩))
  have HB := Lib.hid (BSS.out _ hs9)
  clear hs9 C1 K0
  go_wp2_with fail
  go_ret
  exact ⟨rfl, HB.out⟩
end Go.Proofs.YtcnfbdabbnhjlaaDoor
namespace Go.Proofs.YtcnfbdabbnhjlaaDoor
open Go.RowKit Go.Lib
set_option linter.unusedVariables false

/-- Things in a row of memory. -/
def ThO (w : World) (A : Option Addr) (T : List (Int × List (List UInt8))) : Prop := T = [] ∨ ∃ g o, A = some ⟨g, o, none⟩ ∧ g < w.heap.size ∧ ∀ j t, T[j]? = some t → w.cell? ⟨g, o + j * 2, none⟩ = some (.int .i64 t.1) ∧ ∃ B d, w.cell? ⟨g, o + j * 2 + 1, none⟩ = some (.slice B t.2.length d) ∧ StrO w B t.2
theorem ThO.below {w w' : World} {A : Option Addr} {T : List (Int × List (List UInt8))} (h : ThO w A T) (hb : Below w.heap.size w w') : ThO w' A T := by
  rcases h with h | ⟨g, o, hA, hg, hc⟩
  · exact .inl h
  · refine .inr ⟨g, o, hA, Nat.lt_of_lt_of_le hg hb.size, fun j t hj => ?_⟩
    obtain ⟨h1, B, d, h2, h3⟩ := hc j t hj
    exact ⟨(hb.cell (p := ⟨g, o + j * 2, none⟩) hg).trans h1, B, d, (hb.cell (p := ⟨g, o + j * 2 + 1, none⟩) hg).trans h2, h3.below hb⟩
theorem AskC.below {g : Nat} {env : Value} {p : List UInt8 → Bool} {w w' : World} (h : AskC g env p w) (hb : Below w.heap.size w w') : AskC g env p w' := fun x W hW hx => h x W (hb.trans (below_le' hW hb.size)) hx
/-- The only thing of a sort. -/
def oneP (p : List UInt8 → Bool) : List (Int × List (List UInt8)) → Int → Bool → Int × Bool
  | [], id, f => (id, f)
  | t :: T, id, f => if t.2.any p then (if f = true ∧ t.1 ≠ id then (-2, true) else oneP p T t.1 true) else oneP p T id f
set_option maxRecDepth 100000 in
set_option maxHeartbeats 2000000 in
theorem one_c (g : Nat) (eg : ∀ args w, (callFunc g args).run Tryd.prog w = .ok (.enter g args) w) (env : Value) (p : List UInt8 → Bool) (A : Option Addr) (c : Nat) (T : List (Int × List (List UInt8))) (w : World) (hp : AskC g env p w) (h : ThO w A T) (hl : T.length ≤ 1000000)
    (hx1 : ∀ t ∈ T, t.2.length ≤ 1000000 ∧ (∀ x ∈ t.2, x.length ≤ 1000) ∧ -9223372036854775808 ≤ t.1 ∧ t.1 ≤ 9223372036854775807) :
    Calls Tryd.prog 35 #[.slice A T.length c, .func (.func g) #[] #[env]] w fun e w' => e = .returned (.tuple #[.int .i64 (oneP p T (-3) false).1, .bool (oneP p T (-3) false).2]) ∧ Below w.heap.size w w' := by
  obtain ⟨r, hr⟩ : ∃ r, r = oneP p T (-3) false := ⟨_, rfl⟩
  rw [← hr]
  have HR := Lib.hid hr
  have HP := Lib.hid hp
  have HH := Lib.hid h
  have HX := Lib.hid hx1
  clear hr hp h hx1
  go_enter Tryd.func35, Tryd.ntmps35
  go_wp2_with fail
  go_loopg [6, 7, 9, 12] T.length (fun kk iv fv tv rv wr => ∃ (i : Nat) (id : Int) (f : Bool), iv = .int .i64 id ∧ fv = .bool f ∧ rv = .int .i64 (i : Int) ∧ i + kk = T.length ∧ Hid (Below w.heap.size w wr) ∧ Hid (r = oneP p (T.drop i) id f))
  case atStart => exact ⟨0, -3, false, rfl, rfl, rfl, by omega, Lib.hid (Below.refl _ _), HR⟩
  case round =>
    obtain ⟨i, id, f, rfl, rfl, rfl, hk, HB, HQ⟩ := hrel
    by_cases hi : i < T.length
    · obtain ⟨kk, rfl⟩ : ∃ kk, gk = kk + 1 := ⟨gk - 1, by omega⟩
      obtain ⟨t, htT⟩ : ∃ t, T[i]? = some t := ⟨_, List.getElem?_eq_getElem hi⟩
      obtain ⟨ga, o, rfl, hga, hcell⟩ : ∃ g o, A = some ⟨g, o, none⟩ ∧ g < w.heap.size ∧ ∀ j t, T[j]? = some t → w.cell? ⟨g, o + j * 2, none⟩ = some (.int .i64 t.1) ∧ ∃ B d, w.cell? ⟨g, o + j * 2 + 1, none⟩ = some (.slice B t.2.length d) ∧ StrO w B t.2 := by
        rcases HH.out with h | h
        · rw [h] at hi; exact absurd hi (Nat.not_lt_zero _)
        · exact h
      obtain ⟨q1, B, d, q2, q3⟩ := hcell i t htT
      have hc1 : wr.cell? ⟨ga, o + i * 2, none⟩ = some (.int .i64 t.1) := (HB.out.cell (p := ⟨ga, o + i * 2, none⟩) hga).trans q1
      have hc2 : wr.cell? ⟨ga, o + i * 2 + 1, none⟩ = some (.slice B t.2.length d) := (HB.out.cell (p := ⟨ga, o + i * 2 + 1, none⟩) hga).trans q2
      have HS := Lib.hid (q3.below HB.out)
      obtain ⟨x1, x2, x3, x4⟩ := HX.out t (List.mem_of_getElem? htT)
      have hdr : T.drop i = t :: T.drop (i + 1) := by
        rw [List.getElem?_eq_getElem hi] at htT
        injection htT with htT
        rw [List.drop_eq_getElem_cons hi, htT]
      have HD := Lib.hid (show r = if t.2.any p then (if f = true ∧ t.1 ≠ id then (-2, true) else oneP p (T.drop (i + 1)) t.1 true) else oneP p (T.drop (i + 1)) id f by rw [HQ.out, hdr, oneP])
      have CC := Lib.hid (fun (W : World) (hW : Below wr.heap.size wr W) => conF_c g eg env p B d t.2 W (HP.out.below (HB.out.trans (below_le' hW HB.out.size))) (HS.out.below hW) x1 x2)
      obtain ⟨tid, htid⟩ : ∃ tid, tid = t.1 := ⟨_, rfl⟩
      obtain ⟨tn, htn⟩ : ∃ tn, tn = t.2.length := ⟨_, rfl⟩
      obtain ⟨bb, hbb⟩ : ∃ bb, bb = t.2.any p := ⟨_, rfl⟩
      rw [← htid] at hc1 HD x3 x4
      rw [← htn] at hc2 CC x1
      rw [← hbb] at CC HD
      have b0 : (0 : Int) ≤ (i : Int) := by omega
      have b1 : (i : Int) < (T.length : Int) := by omega
      clear hcell q1 q2 q3 htT hdr x2 htid htn hbb
      cases bb with
      | false =>
        have HE := Lib.hid (show r = oneP p (T.drop (i + 1)) id f by rw [HD.out]; rfl)
        go_wp2_with fail
        refine (CC.out _ ((Below.refl _ _).alloc (Nat.le_refl _) _)).mono ?_
        rintro e w1 ⟨rfl, hb1⟩
        have HB1 := Lib.hid (HB.out.trans (below_le' (Below.trans ((Below.refl _ _).alloc (Nat.le_refl _) _) (below_le' hb1 (by simp))) HB.out.size))
        clear hb1
        go_wp2_with fail
        go_roundg kk
        case measure => omega
        case rel => exact ⟨i + 1, id, f, rfl, rfl, by go_num, by omega, HB1, HE⟩
      | true =>
        cases f with
        | false =>
          have HE := Lib.hid (show r = oneP p (T.drop (i + 1)) tid true by rw [HD.out, if_pos rfl, if_neg (by simp)])
          go_wp2_with fail
          refine (CC.out _ ((Below.refl _ _).alloc (Nat.le_refl _) _)).mono ?_
          rintro e w1 ⟨rfl, hb1⟩
          have HB1 := Lib.hid (HB.out.trans (below_le' (Below.trans ((Below.refl _ _).alloc (Nat.le_refl _) _) (below_le' hb1 (by simp))) HB.out.size))
          have hn := Blk.new wr 33 #[.int .i64 tid, .slice B tn d]
          have hn1 := hn.below hb1 hn.lt
          have n0 : w1.cell? ⟨wr.heap.size, 0, none⟩ = some (.int .i64 tid) := hn1.cell 0
          clear hb1 hn hn1
          go_wp2_with fail
          go_roundg kk
          case measure => omega
          case rel => exact ⟨i + 1, tid, true, rfl, rfl, by go_num, by omega, HB1, HE⟩
        | true =>
          by_cases hne : tid = id
          · have HE := Lib.hid (show r = oneP p (T.drop (i + 1)) tid true by rw [HD.out, if_pos rfl, if_neg (by simp [hne])])
            have t1 : (tid != id) = false := by rw [hne]; simp
            clear hne
            go_wp2_with fail
            refine (CC.out _ ((Below.refl _ _).alloc (Nat.le_refl _) _)).mono ?_
            rintro e w1 ⟨rfl, hb1⟩
            have HB1 := Lib.hid (HB.out.trans (below_le' (Below.trans ((Below.refl _ _).alloc (Nat.le_refl _) _) (below_le' hb1 (by simp))) HB.out.size))
            have hn := Blk.new wr 33 #[.int .i64 tid, .slice B tn d]
            have hn1 := hn.below hb1 hn.lt
            have n0 : w1.cell? ⟨wr.heap.size, 0, none⟩ = some (.int .i64 tid) := hn1.cell 0
            clear hb1 hn hn1
            go_wp2_with fail
            go_roundg kk
            case measure => omega
            case rel => exact ⟨i + 1, tid, true, rfl, rfl, by go_num, by omega, HB1, HE⟩
          · have HE := Lib.hid (show r = (-2, true) by rw [HD.out, if_pos rfl, if_pos ⟨rfl, hne⟩])
            have t1 : (tid != id) = true := by rw [bne_iff_ne]; exact hne
            clear hne
            go_wp2_with fail
            refine (CC.out _ ((Below.refl _ _).alloc (Nat.le_refl _) _)).mono ?_
            rintro e w1 ⟨rfl, hb1⟩
            have HB1 := Lib.hid (HB.out.trans (below_le' (Below.trans ((Below.refl _ _).alloc (Nat.le_refl _) _) (below_le' hb1 (by simp))) HB.out.size))
            have hn := Blk.new wr 33 #[.int .i64 tid, .slice B tn d]
            have hn1 := hn.below hb1 hn.lt
            have n0 : w1.cell? ⟨wr.heap.size, 0, none⟩ = some (.int .i64 tid) := hn1.cell 0
            clear hb1 hn hn1
            go_wp2_with fail
            go_ret2
            exact ⟨by rw [HE.out]; rfl, HB1.out⟩
    · have hge : ¬ (i : Int) < (T.length : Int) := by omega
      have HE := Lib.hid (show r = (id, f) by rw [HQ.out, List.drop_eq_nil_of_le (by omega)]; rfl)
      go_wp2_with fail
      go_ret2
      exact ⟨by rw [HE.out]; rfl, HB.out⟩
end Go.Proofs.YtcnfbdabbnhjlaaDoor
namespace Go.Proofs.YtcnfbdabbnhjlaaDoor
open Go.RowKit Go.Lib
set_option linter.unusedVariables false

def hash5 : ByteArray := ⟨#[35, 53]⟩
theorem hash5_rd : rdV hash5 = (2, true, val1 1 5 ⟨#[]⟩ .nil) := by kernel_rfl
theorem hash5_walk : (walk1 1 5 ⟨#[]⟩ .nil 1 4096).1 = 0 := by decide +kernel
theorem hash5_c (ea : Nat → Addr) (w : World) (he : ErrsAt w ea) : Calls Tryd.prog 32 #[.string hash5] w fun e w' => Below w.heap.size w w' ∧ ∃ (sa : Option Addr) (sc : Nat), e = .returned (.tuple #[.agg #[.int .i64 1, .int .i64 5, .string ⟨#[]⟩, .slice sa 0 sc], .nilIface]) :=
  (read_c hash5 ea w he (by decide)).mono fun e w' ⟨hb, h⟩ => by
    refine ⟨hb, ?_⟩
    rcases h with ⟨hbad, _⟩ | ⟨_, k, n, t, sub, hv, h⟩
    · exfalso
      unfold rdBad at hbad
      rw [hash5_rd] at hbad
      simp [hash5] at hbad
      exact absurd hbad (by decide)
    · rw [hash5_rd] at hv
      have e1 : k = 1 ∧ n = 5 ∧ t = ⟨#[]⟩ ∧ sub = .nil := by
        have hv' : VL.cons 1 5 ⟨#[]⟩ .nil .nil = VL.cons k n t sub .nil := hv
        injection hv' with a b c d
        exact ⟨a.symm, b.symm, c.symm, d.symm⟩
      obtain ⟨rfl, rfl, rfl, rfl⟩ := e1
      rcases h with ⟨hne, _⟩ | ⟨_, sa, sc, _, _, rfl⟩
      · exact absurd hash5_walk hne
      · exact ⟨sa, sc, rfl⟩

def ballL : List UInt8 := [98, 97, 108, 108]
def boxL : List UInt8 := [98, 111, 120]
def thingsT : List (Int × List (List UInt8)) := [(5, [ballL, meL]), (6, [boxL, hereL])]
theorem obj1_c (B : Option Addr) (n d vb : Nat) (w : World) (hv : w.cell? ⟨vb, 1, none⟩ = some (.int .i64 5)) (hvb : vb < w.heap.size) :
    Calls Tryd.prog 34 #[.agg #[.int .i64 5, .slice B n d], .pointer (some ⟨vb, 0, none⟩)] w fun e w' => e = .returned (.bool true) ∧ Below w.heap.size w w' := by
  go_enter Tryd.func34, Tryd.ntmps34
  go_wp2_with fail
  go_ret
  exact ⟨rfl, (Below.refl _ _).alloc (Nat.le_refl _) _⟩
set_option maxRecDepth 100000 in
set_option maxHeartbeats 1000000 in
theorem idxT_c (A : Option Addr) (c vb : Nat) (w : World) (h : ThO w A thingsT) (hv : w.cell? ⟨vb, 1, none⟩ = some (.int .i64 5)) (hvb : vb < w.heap.size) :
    Calls Tryd.prog 52 #[.slice A 2 c, .func (.func 34) #[] #[.pointer (some ⟨vb, 0, none⟩)]] w fun e w' => e = .returned (.int .i64 0) ∧ Below w.heap.size w w' := by
  obtain ⟨ga, o, rfl, hga, hcell⟩ : ∃ g o, A = some ⟨g, o, none⟩ ∧ g < w.heap.size ∧ ∀ j t, thingsT[j]? = some t → w.cell? ⟨g, o + j * 2, none⟩ = some (.int .i64 t.1) ∧ ∃ B d, w.cell? ⟨g, o + j * 2 + 1, none⟩ = some (.slice B t.2.length d) ∧ StrO w B t.2 := by
    rcases h with h | h
    · cases h
    · exact h
  obtain ⟨q1, B, d, q2, _⟩ := hcell 0 _ rfl
  have q1 : w.cell? ⟨ga, o, none⟩ = some (.int .i64 5) := q1
  have q2 : w.cell? ⟨ga, o + 1, none⟩ = some (.slice B 2 d) := q2
  have OC := Lib.hid (fun W (hW : Below w.heap.size w W) => obj1_c B 2 d vb W ((hW.cell (p := ⟨vb, 1, none⟩) hvb).trans hv) (Nat.lt_of_lt_of_le hvb hW.size))
  clear h hcell hv
  go_enter Tryd.func52, Tryd.ntmps52
  go_wp2_with fail
  go_loopg [5, 8] 1 (fun kk a iv wr => iv = .int .i64 0 ∧ w = wr)
  case atStart => exact ⟨rfl, rfl⟩
  case round =>
    obtain ⟨rfl, rfl⟩ := hrel
    go_wp2_with fail
    refine (OC.out _ (Below.refl _ _)).mono ?_
    rintro e w1 ⟨rfl, hb1⟩
    have HB1 := Lib.hid hb1
    clear hb1
    go_wp2_with fail
    go_ret
    exact ⟨rfl, HB1.out⟩
theorem cfT_c (A : Option Addr) (c vb : Nat) (w : World) (h : ThO w A thingsT) (hv : w.cell? ⟨vb, 1, none⟩ = some (.int .i64 5)) (hvb : vb < w.heap.size) :
    Calls Tryd.prog 33 #[.slice A 2 c, .func (.func 34) #[] #[.pointer (some ⟨vb, 0, none⟩)]] w fun e w' => e = .returned (.bool true) ∧ Below w.heap.size w w' := by
  have IC := Lib.hid (idxT_c A c vb w h hv hvb)
  clear h hv
  go_enter Tryd.func33, Tryd.ntmps33
  go_wp2_with fail
  refine IC.out.mono ?_
  rintro e w1 ⟨rfl, hb⟩
  have HB := Lib.hid hb
  clear hb
  go_wp2_with fail
  go_ret
  exact ⟨rfl, HB.out⟩

/-- What a word means among the two things, as the chapter's examples ask. -/
def obB (d : List UInt8) : Int :=
  if (oneP (eqP (lowS d)) thingsT (-3) false).2 then (oneP (eqP (lowS d)) thingsT (-3) false).1 else (oneP (preP (lowS d)) thingsT (-3) false).1
def obT (d : List UInt8) : Int := if d = [] then -1 else if d = [35, 53] then 5 else obB d
def okW (d : List UInt8) : Prop := d = [] ∨ d = [35, 53] ∨ (d ≠ [] ∧ d.head? ≠ some 35)
theorem things_ok : ∀ t ∈ thingsT, t.2.length ≤ 1000000 ∧ (∀ x ∈ t.2, x.length ≤ 1000) ∧ -9223372036854775808 ≤ t.1 ∧ t.1 ≤ 9223372036854775807 := by decide
set_option maxRecDepth 100000 in
set_option maxHeartbeats 2000000 in
theorem objT_c (d : List UInt8) (A : Option Addr) (c : Nat) (ea : Nat → Addr) (w : World) (he : ErrsAt w ea) (hd : d.length ≤ 100000) (hok : okW d) (h : ThO w A thingsT) :
    Calls Tryd.prog 19 #[.string ⟨d.toArray⟩, .slice A 2 c] w fun e w' => e = .returned (.int .i64 (obT d)) ∧ Below w.heap.size w w' := by
  by_cases h0 : d = []
  · have hr : obT d = -1 := by unfold obT; rw [if_pos h0]
    rw [hr]
    have h0' : d.isEmpty = true := by rw [h0]; rfl
    clear hr h0 hok h he
    go_enter Tryd.func19, Tryd.ntmps19
    go_wp2_with fail
    go_ret
    exact ⟨rfl, Below.refl _ _⟩
  by_cases h5 : d = [35, 53]
  · have hr : obT d = 5 := by unfold obT; rw [if_neg h0, if_pos h5]
    rw [hr]
    subst h5
    have RC := Lib.hid (hash5_c ea w he)
    have CT := Lib.hid (fun W vb (hW : Below w.heap.size w W) => cfT_c A c vb W (h.below hW))
    clear hr h0 hok h he hd
    rw [show (⟨([35, 53] : List UInt8).toArray⟩ : ByteArray) = hash5 from rfl]
    have z1 : hash5.toList.isEmpty = false := by rw [Lib.toList_data]; rfl
    have z2 : (0 : Int) < (hash5.size : Int) := by decide
    have z3 : 0 < hash5.size := by decide
    have z4 : ((hash5[0].toNat : Int) == 35) = true := rfl
    go_enter Tryd.func19, Tryd.ntmps19
    go_wp2_with fail
    refine RC.out.mono ?_
    rintro e w1 ⟨hb1, sa, sc, rfl⟩
    have HB1 := Lib.hid hb1
    clear hb1
    go_wp2_with fail
    have hbl := Blk.new w1 70 #[.int .i64 1, .int .i64 5, .string ⟨#[]⟩, .slice sa 0 sc]
    have hv := hbl.cell 1
    refine (CT.out _ w1.heap.size (HB1.out.alloc HB1.out.size _) hv hbl.lt).mono ?_
    rintro e w2 ⟨rfl, hb2⟩
    have hbl2 := hbl.below hb2 hbl.lt
    have n1 : w2.cell? ⟨w1.heap.size, 1, none⟩ = some (.int .i64 5) := hbl2.cell 1
    have HB2 := Lib.hid (HB1.out.trans (below_le' (Below.trans ((Below.refl _ _).alloc (Nat.le_refl _) _) (below_le' hb2 (by simp))) HB1.out.size))
    clear hb2 hbl hbl2 hv
    go_wp2_with fail
    go_ret
    exact ⟨rfl, HB2.out⟩
  have h35 : d.head? ≠ some 35 := by
    rcases hok with h | h | h
    · exact absurd h h0
    · exact absurd h h5
    · exact h.2
  have hr : obT d = obB d := by unfold obT; rw [if_neg h0, if_neg h5]
  rw [hr]
  obtain ⟨b, hb⟩ : ∃ b : ByteArray, b = ⟨d.toArray⟩ := ⟨_, rfl⟩
  have hbd : b.data.toList = d := by rw [hb]
  rw [← hb]
  have h0' : b.toList.isEmpty = false := by rw [Lib.toList_data, hbd]; cases d with | nil => exact absurd rfl h0 | cons => rfl
  have hsz : 0 < b.size := by rw [size_listE, hbd]; exact List.length_pos_iff.2 h0
  have hszI : (0 : Int) < (b.size : Int) := by omega
  have hne : b[0] ≠ 35 := by
    intro e
    apply h35
    have h1 := drop_cons b 0 hsz
    rw [List.drop_zero, hbd] at h1
    rw [h1, e]; rfl
  obtain ⟨t1, t1'⟩ := ne_byte (x := b[0]) 35 35 rfl hne
  have LW := Lib.hid (show Calls Tryd.prog 27 #[.string b] w fun e w' => e = .returned (.string ⟨(lowS d).toArray⟩) ∧ Below w.heap.size w w' from by
    have := lower_c b w (by rw [size_listE, hbd]; omega)
    rwa [hbd] at this)
  obtain ⟨q, hq⟩ : ∃ q, q = lowS d := ⟨_, rfl⟩
  rw [← hq] at LW
  have O2 := Lib.hid (fun W wb (hW : Below w.heap.size w W) (hc : W.cell? ⟨wb, 0, none⟩ = some (.string ⟨q.toArray⟩)) (hwb : wb < W.heap.size) => one_c 36 (fun args w => by kernel_rfl) (.pointer (some ⟨wb, 0, none⟩)) (eqP q) A c thingsT W (obj2_c q ⟨wb, 0, none⟩ W hc hwb) (h.below hW) (by decide) things_ok)
  have O3 := Lib.hid (fun W wb (hW : Below w.heap.size w W) (hc : W.cell? ⟨wb, 0, none⟩ = some (.string ⟨q.toArray⟩)) (hwb : wb < W.heap.size) => one_c 37 (fun args w => by kernel_rfl) (.pointer (some ⟨wb, 0, none⟩)) (preP q) A c thingsT W (obj3_c q ⟨wb, 0, none⟩ W hc hwb) (h.below hW) (by decide) things_ok)
  obtain ⟨i2, hi2⟩ : ∃ i, i = (oneP (eqP q) thingsT (-3) false).1 := ⟨_, rfl⟩
  obtain ⟨f2, hf2⟩ : ∃ i, i = (oneP (eqP q) thingsT (-3) false).2 := ⟨_, rfl⟩
  obtain ⟨i3, hi3⟩ : ∃ i, i = (oneP (preP q) thingsT (-3) false).1 := ⟨_, rfl⟩
  obtain ⟨f3, hf3⟩ : ∃ i, i = (oneP (preP q) thingsT (-3) false).2 := ⟨_, rfl⟩
  have HR := Lib.hid (show obB d = if f2 then i2 else i3 by unfold obB; rw [← hq, ← hf2, ← hi2, ← hi3])
  rw [← hi2, ← hf2] at O2
  rw [← hi3, ← hf3] at O3
  obtain ⟨r, hrr⟩ : ∃ r, r = obB d := ⟨_, rfl⟩
  rw [← hrr] at HR ⊢
  rw [show thingsT.length = 2 from rfl] at O2 O3
  clear hr h0 h5 h35 hok h he hd hb hbd hq hi2 hf2 hi3 hf3 hne hrr
  cases f2 with
  | true =>
    have HE := Lib.hid (show r = i2 by rw [HR.out]; rfl)
    go_enter Tryd.func19, Tryd.ntmps19
    go_wp2_with fail
    refine LW.out.mono ?_
    rintro e w2 ⟨rfl, hb2⟩
    have HB2 := Lib.hid hb2
    clear hb2
    go_wp2_with fail
    have hbl := Blk.new w2 9 #[.string ⟨q.toArray⟩]
    refine (O2.out _ w2.heap.size (HB2.out.alloc HB2.out.size _) (hbl.cell 0) hbl.lt).mono ?_
    rintro e w3 ⟨rfl, hb3⟩
    have HB3 := Lib.hid (HB2.out.trans (below_le' (Below.trans ((Below.refl _ _).alloc (Nat.le_refl _) _) (below_le' hb3 (by simp))) HB2.out.size))
    clear hb3 hbl
    go_wp2_with fail
    go_ret
    exact ⟨by rw [HE.out]; rfl, HB3.out⟩
  | false =>
    have HE := Lib.hid (show r = i3 by rw [HR.out]; rfl)
    go_enter Tryd.func19, Tryd.ntmps19
    go_wp2_with fail
    refine LW.out.mono ?_
    rintro e w2 ⟨rfl, hb2⟩
    have HB2 := Lib.hid hb2
    clear hb2
    go_wp2_with fail
    have hbl := Blk.new w2 9 #[.string ⟨q.toArray⟩]
    refine (O2.out _ w2.heap.size (HB2.out.alloc HB2.out.size _) (hbl.cell 0) hbl.lt).mono ?_
    rintro e w3 ⟨rfl, hb3⟩
    have hbl3 := hbl.below hb3 hbl.lt
    have hlt3 := hbl3.lt
    have HB3 := Lib.hid (HB2.out.trans (below_le' (Below.trans ((Below.refl _ _).alloc (Nat.le_refl _) _) (below_le' hb3 (by simp))) HB2.out.size))
    have HL3 := Lib.hid hbl3
    clear hb3 hbl hbl3
    go_wp2_with fail
    refine (O3.out _ w2.heap.size HB3.out (HL3.out.cell 0) hlt3).mono ?_
    rintro e w4 ⟨rfl, hb4⟩
    have HB4 := Lib.hid (HB3.out.trans (below_le' hb4 HB3.out.size))
    clear hb4
    go_wp2_with fail
    go_ret
    exact ⟨by rw [HE.out]; rfl, HB4.out⟩
end Go.Proofs.YtcnfbdabbnhjlaaDoor
namespace Go.Proofs.YtcnfbdabbnhjlaaDoor
open Go.RowKit Go.Lib
set_option linter.unusedVariables false

/-- What spaces part. -/
def wgo : List UInt8 → Option (List UInt8) → List (List UInt8)
  | [], none => []
  | [], some b => [b]
  | c :: r, none => if c = 32 then wgo r none else wgo r (some [c])
  | c :: r, some b => if c = 32 then b :: wgo r none else wgo r (some (b ++ [c]))
/-- The word that has begun. -/
def curW (s : ByteArray) (f : Option Nat) (i : Nat) : Option (List UInt8) := f.map fun k => (s.data.toList.drop k).take (i - k)
def fromV (f : Option Nat) : Int := match f with | none => -1 | some k => (k : Int)
theorem curW_next (s : ByteArray) (k i : Nat) (hk : k ≤ i) (hi : i < s.size) : (s.data.toList.drop k).take (i + 1 - k) = (s.data.toList.drop k).take (i - k) ++ [s[i]] := by
  have hil : i < s.data.toList.length := by rw [← size_listE]; exact hi
  rw [show i + 1 - k = (i - k) + 1 by omega, List.take_add_one, List.getElem?_drop, show k + (i - k) = i by omega, List.getElem?_eq_getElem hil]
  rfl
theorem extractKK (b : ByteArray) (k i : Nat) : b.extract k i = ⟨((b.data.toList.drop k).take (i - k)).toArray⟩ := by
  apply ByteArray.ext
  rw [ByteArray.data_extract]
  apply Array.ext'
  rw [Array.toList_extract, List.extract_eq_take_drop]

set_option maxRecDepth 100000 in
set_option maxHeartbeats 4000000 in
theorem rwords_c (s : ByteArray) (w : World) (hs : s.size ≤ 1000000) : Calls Tryd.prog 12 #[.string s] w fun e w' =>
    ∃ V, e = .returned V ∧ w'.ownsRow w.heap.size 9 1 V (wgo s.data.toList none).length (strs (wgo s.data.toList none)) ∧ Below w.heap.size w w' := by
  obtain ⟨j0, hj0, hy0, hy1, hy2⟩ := info_parts str_info
  obtain ⟨R, hR⟩ : ∃ R, R = wgo s.data.toList none := ⟨_, rfl⟩
  rw [← hR]
  have HR := Lib.hid hR
  clear hR
  go_enter Tryd.func12, Tryd.ntmps12
  go_wp2_with fail
  go_loopg [3, 4, 5, 6] (s.size + 1) (fun kk ov fv iv sv wr => ∃ (outs : List (List UInt8)) (f : Option Nat) (i : Nat), fv = .int .i64 (fromV f) ∧ iv = .int .i64 (i : Int) ∧ i + kk = s.size + 1 ∧ outs.length ≤ i ∧ (∀ k, f = some k → k ≤ i ∧ i ≤ s.size) ∧ Hid (wr.ownsRow w.heap.size 9 1 ov outs.length (strs outs)) ∧ Hid (Below w.heap.size w wr) ∧
    Hid (R = outs ++ wgo (s.data.toList.drop i) (curW s f i)))
  case atStart => exact ⟨[], none, 0, rfl, rfl, by omega, Nat.zero_le _, (fun k h => by cases h), Lib.hid (World.ownsRow_nil _ _ _ _), Lib.hid (Below.refl _ _), HR⟩
  case round =>
    obtain ⟨outs, f, i, rfl, rfl, hk, hol, hf, HO, HB, HQ⟩ := hrel
    obtain ⟨ov, hov⟩ : ∃ ov, ov = u3 := ⟨_, rfl⟩
    subst hov
    have hbz : w.heap.size ≤ wr.heap.size := HB.out.size
    by_cases hi : i < s.size
    · obtain ⟨kk, rfl⟩ : ∃ kk, gk = kk + 1 := ⟨gk - 1, by omega⟩
      have hiI : (i : Int) < (s.size : Int) := by omega
      have hiL : (i : Int) ≤ (s.size : Int) := by omega
      have hdc := drop_cons s i hi
      by_cases h32 : s[i] = 32
      · have t1 : ((s[i].toNat : Int) != 32) = false := by rw [h32]; rfl
        cases f with
        | none =>
          have HE := Lib.hid (show R = outs ++ wgo (s.data.toList.drop (i + 1)) (curW s none (i + 1)) by
            rw [HQ.out, hdc, h32]; show _ = outs ++ wgo _ none; rw [show curW s none i = none from rfl, wgo, if_pos rfl])
          rw [show fromV none = -1 from rfl]
          clear hdc h32 hf
          go_wp2_with fail
          go_roundg kk
          case measure => omega
          case rel => exact ⟨outs, none, i + 1, rfl, by go_num, by omega, by omega, (fun k h => by cases h), HO, HB, HE⟩
        | some k =>
          obtain ⟨hk1, hk2⟩ := hf k rfl
          obtain ⟨b, hb⟩ : ∃ b, b = (s.data.toList.drop k).take (i - k) := ⟨_, rfl⟩
          have HX := Lib.hid (show s.extract k i = ⟨b.toArray⟩ by rw [hb]; exact extractKK s k i)
          have HE := Lib.hid (show R = (outs ++ [b]) ++ wgo (s.data.toList.drop (i + 1)) (curW s none (i + 1)) by
            rw [HQ.out, hdc, h32, show curW s (some k) i = some b by rw [hb]; rfl, wgo, if_pos rfl, List.append_assoc]; rfl)
          rw [show fromV (some k) = (k : Int) from rfl]
          have k0 : (0 : Int) ≤ (k : Int) := by omega
          have k1 : (k : Int) ≤ (i : Int) := by omega
          have hx := HX.out
          clear hdc h32 hf hb
          go_wp2_with (at_builtin; refine wpList_append_own _ rfl _ _ 22 rfl w.heap.size 9 j0 (.string ⟨#[]⟩) 1 16 Tryd.underlying22 hj0 hy0 hy1 hy2 rfl (by decide) ov outs.length (strs outs) rfl (HO.out.alloc _) ⟨wr.heap.size, 0, none⟩ 1 1 [.string ⟨b.toArray⟩] rfl rfl ?c1 ?c2 ?c3 ?c4 ?c5 ?_
                       case c1 => exact cell_one_new _ _ _
                       case c2 => intro u hu; simp at hu; subst hu; rfl
                       case c3 => unfold maxLen; omega
                       case c4 => omega
                       case c5 => simp; omega
                       intro v' w5 hown hgrow _
                       have HB5 := Lib.hid (grown_below (HB.out.alloc hbz _) (by simp; omega) hgrow (fun k hk => own_ge HO.out k hk))
                       have HO5 := Lib.hid (strs_snoc hown)
                       clear hown hgrow)
          go_roundg kk
          case measure => omega
          case rel => exact ⟨outs ++ [b], none, i + 1, rfl, by go_num, by omega, by simp; omega, (fun k h => by cases h), HO5, HB5, HE⟩
      · have t1 : ((s[i].toNat : Int) != 32) = true := (ne_byte (x := s[i]) 32 32 rfl h32).2
        cases f with
        | none =>
          have HE := Lib.hid (show R = outs ++ wgo (s.data.toList.drop (i + 1)) (curW s (some i) (i + 1)) by
            rw [HQ.out, hdc, show curW s none i = none from rfl, wgo, if_neg h32]
            unfold curW
            rw [Option.map_some, curW_next s i i (Nat.le_refl _) hi, Nat.sub_self]; rfl)
          rw [show fromV none = -1 from rfl]
          clear hdc h32 hf
          go_wp2_with fail
          go_roundg kk
          case measure => omega
          case rel => exact ⟨outs, some i, i + 1, rfl, by go_num, by omega, by omega, (fun k h => by cases h; omega), HO, HB, HE⟩
        | some k =>
          obtain ⟨hk1, hk2⟩ := hf k rfl
          have HE := Lib.hid (show R = outs ++ wgo (s.data.toList.drop (i + 1)) (curW s (some k) (i + 1)) by
            rw [HQ.out, hdc]
            unfold curW
            rw [Option.map_some, Option.map_some, wgo, if_neg h32, curW_next s k i hk1 hi])
          rw [show fromV (some k) = (k : Int) from rfl]
          have k0 : (0 : Int) ≤ (k : Int) := by omega
          clear hdc h32 hf
          go_wp2_with fail
          go_roundg kk
          case measure => omega
          case rel => exact ⟨outs, some k, i + 1, rfl, by go_num, by omega, by omega, (fun q h => by cases h; omega), HO, HB, HE⟩
    · have hnI : ¬ (i : Int) < (s.size : Int) := by omega
      have hd := drop_end s i (by omega)
      by_cases hie : i = s.size
      · obtain ⟨kk, rfl⟩ : ∃ kk, gk = kk + 1 := ⟨gk - 1, by omega⟩
        have hiL : (i : Int) ≤ (s.size : Int) := by omega
        have hd2 := drop_end s (i + 1) (by omega)
        cases f with
        | none =>
          have HE := Lib.hid (show R = outs ++ wgo (s.data.toList.drop (i + 1)) (curW s none (i + 1)) by rw [HQ.out, hd, hd2]; rfl)
          rw [show fromV none = -1 from rfl]
          clear hd hd2 hf hie
          go_wp2_with fail
          go_roundg kk
          case measure => omega
          case rel => exact ⟨outs, none, i + 1, rfl, by go_num, by omega, by omega, (fun k h => by cases h), HO, HB, HE⟩
        | some k =>
          obtain ⟨hk1, hk2⟩ := hf k rfl
          obtain ⟨b, hb⟩ : ∃ b, b = (s.data.toList.drop k).take (i - k) := ⟨_, rfl⟩
          have HX := Lib.hid (show s.extract k i = ⟨b.toArray⟩ by rw [hb]; exact extractKK s k i)
          have HE := Lib.hid (show R = (outs ++ [b]) ++ wgo (s.data.toList.drop (i + 1)) (curW s none (i + 1)) by
            rw [HQ.out, hd, hd2, show curW s (some k) i = some b by rw [hb]; rfl]
            show outs ++ [b] = outs ++ [b] ++ []
            rw [List.append_nil])
          rw [show fromV (some k) = (k : Int) from rfl]
          have k0 : (0 : Int) ≤ (k : Int) := by omega
          have k1 : (k : Int) ≤ (i : Int) := by omega
          have hx := HX.out
          clear hd hd2 hf hb hie
          go_wp2_with (at_builtin; refine wpList_append_own _ rfl _ _ 22 rfl w.heap.size 9 j0 (.string ⟨#[]⟩) 1 16 Tryd.underlying22 hj0 hy0 hy1 hy2 rfl (by decide) ov outs.length (strs outs) rfl (HO.out.alloc _) ⟨wr.heap.size, 0, none⟩ 1 1 [.string ⟨b.toArray⟩] rfl rfl ?c1 ?c2 ?c3 ?c4 ?c5 ?_
                       case c1 => exact cell_one_new _ _ _
                       case c2 => intro u hu; simp at hu; subst hu; rfl
                       case c3 => unfold maxLen; omega
                       case c4 => omega
                       case c5 => simp; omega
                       intro v' w5 hown hgrow _
                       have HB5 := Lib.hid (grown_below (HB.out.alloc hbz _) (by simp; omega) hgrow (fun k hk => own_ge HO.out k hk))
                       have HO5 := Lib.hid (strs_snoc hown)
                       clear hown hgrow)
          go_roundg kk
          case measure => omega
          case rel => exact ⟨outs ++ [b], none, i + 1, rfl, by go_num, by omega, by simp; omega, (fun k h => by cases h), HO5, HB5, HE⟩
      · have hf0 : f = none := by
          cases f with
          | none => rfl
          | some k => have := (hf k rfl).2; omega
        subst hf0
        have hge : ¬ (i : Int) ≤ (s.size : Int) := by omega
        have HE := Lib.hid (show R = outs by rw [HQ.out, hd]; show outs ++ [] = outs; rw [List.append_nil])
        clear hd hf hie
        go_wp2_with fail
        go_ret
        exact ⟨_, rfl, by rw [HE.out]; exact HO.out, HB.out⟩
end Go.Proofs.YtcnfbdabbnhjlaaDoor
namespace Go.Proofs.YtcnfbdabbnhjlaaDoor
open Go.RowKit Go.Lib
set_option linter.unusedVariables false

def wordsM : List (List UInt8) := [[109, 101], [104, 101, 114, 101], [98, 97, 108, 108], [98, 111, 120], [35, 53], [115, 119, 111, 114, 100], []]
def wantM (me here : Int) : List Int := [me, here, 5, 6, 5, -3, -1]
def doL : List UInt8 := [100, 111, 32]
def txtD (a : List UInt8) : List UInt8 := doL ++ a
def txtC (a p b : List UInt8) : List UInt8 := doL ++ a ++ [32] ++ p ++ [32] ++ b
def chkC (a p b : List UInt8) : Bool :=
  (cmdHead (txtC a p b)).1 == [100, 111] && cmdParts (cmdHead (txtC a p b)).2.2 == (a, p, b) && wgo (cmdHead (txtC a p b)).2.1 none == (cmdHead (txtC a p b)).2.2
def chkD (a : List UInt8) : Bool := cmdParts (cmdHead (txtD a)).2.2 == (a, [], [])
set_option maxRecDepth 100000 in
theorem chk_all : (wordsM.all fun a => prepsS.all fun p => (wordsM.take 6).all fun b => chkC a p b) = true := by decide +kernel
set_option maxRecDepth 100000 in
theorem chkD_all : (wordsM.all fun a => chkD a) = true := by decide +kernel
theorem chkC_of {a p b : List UInt8} (ha : a ∈ wordsM) (hp : p ∈ prepsS) (hb : b ∈ wordsM.take 6) : (cmdHead (txtC a p b)).1 = [100, 111] ∧ cmdParts (cmdHead (txtC a p b)).2.2 = (a, p, b) ∧ wgo (cmdHead (txtC a p b)).2.1 none = (cmdHead (txtC a p b)).2.2 := by
  have h := List.all_eq_true.1 (List.all_eq_true.1 (List.all_eq_true.1 chk_all a ha) p hp) b hb
  unfold chkC at h
  rw [Bool.and_eq_true, Bool.and_eq_true, beq_iff_eq, beq_iff_eq, beq_iff_eq] at h
  exact ⟨h.1.1, h.1.2, h.2⟩
theorem chkD_of {a : List UInt8} (ha : a ∈ wordsM) : cmdParts (cmdHead (txtD a)).2.2 = (a, [], []) := by
  have h := List.all_eq_true.1 chkD_all a ha
  unfold chkD at h
  rwa [beq_iff_eq] at h
theorem obT_vals : obT ballL = 5 ∧ obT boxL = 6 ∧ obT [35, 53] = 5 ∧ obT [115, 119, 111, 114, 100] = -3 ∧ obT [] = -1 := by decide +kernel
theorem means_want (me here : Int) : ∀ (a : Nat) (x : List UInt8), wordsM[a]? = some x → (wantM me here)[a]? = some (meansI me here obT x)
  | 0, x, h => by injection h with h; subst h; rfl
  | 1, x, h => by injection h with h; subst h; rfl
  | 2, x, h => by injection h with h; subst h; unfold meansI; rw [if_neg (by decide), if_neg (by decide), show ([98, 97, 108, 108] : List UInt8) = ballL from rfl, obT_vals.1]; rfl
  | 3, x, h => by injection h with h; subst h; unfold meansI; rw [if_neg (by decide), if_neg (by decide), show ([98, 111, 120] : List UInt8) = boxL from rfl, obT_vals.2.1]; rfl
  | 4, x, h => by injection h with h; subst h; unfold meansI; rw [if_neg (by decide), if_neg (by decide), obT_vals.2.2.1]; rfl
  | 5, x, h => by injection h with h; subst h; unfold meansI; rw [if_neg (by decide), if_neg (by decide), obT_vals.2.2.2.1]; rfl
  | 6, x, h => by injection h with h; subst h; unfold meansI; rw [if_neg (by decide), if_neg (by decide), obT_vals.2.2.2.2]; rfl
  | n + 7, x, h => by cases h
theorem means_none (me here : Int) : meansI me here obT [] = -1 := by unfold meansI; rw [if_neg (by decide), if_neg (by decide), obT_vals.2.2.2.2]
theorem okW_mem : ∀ d ∈ wordsM, okW d := by
  intro d hd
  simp only [wordsM, List.mem_cons, List.not_mem_nil, or_false] at hd
  rcases hd with rfl | rfl | rfl | rfl | rfl | rfl | rfl
  · exact .inr (.inr ⟨by decide, by decide⟩)
  · exact .inr (.inr ⟨by decide, by decide⟩)
  · exact .inr (.inr ⟨by decide, by decide⟩)
  · exact .inr (.inr ⟨by decide, by decide⟩)
  · exact .inr (.inl rfl)
  · exact .inr (.inr ⟨by decide, by decide⟩)
  · exact .inl rfl
end Go.Proofs.YtcnfbdabbnhjlaaDoor
namespace Go.Proofs.YtcnfbdabbnhjlaaDoor
open Go.RowKit Go.Lib
set_option linter.unusedVariables false

/-- What CmdMeans lays: the two things, the words, what they are to mean. -/
structure MSt (w1 w : World) (me here : Int) : Prop where
  below : Below w1.heap.size w1 w
  t : ThO w (some ⟨w1.heap.size + 1 + 1, 0, none⟩) thingsT
  ws : ∀ j x, wordsM[j]? = some x → w.cell? ⟨w1.heap.size + 1 + 1 + 1, j, none⟩ = some (.string ⟨x.toArray⟩)
  vs : ∀ j x, (wantM me here)[j]? = some x → w.cell? ⟨w1.heap.size + 1 + 1 + 1 + 1, j, none⟩ = some (Value.int .i64 x)
  lt : w1.heap.size + 1 + 1 + 1 + 1 < w.heap.size
theorem MSt.move {w1 w w' : World} {me here : Int} (h : MSt w1 w me here) (hb : Below w.heap.size w w') : MSt w1 w' me here :=
  have hlt := h.lt
  ⟨h.below.trans (below_le' hb (by omega)), h.t.below hb, fun j x hj => (hb.cell (p := ⟨w1.heap.size + 1 + 1 + 1, j, none⟩) (by show w1.heap.size + 1 + 1 + 1 < _; omega)).trans (h.ws j x hj), fun j x hj => (hb.cell (p := ⟨w1.heap.size + 1 + 1 + 1 + 1, j, none⟩) hlt).trans (h.vs j x hj), Nat.lt_of_lt_of_le hlt hb.size⟩
def mW1 (w1 : World) : World := w1.alloc (.cells #[.string ⟨#[98, 97, 108, 108]⟩, .string ⟨#[109, 101]⟩] 9)
def mW2 (w1 : World) : World := (mW1 w1).alloc (.cells #[.string ⟨#[98, 111, 120]⟩, .string ⟨#[104, 101, 114, 101]⟩] 9)
def mW3 (w1 : World) : World := (mW2 w1).alloc (.cells #[.int .i64 5, .slice (some ⟨w1.heap.size, 0, none⟩) 2 2, .int .i64 6, .slice (some ⟨w1.heap.size + 1, 0, none⟩) 2 2] 33)
def mW4 (w1 : World) : World := (mW3 w1).alloc (.cells #[.string ⟨#[109, 101]⟩, .string ⟨#[104, 101, 114, 101]⟩, .string ⟨#[98, 97, 108, 108]⟩, .string ⟨#[98, 111, 120]⟩, .string ⟨#[35, 53]⟩, .string ⟨#[115, 119, 111, 114, 100]⟩, .string ⟨#[]⟩] 9)
def mW5 (w1 : World) (me here : Int) : World := (mW4 w1).alloc (.cells #[.int .i64 me, .int .i64 here, .int .i64 5, .int .i64 6, .int .i64 5, .int .i64 (-3), .int .i64 (-1)] 3)
theorem two_strs {w : World} {g : Nat} {a b : List UInt8} (h : Blk w g 9 #[.string ⟨a.toArray⟩, .string ⟨b.toArray⟩]) : StrO w (some ⟨g, 0, none⟩) [a, b] :=
  .inr ⟨g, 0, rfl, h.lt, fun j x hj => by
    rw [Nat.zero_add]
    match j, hj with
    | 0, hj => injection hj with hj; subst hj; exact h.cell 0
    | 1, hj => injection hj with hj; subst hj; exact h.cell 1
    | j + 2, hj => cases hj⟩
theorem MSt.new (w1 : World) (me here : Int) : MSt w1 (mW5 w1 me here) me here := by
  have s1 : (mW1 w1).heap.size = w1.heap.size + 1 := by unfold mW1; simp
  have s2 : (mW2 w1).heap.size = w1.heap.size + 1 + 1 := by unfold mW2; rw [World.size_alloc, s1]
  have s3 : (mW3 w1).heap.size = w1.heap.size + 1 + 1 + 1 := by unfold mW3; rw [World.size_alloc, s2]
  have s4 : (mW4 w1).heap.size = w1.heap.size + 1 + 1 + 1 + 1 := by unfold mW4; rw [World.size_alloc, s3]
  have s5 : (mW5 w1 me here).heap.size = w1.heap.size + 1 + 1 + 1 + 1 + 1 := by unfold mW5; rw [World.size_alloc, s4]
  have b1 : Blk (mW1 w1) w1.heap.size 9 #[.string ⟨#[98, 97, 108, 108]⟩, .string ⟨#[109, 101]⟩] := Blk.new _ _ _
  have b2 : Blk (mW2 w1) (w1.heap.size + 1) 9 #[.string ⟨#[98, 111, 120]⟩, .string ⟨#[104, 101, 114, 101]⟩] := by rw [← s1]; exact Blk.new _ _ _
  have b3 : Blk (mW3 w1) (w1.heap.size + 1 + 1) 33 #[.int .i64 5, .slice (some ⟨w1.heap.size, 0, none⟩) 2 2, .int .i64 6, .slice (some ⟨w1.heap.size + 1, 0, none⟩) 2 2] := by rw [← s2]; exact Blk.new _ _ _
  have b4 : Blk (mW4 w1) (w1.heap.size + 1 + 1 + 1) 9 #[.string ⟨#[109, 101]⟩, .string ⟨#[104, 101, 114, 101]⟩, .string ⟨#[98, 97, 108, 108]⟩, .string ⟨#[98, 111, 120]⟩, .string ⟨#[35, 53]⟩, .string ⟨#[115, 119, 111, 114, 100]⟩, .string ⟨#[]⟩] := by rw [← s3]; exact Blk.new _ _ _
  have b5 : Blk (mW5 w1 me here) (w1.heap.size + 1 + 1 + 1 + 1) 3 #[.int .i64 me, .int .i64 here, .int .i64 5, .int .i64 6, .int .i64 5, .int .i64 (-3), .int .i64 (-1)] := by rw [← s4]; exact Blk.new _ _ _
  have c1 : Blk (mW5 w1 me here) w1.heap.size 9 #[.string ⟨#[98, 97, 108, 108]⟩, .string ⟨#[109, 101]⟩] := (((b1.alloc _).alloc _).alloc _).alloc _
  have c2 : Blk (mW5 w1 me here) (w1.heap.size + 1) 9 #[.string ⟨#[98, 111, 120]⟩, .string ⟨#[104, 101, 114, 101]⟩] := ((b2.alloc _).alloc _).alloc _
  have c3 : Blk (mW5 w1 me here) (w1.heap.size + 1 + 1) 33 #[.int .i64 5, .slice (some ⟨w1.heap.size, 0, none⟩) 2 2, .int .i64 6, .slice (some ⟨w1.heap.size + 1, 0, none⟩) 2 2] := (b3.alloc _).alloc _
  have c4 : Blk (mW5 w1 me here) (w1.heap.size + 1 + 1 + 1) 9 #[.string ⟨#[109, 101]⟩, .string ⟨#[104, 101, 114, 101]⟩, .string ⟨#[98, 97, 108, 108]⟩, .string ⟨#[98, 111, 120]⟩, .string ⟨#[35, 53]⟩, .string ⟨#[115, 119, 111, 114, 100]⟩, .string ⟨#[]⟩] := b4.alloc _
  refine ⟨?_, ?_, ?_, ?_, b5.lt⟩
  · have x1 : Below w1.heap.size w1 (mW1 w1) := (Below.refl _ _).alloc (Nat.le_refl _) _
    have x2 : Below w1.heap.size w1 (mW2 w1) := x1.alloc (by rw [s1]; omega) _
    have x3 : Below w1.heap.size w1 (mW3 w1) := x2.alloc (by rw [s2]; omega) _
    have x4 : Below w1.heap.size w1 (mW4 w1) := x3.alloc (by rw [s3]; omega) _
    exact x4.alloc (by rw [s4]; omega) _
  · refine .inr ⟨_, 0, rfl, c3.lt, fun j t hj => ?_⟩
    match j, hj with
    | 0, hj => injection hj with hj; subst hj; exact ⟨c3.cell 0, some ⟨w1.heap.size, 0, none⟩, 2, c3.cell 1, two_strs c1⟩
    | 1, hj => injection hj with hj; subst hj; exact ⟨c3.cell 2, some ⟨w1.heap.size + 1, 0, none⟩, 2, c3.cell 3, two_strs c2⟩
    | j + 2, hj => cases hj
  · intro j x hj
    match j, hj with
    | 0, hj => injection hj with hj; subst hj; exact c4.cell 0
    | 1, hj => injection hj with hj; subst hj; exact c4.cell 1
    | 2, hj => injection hj with hj; subst hj; exact c4.cell 2
    | 3, hj => injection hj with hj; subst hj; exact c4.cell 3
    | 4, hj => injection hj with hj; subst hj; exact c4.cell 4
    | 5, hj => injection hj with hj; subst hj; exact c4.cell 5
    | 6, hj => injection hj with hj; subst hj; exact c4.cell 6
    | j + 7, hj => cases hj
  · intro j x hj
    match j, hj with
    | 0, hj => injection hj with hj; subst hj; exact b5.cell 0
    | 1, hj => injection hj with hj; subst hj; exact b5.cell 1
    | 2, hj => injection hj with hj; subst hj; exact b5.cell 2
    | 3, hj => injection hj with hj; subst hj; exact b5.cell 3
    | 4, hj => injection hj with hj; subst hj; exact b5.cell 4
    | 5, hj => injection hj with hj; subst hj; exact b5.cell 5
    | 6, hj => injection hj with hj; subst hj; exact b5.cell 6
    | j + 7, hj => cases hj
theorem headA_len (s : List UInt8) : (cmdHead s).2.1.length ≤ s.length := by
  have ht : (Lib.trimLeftB s 32).length ≤ s.length := trimLeft_len _ _
  unfold cmdHead
  simp only
  split
  · simp only [List.length_drop]; omega
  · have h2 : ∀ n, (Lib.trimLeftB ((Lib.trimLeftB s 32).drop n) 32).length ≤ s.length := fun n => by
      have := trimLeft_len ((Lib.trimLeftB s 32).drop n) 32
      rw [List.length_drop] at this
      omega
    split <;> exact h2 _
theorem ne8 {w2 : World} {o : Obj} {A : Option Addr} (b : Nat) (p : Nat) (h : Hid (∀ g q, A = some ⟨g, q, none⟩ → ((w2.alloc o).drew).heap.size ≤ g)) : ∀ g q, A = some ⟨g, q, none⟩ → g ≠ w2.heap.size := fun g q e => by
  have := h.out g q e
  rw [show ((w2.alloc o).drew).heap.size = w2.heap.size + 1 from World.size_alloc w2 o] at this
  omega
theorem tdiv7 (k : Int) (h0 : -9223372036854775808 ≤ k) (h1 : k ≤ 9223372036854775807) : -9223372036854775808 ≤ k.tdiv 7 ∧ k.tdiv 7 ≤ 9223372036854775807 := by
  have h := Int.tmod_add_mul_tdiv k 7
  have h2 := Int.tmod_lt_of_pos k (show (0 : Int) < 7 by decide)
  have h3 : -7 < Int.tmod k 7 := by
    by_cases hk : 0 ≤ k
    · have := Int.tmod_nonneg (7 : Int) hk; omega
    · have h4 := Int.tmod_lt_of_pos (-k) (show (0 : Int) < 7 by decide)
      rw [Int.neg_tmod] at h4; omega
  omega

set_option maxRecDepth 100000 in
set_option maxHeartbeats 8000000 in
theorem cmdMeans_c (k p me here : Int) (ea : Nat → Addr) (w : World) (hk0 : -9223372036854775808 ≤ k) (hk1 : k ≤ 9223372036854775807) (hp0 : -9223372036854775808 ≤ p) (hp1 : p ≤ 9223372036854775807) (hm0 : -9223372036854775808 ≤ me) (hm1 : me ≤ 9223372036854775807)
    (hh0 : -9223372036854775808 ≤ here) (hh1 : here ≤ 9223372036854775807) (he : ErrsAt w ea) (ht : SpaceAt w) :
    Calls Tryd.prog 5 #[.int .i64 k, .int .i64 p, .int .i64 me, .int .i64 here] w fun e w' => e = .returned (.bool true) ∧ Below w.heap.size w w' := by
  have hroom := he.room
  have F := Lib.hid (cfirst_c ea w he ht)
  have NA := Lib.hid (fun W => wnumber_e k 7 W hk0 hk1 (by decide) (by decide))
  obtain ⟨a, ha, ha7⟩ : ∃ a : Nat, a = (k % ((7 : Nat) : Int)).toNat ∧ a < 7 := ⟨_, rfl, by omega⟩
  rw [← ha] at NA
  have hk7 := tdiv7 k hk0 hk1
  have NB := Lib.hid (fun W => wnumber_e (k.tdiv 7) 6 W hk7.1 hk7.2 (by decide) (by decide))
  obtain ⟨b, hb, hb6⟩ : ∃ b : Nat, b = ((k.tdiv 7) % ((6 : Nat) : Int)).toNat ∧ b < 6 := ⟨_, rfl, by omega⟩
  rw [← hb] at NB
  have NP := Lib.hid (fun W => wnumber_e p 19 W hp0 hp1 (by decide) (by decide))
  obtain ⟨q, hq, hq19⟩ : ∃ q : Nat, q = (p % ((19 : Nat) : Int)).toNat ∧ q < 19 := ⟨_, rfl, by omega⟩
  rw [← hq] at NP
  have PRC := Lib.hid (fun (W : World) (hW : Below w.heap.size w W) => preps_c W (space_below ht hW hroom))
  have PC := Lib.hid (fun (W : World) (hW : Below w.heap.size w W) A (hT : ThO W A thingsT) (t : ByteArray) (ht_ : t.size ≤ 10000) (hP : ∀ d, d = (cmdParts (cmdHead t.data.toList).2.2).1 ∨ d = (cmdParts (cmdHead t.data.toList).2.2).2.2 → okW d) =>
    parse_c2 (P := okW) t A 2 2 me here obT W (space_below ht hW hroom) (by have := hW.size; omega) (fun d W' hd hW' hl => objT_c d A 2 ea W' (he.below (hW.trans (below_le' hW' hW.size)) (by omega)) hl hd (hT.below hW')) ht_ (fun d h _ _ => hP d h))
  clear ha hb hq hk7 he ht
  go_enter Tryd.func5, Tryd.ntmps5
  go_wp2_with fail
  refine F.out.mono ?_
  rintro e w1 ⟨rfl, hb1⟩
  have HB1 := Lib.hid hb1
  clear hb1
  go_wp2_with fail
  have HM := Lib.hid (MSt.new w1 me here)
  obtain ⟨wm, hwm⟩ : ∃ wm, wm = mW5 w1 me here := ⟨_, rfl⟩
  rw [← hwm] at HM
  unfold mW5 mW4 mW3 mW2 mW1 at hwm
  rw [← hwm]
  clear hwm
  refine (NA.out _).mono ?_
  rintro e w2 ⟨rfl, rfl⟩
  go_wp2_with fail
  refine (NB.out _).mono ?_
  rintro e w2 ⟨rfl, rfl⟩
  have HBM := Lib.hid (HB1.out.trans (below_le' HM.out.below HB1.out.size))
  go_wp2_with fail
  refine (PRC.out _ HBM.out).mono ?_
  rintro e w2 ⟨g, rfl, hg1, hg2, hst, hb2⟩
  have HM2 := Lib.hid (HM.out.move hb2)
  have HB2 := Lib.hid (HBM.out.trans (below_le' hb2 HBM.out.size))
  obtain ⟨P, hP⟩ : ∃ P, P = prepsL.getD q ByteArray.empty := ⟨_, rfl⟩
  have cq : w2.cell? ⟨g, q, none⟩ = some (.string P) := by
    have := hst q (by rw [show prepsL.length = 19 from rfl]; exact hq19)
    rw [Nat.zero_add, ← hP] at this; exact this
  have HP := Lib.hid hP
  clear hst hb2 hP
  go_wp2_with fail
  refine (NP.out _).mono ?_
  rintro e w3 ⟨rfl, rfl⟩
  have hq0 : (0 : Int) ≤ (q : Int) := by omega
  have hq1 : (q : Int) < 19 := by omega
  obtain ⟨xa, hxa⟩ : ∃ x, wordsM[a]? = some x := ⟨_, List.getElem?_eq_getElem (show a < wordsM.length from ha7)⟩
  obtain ⟨xb, hxb⟩ : ∃ x, wordsM[b]? = some x := ⟨_, List.getElem?_eq_getElem (show b < wordsM.length by show b < 7; omega)⟩
  have hma : xa ∈ wordsM := List.mem_of_getElem? hxa
  have hmb0 : xb ∈ wordsM := List.mem_of_getElem? hxb
  have hmb : xb ∈ wordsM.take 6 := List.mem_of_getElem? (i := b) (by rw [List.getElem?_take_of_lt hb6]; exact hxb)
  have hPm : P.data.toList ∈ prepsS := by
    rw [← preps_list, HP.out]
    refine List.mem_map_of_mem (f := fun x : ByteArray => x.data.toList) ?_
    have hql : q < prepsL.length := hq19
    rw [List.getD_eq_getElem?_getD, List.getElem?_eq_getElem hql]
    exact List.getElem_mem hql
  have la : xa.length ≤ 10 := (show ∀ x ∈ wordsM, x.length ≤ 10 by decide) xa hma
  have lb : xb.length ≤ 10 := (show ∀ x ∈ wordsM, x.length ≤ 10 by decide) xb hmb0
  have lp : P.size ≤ 10 := by rw [size_listE]; exact (show ∀ x ∈ prepsS, x.length ≤ 10 by decide) _ hPm
  obtain ⟨Ab, hAb⟩ : ∃ Ab : ByteArray, Ab = ⟨xa.toArray⟩ := ⟨_, rfl⟩
  obtain ⟨Bb, hBb⟩ : ∃ Bb : ByteArray, Bb = ⟨xb.toArray⟩ := ⟨_, rfl⟩
  have laz : Ab.size ≤ 10 := by rw [hAb]; simp [ByteArray.size]; omega
  have lbz : Bb.size ≤ 10 := by rw [hBb]; simp [ByteArray.size]; omega
  obtain ⟨Da, hDa⟩ : ∃ Da, Da = meansI me here obT xa := ⟨_, rfl⟩
  obtain ⟨Db, hDb⟩ : ∃ Db, Db = meansI me here obT xb := ⟨_, rfl⟩
  have ca := HM2.out.ws a xa hxa
  have cb := HM2.out.ws b xb hxb
  have wa := HM2.out.vs a _ (means_want me here a xa hxa)
  have wb := HM2.out.vs b _ (means_want me here b xb hxb)
  rw [← hAb] at ca
  rw [← hBb] at cb
  rw [← hDa] at wa
  rw [← hDb] at wb
  obtain ⟨hk_1, hk_2, hk_3⟩ := chkC_of hma hPm hmb
  obtain ⟨args, hargs⟩ : ∃ l, l = (cmdHead (txtC xa P.data.toList xb)).2.2 := ⟨_, rfl⟩
  obtain ⟨AG, hAG⟩ : ∃ g : ByteArray, g = ⟨(cmdHead (txtC xa P.data.toList xb)).2.1.toArray⟩ := ⟨_, rfl⟩
  have HAG := Lib.hid (show wgo AG.data.toList none = args by rw [hAG, hargs]; exact hk_3)
  have hTX : ((((((⟨#[100, 111, 32]⟩ : ByteArray) ++ Ab) ++ (⟨#[32]⟩ : ByteArray)) ++ P) ++ (⟨#[32]⟩ : ByteArray)) ++ Bb).data.toList = txtC xa P.data.toList xb := by
    rw [hAb, hBb]
    simp [ByteArray.data_append, txtC, doL]
  have hTD : ((⟨#[100, 111, 32]⟩ : ByteArray) ++ Ab).data.toList = txtD xa := by
    rw [hAb]
    simp [ByteArray.data_append, txtD, doL]
  have hTZ : ((((((⟨#[100, 111, 32]⟩ : ByteArray) ++ Ab) ++ (⟨#[32]⟩ : ByteArray)) ++ P) ++ (⟨#[32]⟩ : ByteArray)) ++ Bb).size ≤ 10000 := by
    rw [ByteArray.size_append, ByteArray.size_append, ByteArray.size_append, ByteArray.size_append, ByteArray.size_append, show (⟨#[100, 111, 32]⟩ : ByteArray).size = 3 from rfl, show (⟨#[32]⟩ : ByteArray).size = 1 from rfl]; omega
  have hDZ : ((⟨#[100, 111, 32]⟩ : ByteArray) ++ Ab).size ≤ 10000 := by
    rw [ByteArray.size_append, show (⟨#[100, 111, 32]⟩ : ByteArray).size = 3 from rfl]; omega
  have hagl : args.length ≤ 1000000 ∧ AG.size ≤ 1000000 := by
    have h1 := head_tot (txtC xa P.data.toList xb)
    rw [← hargs] at h1
    have h2 := totL_len args
    have h3 : (txtC xa P.data.toList xb).length ≤ 10000 := by rw [← hTX, ← size_listE]; exact hTZ
    refine ⟨by omega, ?_⟩
    rw [hAG]
    have := headA_len (txtC xa P.data.toList xb)
    simp [ByteArray.size]; omega
  have hab0 : (0 : Int) ≤ (a : Int) := by omega
  have hab1 : (a : Int) < 7 := by omega
  have hbb0 : (0 : Int) ≤ (b : Int) := by omega
  have hbb1 : (b : Int) < 7 := by omega
  have CC := Lib.hid (fun (W : World) (hW : Below w2.heap.size w2 W) => show Calls Tryd.prog 9 #[.string ((((((⟨#[100, 111, 32]⟩ : ByteArray) ++ Ab) ++ (⟨#[32]⟩ : ByteArray)) ++ P) ++ (⟨#[32]⟩ : ByteArray)) ++ Bb), .slice (some ⟨w1.heap.size + 1 + 1, 0, none⟩) 2 2, .int .i64 me, .int .i64 here] W fun e W' =>
      ∃ (A : Option Addr) (c : Nat), e = .returned (.agg #[.string ⟨#[100, 111]⟩, .string AG, .string Ab, .string P, .string Bb, .slice A args.length c, .int .i64 Da, .int .i64 Db]) ∧ (∀ g o, A = some ⟨g, o, none⟩ → W.heap.size ≤ g) ∧ StrO W' A args ∧ Below W.heap.size W W' from by
    have := PC.out W (HB2.out.trans (below_le' hW HB2.out.size)) _ (HM2.out.move hW).t _ hTZ (by
      rw [hTX, hk_2]
      rintro d (rfl | rfl)
      · exact okW_mem _ hma
      · exact okW_mem _ hmb0)
    refine this.mono ?_
    rintro e W' ⟨A, c, h1, h2, h3, h4, h5⟩
    rw [hTX, hk_1, hk_2] at h1
    rw [← hargs] at h1
    rw [hTX, ← hargs] at h4
    simp only at h1
    rw [byteArr_mk P, ← hAb, ← hBb, ← hDa, ← hDb, ← hAG] at h1
    exact ⟨A, c, h1, h3, h4, h5⟩)
  have CD := Lib.hid (fun (W : World) (hW : Below w2.heap.size w2 W) => show Calls Tryd.prog 9 #[.string ((⟨#[100, 111, 32]⟩ : ByteArray) ++ Ab), .slice (some ⟨w1.heap.size + 1 + 1, 0, none⟩) 2 2, .int .i64 me, .int .i64 here] W fun e W' =>
      ∃ (s0 s1 s2 : ByteArray) (A5 : Option Addr) (n5 c5 : Nat), e = .returned (.agg #[.string s0, .string s1, .string s2, .string ⟨#[]⟩, .string ⟨#[]⟩, .slice A5 n5 c5, .int .i64 Da, .int .i64 (-1)]) ∧ Below W.heap.size W W' from by
    have := PC.out W (HB2.out.trans (below_le' hW HB2.out.size)) _ (HM2.out.move hW).t _ hDZ (by
      rw [hTD, chkD_of hma]
      rintro d (rfl | rfl)
      · exact okW_mem _ hma
      · exact .inl rfl)
    refine this.mono ?_
    rintro e W' ⟨A, c, h1, h2, h3, h4, h5⟩
    rw [hTD, chkD_of hma] at h1
    simp only at h1
    rw [means_none, ← hDa] at h1
    exact ⟨_, _, _, _, _, _, h1, h5⟩)
  have HCA := Lib.hid ca
  have HCB := Lib.hid cb
  have HWA := Lib.hid wa
  have HWB := Lib.hid wb
  have hH3 : w1.heap.size + 1 + 1 + 1 + 1 < w2.heap.size := HM2.out.lt
  clear hxa hxb hma hmb hmb0 hPm hAb hBb hDa hDb hk_1 hk_2 hk_3 hargs hAG hTX hTD hTZ hDZ la lb wa wb
  have s0z : (⟨#[100, 111, 32]⟩ : ByteArray).size = 3 := rfl
  have s1z : (⟨#[32]⟩ : ByteArray).size = 1 := rfl
  have E0 : ∀ W : World, (Op.stringOp .add (⟨#[100, 111, 32]⟩ : ByteArray) Ab).run Tryd.prog W = .ok (.string ((⟨#[100, 111, 32]⟩ : ByteArray) ++ Ab)) W := fun W => run_string_add_sum W _ _ (by simp only [s0z]; omega)
  have N0 : ¬ (9223372036854775807 : Nat) < 3 + Ab.size := by omega
  have E1 : ∀ W : World, (Op.stringOp .add ((⟨#[100, 111, 32]⟩ : ByteArray) ++ Ab) (⟨#[32]⟩ : ByteArray)).run Tryd.prog W = .ok (.string (((⟨#[100, 111, 32]⟩ : ByteArray) ++ Ab) ++ (⟨#[32]⟩ : ByteArray))) W := fun W => run_string_add_sum W _ _ (by simp only [ByteArray.size_append, s0z, s1z]; omega)
  have N1 : ¬ (9223372036854775807 : Nat) < 3 + Ab.size + 1 := by omega
  have E2 : ∀ W : World, (Op.stringOp .add (((⟨#[100, 111, 32]⟩ : ByteArray) ++ Ab) ++ (⟨#[32]⟩ : ByteArray)) P).run Tryd.prog W = .ok (.string ((((⟨#[100, 111, 32]⟩ : ByteArray) ++ Ab) ++ (⟨#[32]⟩ : ByteArray)) ++ P)) W := fun W => run_string_add_sum W _ _ (by simp only [ByteArray.size_append, s0z, s1z]; omega)
  have N2 : ¬ (9223372036854775807 : Nat) < 3 + Ab.size + 1 + P.size := by omega
  have E3 : ∀ W : World, (Op.stringOp .add ((((⟨#[100, 111, 32]⟩ : ByteArray) ++ Ab) ++ (⟨#[32]⟩ : ByteArray)) ++ P) (⟨#[32]⟩ : ByteArray)).run Tryd.prog W = .ok (.string (((((⟨#[100, 111, 32]⟩ : ByteArray) ++ Ab) ++ (⟨#[32]⟩ : ByteArray)) ++ P) ++ (⟨#[32]⟩ : ByteArray))) W := fun W => run_string_add_sum W _ _ (by simp only [ByteArray.size_append, s0z, s1z]; omega)
  have N3 : ¬ (9223372036854775807 : Nat) < 3 + Ab.size + 1 + P.size + 1 := by omega
  have E4 : ∀ W : World, (Op.stringOp .add (((((⟨#[100, 111, 32]⟩ : ByteArray) ++ Ab) ++ (⟨#[32]⟩ : ByteArray)) ++ P) ++ (⟨#[32]⟩ : ByteArray)) Bb).run Tryd.prog W = .ok (.string ((((((⟨#[100, 111, 32]⟩ : ByteArray) ++ Ab) ++ (⟨#[32]⟩ : ByteArray)) ++ P) ++ (⟨#[32]⟩ : ByteArray)) ++ Bb)) W := fun W => run_string_add_sum W _ _ (by simp only [ByteArray.size_append, s0z, s1z]; omega)
  have N4 : ¬ (9223372036854775807 : Nat) < 3 + Ab.size + 1 + P.size + 1 + Bb.size := by omega
  clear s0z s1z
  go_upto_region 13 with fail
  go_cut [17] (fun cp wx => ∃ G A c, cp = .pointer (some ⟨G, 0, none⟩) ∧ Hid (Blk wx G 27 #[.string ⟨#[100, 111]⟩, .string AG, .string Ab, .string P, .string Bb, .slice A args.length c, .int .i64 Da, .int .i64 Db]) ∧ Hid (StrO wx A args) ∧ Hid (Below w2.heap.size w2 wx))
  case first =>
    obtain ⟨S, hS⟩ : ∃ S : World → Prop, S = fun W => W.cell? ⟨w1.heap.size + 1 + 1 + 1, a, none⟩ = some (.string Ab) ∧ W.cell? ⟨w1.heap.size + 1 + 1 + 1, b, none⟩ = some (.string Bb) ∧ Below w2.heap.size w2 W := ⟨_, rfl⟩
    have KS : ∀ W, Below w2.heap.size w2 W → S W := fun W hW => by rw [hS]; exact ⟨cell_below hW ca, cell_below hW cb, hW⟩
    have BS : ∀ W, S W → Below w2.heap.size w2 W := fun W h => by rw [hS] at h; exact h.2.2
    have C1 := Lib.hid (fun W (h : S W) => (CC.out W (BS W h)).mono (R' := fun e W' => ∃ (A : Option Addr) (c : Nat), e = .returned (.agg #[.string ⟨#[100, 111]⟩, .string AG, .string Ab, .string P, .string Bb, .slice A args.length c, .int .i64 Da, .int .i64 Db]) ∧ Hid (∀ g o, A = some ⟨g, o, none⟩ → W.heap.size ≤ g) ∧ Hid (StrO W' A args) ∧ Hid (Below W.heap.size W W') ∧ S W')
      fun e W' ⟨A, c, h1, h2, h3, h4⟩ => ⟨A, c, h1, h2, h3, h4, KS _ ((BS W h).trans (below_le' h4 (BS W h).size))⟩)
    have K0 : S w2.drew := KS _ ((Below.refl _ _).drew)
    have KA : ∀ W o, S W → S (W.alloc o) := fun W o h => KS _ ((BS W h).alloc (BS W h).size o)
    have KC : ∀ W i u, S W → S (W.setCell ⟨w2.heap.size, i, none⟩ u) := fun W i u h => KS _ ((BS W h).setCell (Nat.le_refl _) u)
    have KD : ∀ o, S ((w2.alloc o).drew) := fun o => KS _ (((Below.refl _ _).alloc (Nat.le_refl _) o).drew)
    have NBZ : ∀ W', Hid (Below ((w2.alloc (.cells #[.string ⟨#[]⟩, .string ⟨#[]⟩, .string ⟨#[]⟩, .string ⟨#[]⟩, .string ⟨#[]⟩, .slice none 0 0, .int .i64 0, .int .i64 0] 27)).drew).heap.size ((w2.alloc (.cells #[.string ⟨#[]⟩, .string ⟨#[]⟩, .string ⟨#[]⟩, .string ⟨#[]⟩, .string ⟨#[]⟩, .slice none 0 0, .int .i64 0, .int .i64 0] 27)).drew) W') → Blk W' w2.heap.size 27 #[.string ⟨#[]⟩, .string ⟨#[]⟩, .string ⟨#[]⟩, .string ⟨#[]⟩, .string ⟨#[]⟩, .slice none 0 0, .int .i64 0, .int .i64 0] ∧ W'.cell? ⟨w2.heap.size, 0, none⟩ = some (.string ⟨#[]⟩) ∧ W'.frozen? ⟨w2.heap.size, 0, none⟩ = false ∧ W'.cell? ⟨w2.heap.size, 1, none⟩ = some (.string ⟨#[]⟩) ∧ W'.frozen? ⟨w2.heap.size, 1, none⟩ = false ∧ W'.cell? ⟨w2.heap.size, 2, none⟩ = some (.string ⟨#[]⟩) ∧ W'.frozen? ⟨w2.heap.size, 2, none⟩ = false ∧ W'.cell? ⟨w2.heap.size, 3, none⟩ = some (.string ⟨#[]⟩) ∧ W'.frozen? ⟨w2.heap.size, 3, none⟩ = false ∧ W'.cell? ⟨w2.heap.size, 4, none⟩ = some (.string ⟨#[]⟩) ∧ W'.frozen? ⟨w2.heap.size, 4, none⟩ = false ∧ W'.cell? ⟨w2.heap.size, 5, none⟩ = some (.slice none 0 0) ∧ W'.frozen? ⟨w2.heap.size, 5, none⟩ = false ∧ W'.cell? ⟨w2.heap.size, 6, none⟩ = some (.int .i64 0) ∧ W'.frozen? ⟨w2.heap.size, 6, none⟩ = false ∧ W'.cell? ⟨w2.heap.size, 7, none⟩ = some (.int .i64 0) ∧ W'.frozen? ⟨w2.heap.size, 7, none⟩ = false := fun W' h => by
      have q : Blk W' w2.heap.size 27 #[.string ⟨#[]⟩, .string ⟨#[]⟩, .string ⟨#[]⟩, .string ⟨#[]⟩, .string ⟨#[]⟩, .slice none 0 0, .int .i64 0, .int .i64 0] := (Blk.new w2 _ _).below (w := (w2.alloc (.cells #[.string ⟨#[]⟩, .string ⟨#[]⟩, .string ⟨#[]⟩, .string ⟨#[]⟩, .string ⟨#[]⟩, .slice none 0 0, .int .i64 0, .int .i64 0] 27)).drew) h.out (Blk.new w2 27 #[.string ⟨#[]⟩, .string ⟨#[]⟩, .string ⟨#[]⟩, .string ⟨#[]⟩, .string ⟨#[]⟩, .slice none 0 0, .int .i64 0, .int .i64 0]).lt
      exact ⟨q, q.cell 0, q.frozen 0, q.cell 1, q.frozen 1, q.cell 2, q.frozen 2, q.cell 3, q.frozen 3, q.cell 4, q.frozen 4, q.cell 5, q.frozen 5, q.cell 6, q.frozen 6, q.cell 7, q.frozen 7⟩
    have K8 : ∀ W (q0 q1_ q2_ q3_ q4_ q5_ q6_ q7_ : Value), S W → S ((((((((W.setCell ⟨w2.heap.size, 0, none⟩ q0).setCell ⟨w2.heap.size, 1, none⟩ q1_).setCell ⟨w2.heap.size, 2, none⟩ q2_).setCell ⟨w2.heap.size, 3, none⟩ q3_).setCell ⟨w2.heap.size, 4, none⟩ q4_).setCell ⟨w2.heap.size, 5, none⟩ q5_).setCell ⟨w2.heap.size, 6, none⟩ q6_).setCell ⟨w2.heap.size, 7, none⟩ q7_) := fun W q0 q1_ q2_ q3_ q4_ q5_ q6_ q7_ h => KS _ (below_set8 (BS W h) (Nat.le_refl _) _ _ _ _ _ _ _ _)
    have NBH := Lib.hid NBZ
    clear KS BS NBZ
    subst hS
    go_wp2_with fail
    go_region_held3 (fun W => W.cell? ⟨w1.heap.size + 1 + 1 + 1, a, none⟩ = some (.string Ab) ∧ W.cell? ⟨w1.heap.size + 1 + 1 + 1, b, none⟩ = some (.string Bb) ∧ Below w2.heap.size w2 W)
      (first | (with_reducible assumption) | (with_reducible exact K0) | (with_reducible exact KA _ _ (by assumption)) | (with_reducible exact KA _ _ K0) | (with_reducible exact KC _ _ _ (by assumption)) | (with_reducible exact KD _) | (with_reducible exact K8 _ _ _ _ _ _ _ _ _ (by assumption)))
      (first
        | (go_at_call 9; refine (C1.out _ ?_).mono ?_; (with_reducible exact KD _); rintro e w8 ⟨A, c, rfl, hge8, hst8, hbw8, hs8⟩; obtain ⟨hq8, y0, x0, y1, x1, y2, x2, y3, x3, y4, x4, y5, x5, y6, x6, y7, x7⟩ := NBH.out w8 (by with_reducible exact hbw8))
        | (go_at_call 9; refine (C1.out _ ?_).mono ?_; (with_reducible assumption); rintro e w8 ⟨A, c, rfl, hge8, hst8, hbw8, hs8⟩))
    all_goals
      go_wp2_with fail
      go_meet
      first
        | exact ⟨w2.heap.size, A, c, rfl, Lib.hid (hq8.set8 _ _ _ _ _ _ _ _), Lib.hid ((((((((hst8.out.off (ne8 0 0 hge8)).off (ne8 0 0 hge8)).off (ne8 0 0 hge8)).off (ne8 0 0 hge8)).off (ne8 0 0 hge8)).off (ne8 0 0 hge8)).off (ne8 0 0 hge8)).off (ne8 0 0 hge8)), Lib.hid (below_set8 hs8.2.2 (Nat.le_refl _) _ _ _ _ _ _ _ _)⟩
        | exact ⟨w8.heap.size, A, c, rfl, Lib.hid (Blk.new w8 _ _), Lib.hid (hst8.out.below ((Below.refl _ _).alloc (Nat.le_refl _) _)), Lib.hid (hs8.2.2.alloc hs8.2.2.size _)⟩
  case rest =>
    obtain ⟨G, A, c, rfl, HG, HST, HBG⟩ := hcut
    have hGl := HG.out.lt
    have za := cell_below HBG.out ca
    clear ca cb cq E1 E2 E3 E4 N1 N2 N3 N4
    go_wp2_with fail
    refine (CD.out _ HBG.out).mono ?_
    rintro e w9 ⟨s0, s1, s2, A5, n5, c5, rfl, hb9⟩
    have HB9 := Lib.hid (HBG.out.trans (below_le' hb9 HBG.out.size))
    have HG9 := Lib.hid (HG.out.below hb9 hGl)
    have HST9 := Lib.hid (HST.out.below hb9)
    have hG9 : G < w9.heap.size := HG9.out.lt
    have hH9 : w1.heap.size + 1 + 1 + 1 + 1 < w9.heap.size := by have := HB9.out.size; omega
    have ya := cell_below HB9.out HCA.out
    have yb := cell_below HB9.out HCB.out
    have ua := cell_below HB9.out HWA.out
    have ub := cell_below HB9.out HWB.out
    have g0 : w9.cell? ⟨G, 0, none⟩ = some (.string ⟨#[100, 111]⟩) := HG9.out.cell 0
    have g1 : w9.cell? ⟨G, 1, none⟩ = some (.string AG) := HG9.out.cell 1
    have g2 : w9.cell? ⟨G, 2, none⟩ = some (.string Ab) := HG9.out.cell 2
    have g3 : w9.cell? ⟨G, 3, none⟩ = some (.string P) := HG9.out.cell 3
    have g4 : w9.cell? ⟨G, 4, none⟩ = some (.string Bb) := HG9.out.cell 4
    have g5 : w9.cell? ⟨G, 5, none⟩ = some (.slice A args.length c) := HG9.out.cell 5
    have g6 : w9.cell? ⟨G, 6, none⟩ = some (.int .i64 Da) := HG9.out.cell 6
    have g7 : w9.cell? ⟨G, 7, none⟩ = some (.int .i64 Db) := HG9.out.cell 7
    clear za hb9 HCA HCB HWA HWB
    go_wp2_with fail
    obtain ⟨wD, hwD⟩ : ∃ wD, wD = w9.alloc (.cells #[.string s0, .string s1, .string s2, .string ⟨#[]⟩, .string ⟨#[]⟩, .slice A5 n5 c5, .int .i64 Da, .int .i64 (-1)] 27) := ⟨_, rfl⟩
    have bD : Blk wD w9.heap.size 27 #[.string s0, .string s1, .string s2, .string ⟨#[]⟩, .string ⟨#[]⟩, .slice A5 n5 c5, .int .i64 Da, .int .i64 (-1)] := by rw [hwD]; exact Blk.new _ _ _
    have hbD : Below w9.heap.size w9 wD := by rw [hwD]; exact (Below.refl _ _).alloc (Nat.le_refl _) _
    rw [← hwD]
    clear hwD
    have D3 : wD.cell? ⟨w9.heap.size, 3, none⟩ = some (.string ⟨#[]⟩) := bD.cell 3
    have D6 : wD.cell? ⟨w9.heap.size, 6, none⟩ = some (.int .i64 Da) := bD.cell 6
    have D7 : wD.cell? ⟨w9.heap.size, 7, none⟩ = some (.int .i64 (-1)) := bD.cell 7
    have ya := cell_below hbD ya; have yb := cell_below hbD yb; have ua := cell_below hbD ua; have ub := cell_below hbD ub
    have g0 := cell_below hbD g0; have g1 := cell_below hbD g1; have g2 := cell_below hbD g2; have g3 := cell_below hbD g3
    have g4 := cell_below hbD g4; have g5 := cell_below hbD g5; have g6 := cell_below hbD g6; have g7 := cell_below hbD g7
    have HSD := Lib.hid (HST9.out.below hbD)
    have HBD := Lib.hid (HB9.out.trans (below_le' hbD HB9.out.size))
    obtain ⟨S, hS⟩ : ∃ S : World → Prop, S = fun W => W.cell? ⟨w1.heap.size + 1 + 1 + 1, a, none⟩ = some (.string Ab) ∧ W.cell? ⟨w1.heap.size + 1 + 1 + 1, b, none⟩ = some (.string Bb) ∧ W.cell? ⟨w1.heap.size + 1 + 1 + 1 + 1, a, none⟩ = some (.int .i64 Da) ∧ W.cell? ⟨w1.heap.size + 1 + 1 + 1 + 1, b, none⟩ = some (.int .i64 Db) ∧ W.cell? ⟨G, 0, none⟩ = some (.string ⟨#[100, 111]⟩) ∧ W.cell? ⟨G, 1, none⟩ = some (.string AG) ∧ W.cell? ⟨G, 2, none⟩ = some (.string Ab) ∧ W.cell? ⟨G, 3, none⟩ = some (.string P) ∧ W.cell? ⟨G, 4, none⟩ = some (.string Bb) ∧ W.cell? ⟨G, 5, none⟩ = some (.slice A args.length c) ∧ W.cell? ⟨G, 6, none⟩ = some (.int .i64 Da) ∧ W.cell? ⟨G, 7, none⟩ = some (.int .i64 Db) ∧ W.cell? ⟨w9.heap.size, 3, none⟩ = some (.string ⟨#[]⟩) ∧ W.cell? ⟨w9.heap.size, 6, none⟩ = some (.int .i64 Da) ∧ W.cell? ⟨w9.heap.size, 7, none⟩ = some (.int .i64 (-1)) ∧ Below wD.heap.size wD W := ⟨_, rfl⟩
    have KS : ∀ W, Below wD.heap.size wD W → S W := fun W hW => by
      rw [hS]
      exact ⟨cell_below hW ya, cell_below hW yb, cell_below hW ua, cell_below hW ub, cell_below hW g0, cell_below hW g1, cell_below hW g2, cell_below hW g3, cell_below hW g4, cell_below hW g5, cell_below hW g6, cell_below hW g7, cell_below hW D3, cell_below hW D6, cell_below hW D7, hW⟩
    have BS : ∀ W, S W → Below wD.heap.size wD W := fun W h => by rw [hS] at h; exact h.2.2.2.2.2.2.2.2.2.2.2.2.2.2.2
    have C1 := Lib.hid (fun W (h : S W) => (rwords_c AG W hagl.2).mono (R' := fun e W' => ∃ (VA : Option Addr) (VC : Nat), e = .returned (.slice VA args.length VC) ∧ Hid (StrO W' VA args) ∧ S W') fun e W' ⟨V, h1, h2, h3⟩ => by
      rw [HAG.out] at h2
      obtain ⟨VA, VC, rfl⟩ := own_form h2
      exact ⟨VA, VC, h1, strO_own h2, KS _ ((BS W h).trans (below_le' h3 (BS W h).size))⟩)
    have C2 := Lib.hid (fun W (h : S W) VA VC (hv : StrO W VA args) => (sameT_c VA A VC c args W hv (HSD.out.below (BS W h)) hagl.1).mono (R' := fun e W' => e = .returned (.bool true) ∧ S W') fun e W' ⟨h1, n, h2⟩ => ⟨h1, by rw [h2]; exact KS _ (below_drewN (BS W h) n)⟩)
    have BSS := Lib.hid BS
    have K0 : S wD.drew := KS _ ((Below.refl _ _).drew)
    clear KS BS D3 D6 D7 ya yb ua ub g0 g1 g2 g3 g4 g5 g6 g7 bD hbD
    subst hS
    go_wp2_with fail
    go_region_held3 (fun W => W.cell? ⟨w1.heap.size + 1 + 1 + 1, a, none⟩ = some (.string Ab) ∧ W.cell? ⟨w1.heap.size + 1 + 1 + 1, b, none⟩ = some (.string Bb) ∧ W.cell? ⟨w1.heap.size + 1 + 1 + 1 + 1, a, none⟩ = some (.int .i64 Da) ∧ W.cell? ⟨w1.heap.size + 1 + 1 + 1 + 1, b, none⟩ = some (.int .i64 Db) ∧ W.cell? ⟨G, 0, none⟩ = some (.string ⟨#[100, 111]⟩) ∧ W.cell? ⟨G, 1, none⟩ = some (.string AG) ∧ W.cell? ⟨G, 2, none⟩ = some (.string Ab) ∧ W.cell? ⟨G, 3, none⟩ = some (.string P) ∧ W.cell? ⟨G, 4, none⟩ = some (.string Bb) ∧ W.cell? ⟨G, 5, none⟩ = some (.slice A args.length c) ∧ W.cell? ⟨G, 6, none⟩ = some (.int .i64 Da) ∧ W.cell? ⟨G, 7, none⟩ = some (.int .i64 Db) ∧ W.cell? ⟨w9.heap.size, 3, none⟩ = some (.string ⟨#[]⟩) ∧ W.cell? ⟨w9.heap.size, 6, none⟩ = some (.int .i64 Da) ∧ W.cell? ⟨w9.heap.size, 7, none⟩ = some (.int .i64 (-1)) ∧ Below wD.heap.size wD W)
      (first | (with_reducible assumption) | (with_reducible exact K0))
      (first
        | (go_at_call 12; refine (C1.out _ ?_).mono ?_; (with_reducible assumption); rintro e w10 ⟨VA, VC, rfl, hv10, hs10⟩)
        | (go_at_call 10; refine (C2.out _ ?_ VA VC hv10.out).mono ?_; (with_reducible assumption); rintro e w11 ⟨rfl, hs11⟩))
    go_wp2_with fail
    go_ret
    exact ⟨rfl, HB2.out.trans (below_le' (HBD.out.trans (below_le' (BSS.out w11 hs11) HBD.out.size)) HB2.out.size)⟩
end Go.Proofs.YtcnfbdabbnhjlaaDoor
namespace Go.Proofs.YtcnfbdabbnhjlaaDoor
open Go.RowKit Go.Lib
set_option linter.unusedVariables false

theorem star_err : "*" ++ "errors.errorString" = "*errors.errorString" := by decide
theorem row_err (u : TypeId) (h : Tryd.prog.typeName? 3 u = some "*errors.errorString") : u = 157 :=
  typeName_ptr_named (nm := "errors.errorString") (by rw [star_err]; kernel_rfl) (by kernel_rfl) (by decide) u (by rw [star_err]; exact h)
/-- A sentinel that heads the list: its variable's cell. -/
theorem sent_at {n : String} {text : List UInt8} {r : List (String × DataW Unit)} {W : World} (g : Nat) (h : laidMet Tryd.prog ((n, .iface "*errors.errorString" (.ptr (.agg [.lit (.string text)]))) :: r) W)
    (hg : Tryd.prog.globalNamed n = some g) (ht : (Tryd.prog.globals[g]?).map (·.type) = some 64) : ∃ a : Addr, W.cell? ⟨g, 0, none⟩ = some (.iface 157 (.pointer (some a))) := by
  obtain ⟨a, s, hv, _⟩ := laid_sentinel h hg ht Tryd.underlying64 row_err Tryd.underlying157 Tryd.underlying171 rfl rfl Tryd.underlying9 (by kernel_rfl) (by kernel_rfl)
  exact ⟨a, by simpa using World.var?_cell hg hv 0⟩
end Go.Proofs.YtcnfbdabbnhjlaaDoor
