/- Contracts of the functions that the statement reaches, and the plain mathematics beneath: several texts joined. -/
import Derived.Lib.Strings
import Derived.Laws.ResultCell
import Derived.Test.YtbalpfpcbckghaaGreatDoorFtkAA
namespace Go.Proofs.YtbalpfpcbckghaaGreatDoor
open Go.RowKit Go.Lib
set_option linter.unusedVariables false

theorem empty_iff (s : ByteArray) : (s.toList.isEmpty = true ∧ s.toList = [] ∧ s.data.toList = []) ∨ (s.toList.isEmpty = false ∧ ¬s.toList = [] ∧ s.data.toList ≠ []) := by
  rw [Lib.toList_data]
  cases h : s.data.toList with
  | nil => exact .inl ⟨rfl, rfl, rfl⟩
  | cons a t => exact .inr ⟨rfl, by simp, by simp⟩

theorem own_c (k n : Int) (s : ByteArray) (sa : Option Addr) (len sc : Nat) (ea : Nat → Addr) (w : World) (he : ErrsAt w ea) (hs : s.size ≤ 140737488351232) :
    Calls Tryz.prog 165 #[.agg #[.int .i64 k, .int .i64 n, .string s, .slice sa len sc]] w fun e w' => e = .returned (errV ea (ownE k n s len)) ∧ Below w.heap.size w w' := by
  by_cases h0 : k < 0
  · rw [show ownE k n s len = 105 by unfold ownE; rw [if_pos (.inl h0)]]
    exact own_lo n s sa len sc ea w he k h0
  by_cases h4 : 4 < k
  · rw [show ownE k n s len = 105 by unfold ownE; rw [if_pos (.inr h4)]]
    exact own_hi n s sa len sc ea w he k h4
  have hk : k = 0 ∨ k = 1 ∨ k = 2 ∨ k = 3 ∨ k = 4 := by omega
  clear h0 h4
  have nz : ∀ m : Int, m ≠ 0 → (m != 0) = true ∧ (m == 0) = false := fun m hm => ⟨by rw [bne_iff_ne]; exact hm, by rw [beq_eq_false_iff_ne]; exact hm⟩
  have pe : s.data.toList = [] → prB s.data.toList = true := fun h => by rw [h]; rfl
  rcases hk with rfl | rfl | rfl | rfl | rfl
  · rcases empty_iff s with ⟨e1, e2, e3⟩ | ⟨e1, e2, e3⟩
    · by_cases hl : 0 < len
      · rw [show ownE 0 n s len = 103 by simp [ownE, e3, hl]]
        exact own_0l n s sa len sc ea w he e1 e2 hl
      · obtain rfl : len = 0 := by omega
        rw [show ownE 0 n s 0 = 0 by simp [ownE, e3, prB]]
        exact own_0ok n s sa 0 sc ea w he e1 e2 hs (pe e3)
    · rw [show ownE 0 n s len = 103 by unfold ownE; rw [if_neg (by omega), if_neg (by omega), if_neg (by omega), if_pos (.inl ⟨by omega, e3⟩)]]
      exact own_0s n s sa len sc ea w he e1 e2
  · by_cases hr : n < -2147483648
    · rw [show ownE 1 n s len = 105 by unfold ownE; rw [if_neg (by omega), if_pos ⟨rfl, .inl hr⟩]]
      exact own_1lo n s sa len sc ea w he hr
    by_cases hr2 : 2147483647 < n
    · rw [show ownE 1 n s len = 105 by unfold ownE; rw [if_neg (by omega), if_pos ⟨rfl, .inr hr2⟩]]
      exact own_1hi n s sa len sc ea w he hr2
    have q1 : -2147483648 ≤ n := by omega
    have q2 : n ≤ 2147483647 := by omega
    rcases empty_iff s with ⟨e1, e2, e3⟩ | ⟨e1, e2, e3⟩
    · by_cases hl : 0 < len
      · rw [show ownE 1 n s len = 103 by unfold ownE; rw [if_neg (by omega), if_neg (by omega), if_neg (by omega), if_pos (.inr (.inl ⟨by omega, hl⟩))]]
        exact own_1l n s sa len sc ea w he q1 q2 e1 e2 hl
      · obtain rfl : len = 0 := by omega
        rw [show ownE 1 n s 0 = 0 by unfold ownE; rw [if_neg (by omega), if_neg (by omega), if_neg (by omega), if_neg (by simp [e3]), if_neg (by rw [pe e3]; decide)]]
        exact own_1ok n s sa 0 sc ea w he q1 q2 e1 e2 hs (pe e3)
    · rw [show ownE 1 n s len = 103 by unfold ownE; rw [if_neg (by omega), if_neg (by omega), if_neg (by omega), if_pos (.inl ⟨by omega, e3⟩)]]
      exact own_1s n s sa len sc ea w he q1 q2 e1 e2
  · by_cases hl : 0 < len
    · rw [show ownE 2 n s len = 103 by unfold ownE; rw [if_neg (by omega), if_neg (by omega), if_neg (by omega), if_pos (.inr (.inl ⟨by omega, hl⟩))]]
      exact own_2l n s sa len sc ea w he hl
    obtain rfl : len = 0 := by omega
    by_cases hn : n = 0
    · subst hn
      cases hp : prB s.data.toList with
      | true =>
        rw [show ownE 2 0 s 0 = 0 by unfold ownE; rw [if_neg (by omega), if_neg (by omega), if_neg (by omega), if_neg (by omega), if_neg (by rw [hp]; decide)]]
        exact own_2ok 0 s sa 0 sc ea w he hs hp
      | false =>
        rw [show ownE 2 0 s 0 = 103 by unfold ownE; rw [if_neg (by omega), if_neg (by omega), if_neg (by omega), if_neg (by omega), if_pos hp]]
        exact own_2p 0 s sa 0 sc ea w he hs hp
    · rw [show ownE 2 n s 0 = 103 by unfold ownE; rw [if_neg (by omega), if_neg (by omega), if_neg (by omega), if_pos (.inr (.inr ⟨.inl rfl, hn⟩))]]
      exact own_2n n s sa 0 sc ea w he (nz n hn).1 (nz n hn).2
  · by_cases hr : n < 0
    · rw [show ownE 3 n s len = 105 by unfold ownE; rw [if_neg (by omega), if_neg (by omega), if_pos ⟨rfl, .inl hr⟩]]
      exact own_3lo n s sa len sc ea w he hr
    by_cases hr2 : 14 < n
    · rw [show ownE 3 n s len = 105 by unfold ownE; rw [if_neg (by omega), if_neg (by omega), if_pos ⟨rfl, .inr hr2⟩]]
      exact own_3hi n s sa len sc ea w he hr2
    have q1 : 0 ≤ n := by omega
    have q2 : n ≤ 14 := by omega
    rcases empty_iff s with ⟨e1, e2, e3⟩ | ⟨e1, e2, e3⟩
    · by_cases hl : 0 < len
      · rw [show ownE 3 n s len = 103 by unfold ownE; rw [if_neg (by omega), if_neg (by omega), if_neg (by omega), if_pos (.inr (.inl ⟨by omega, hl⟩))]]
        exact own_3l n s sa len sc ea w he q1 q2 e1 e2 hl
      · obtain rfl : len = 0 := by omega
        rw [show ownE 3 n s 0 = 0 by unfold ownE; rw [if_neg (by omega), if_neg (by omega), if_neg (by omega), if_neg (by simp [e3]), if_neg (by rw [pe e3]; decide)]]
        exact own_3ok n s sa 0 sc ea w he q1 q2 e1 e2 hs (pe e3)
    · rw [show ownE 3 n s len = 103 by unfold ownE; rw [if_neg (by omega), if_neg (by omega), if_neg (by omega), if_pos (.inl ⟨by omega, e3⟩)]]
      exact own_3s n s sa len sc ea w he q1 q2 e1 e2
  · rcases empty_iff s with ⟨e1, e2, e3⟩ | ⟨e1, e2, e3⟩
    · by_cases hn : n = 0
      · subst hn
        rw [show ownE 4 0 s len = 0 by unfold ownE; rw [if_neg (by omega), if_neg (by omega), if_neg (by omega), if_neg (by simp [e3]), if_neg (by rw [pe e3]; decide)]]
        exact own_4ok 0 s sa len sc ea w he e1 e2 hs (pe e3)
      · rw [show ownE 4 n s len = 103 by unfold ownE; rw [if_neg (by omega), if_neg (by omega), if_neg (by omega), if_pos (.inr (.inr ⟨.inr rfl, hn⟩))]]
        exact own_4n n s sa len sc ea w he e1 e2 (nz n hn).1 (nz n hn).2
    · rw [show ownE 4 n s len = 103 by unfold ownE; rw [if_neg (by omega), if_neg (by omega), if_neg (by omega), if_pos (.inl ⟨by omega, e3⟩)]]
      exact own_4s n s sa len sc ea w he e1 e2
end Go.Proofs.YtbalpfpcbckghaaGreatDoor
namespace Go.Proofs.YtbalpfpcbckghaaGreatDoor
open Go.RowKit Go.Lib
set_option linter.unusedVariables false

/-- How many a text takes. -/
def mOf (k : Int) (s : ByteArray) : Int := if k = 2 then s.size else 0
/-- What is amiss with a list of values, and what is left. -/
def walkL : VL → Int → Int → Nat × Int
  | .nil, _, left => (0, left)
  | .cons k n s sub rest, deep, left =>
    let r : Nat × Int := if 40 < deep then (112, left) else if left ≤ mOf k s then (104, left) else if ownE k n s sub.len = 0 then walkL sub (deep + 1) (left - (1 + mOf k s)) else (ownE k n s sub.len, left - (1 + mOf k s))
    if r.1 = 0 then walkL rest deep r.2 else r
/-- The same of one value. -/
def walk1 (k n : Int) (s : ByteArray) (sub : VL) (deep left : Int) : Nat × Int :=
  if 40 < deep then (112, left) else if left ≤ mOf k s then (104, left) else if ownE k n s sub.len = 0 then walkL sub (deep + 1) (left - (1 + mOf k s)) else (ownE k n s sub.len, left - (1 + mOf k s))
theorem walkL_cons (k n : Int) (s : ByteArray) (sub rest : VL) (deep left : Int) :
    walkL (.cons k n s sub rest) deep left = if (walk1 k n s sub deep left).1 = 0 then walkL rest deep (walk1 k n s sub deep left).2 else walk1 k n s sub deep left := rfl

theorem mOf_ge (k : Int) (s : ByteArray) : 0 ≤ mOf k s := by unfold mOf; split <;> omega
theorem walkL_range : ∀ (l : VL) (deep left : Int), 0 ≤ left → 0 ≤ (walkL l deep left).2 ∧ (walkL l deep left).2 ≤ left
  | .nil, deep, left, h => ⟨h, Int.le_refl _⟩
  | .cons k n s sub rest, deep, left, h => by
    have hm := mOf_ge k s
    have h1 : 0 ≤ (walk1 k n s sub deep left).2 ∧ (walk1 k n s sub deep left).2 ≤ left := by
      unfold walk1
      split
      · exact ⟨h, Int.le_refl _⟩
      · split
        · exact ⟨h, Int.le_refl _⟩
        · split
          · have := walkL_range sub (deep + 1) (left - (1 + mOf k s)) (by omega); omega
          · simp only; omega
    rw [walkL_cons]
    split
    · have := walkL_range rest deep (walk1 k n s sub deep left).2 h1.1; omega
    · exact h1
theorem walk1_range (k n : Int) (s : ByteArray) (sub : VL) (deep left : Int) (h : 0 ≤ left) : 0 ≤ (walk1 k n s sub deep left).2 ∧ (walk1 k n s sub deep left).2 ≤ left := by
  have hm := mOf_ge k s
  unfold walk1
  split
  · exact ⟨h, Int.le_refl _⟩
  · split
    · exact ⟨h, Int.le_refl _⟩
    · split
      · have := walkL_range sub (deep + 1) (left - (1 + mOf k s)) (by omega); omega
      · simp only; omega

/-- Values that fit into memory. -/
def VL.fit : VL → Prop
  | .nil => True
  | .cons _ _ s sub rest => s.size ≤ 140737488351232 ∧ sub.len ≤ 140737488351232 ∧ sub.fit ∧ rest.fit
theorem VL.fit_drop : ∀ (i : Nat) (l : VL), l.fit → (l.drop i).fit
  | 0, l, h => by rw [VL.drop]; exact h
  | i + 1, .nil, h => h
  | i + 1, .cons _ _ _ _ r, h => VL.fit_drop i r h.2.2.2
def VL.size : VL → Nat
  | .nil => 0
  | .cons _ _ _ sub rest => sub.size + rest.size + 1
theorem VL.size_drop : ∀ (i : Nat) (l : VL), (l.drop i).size ≤ l.size
  | 0, l => by rw [VL.drop]; exact Nat.le_refl _
  | i + 1, .nil => Nat.le_refl _
  | i + 1, .cons _ _ _ sub r => by have := VL.size_drop i r; simp only [VL.drop, VL.size]; omega

/-- What is left: one number in a block of its own. -/
def LfAt (w : World) (L : Nat) (left : Int) : Prop := w.heap[L]? = some (.cells #[.int .i64 left] 3 (0, 0))
section
variable {w w' : World} {L : Nat} {left : Int}
theorem LfAt.lt (h : LfAt w L left) : L < w.heap.size := by
  rcases Nat.lt_or_ge L w.heap.size with hlt | hge
  · exact hlt
  · unfold LfAt at h; rw [Array.getElem?_eq_none hge] at h; cases h
theorem LfAt.c0 (h : LfAt w L left) : w.cell? ⟨L, 0, none⟩ = some (.int .i64 left) := cell_of_row w L 0 _ _ _ h
theorem LfAt.fr (h : LfAt w L left) : w.frozen? ⟨L, 0, none⟩ = false := by unfold LfAt at h; simp [World.frozen?, h]
theorem LfAt.alloc (h : LfAt w L left) (o : Obj) : LfAt (w.alloc o) L left := (Below.heap_alloc w o L h.lt).trans h
theorem LfAt.set (h : LfAt w L left) (n : Int) : LfAt (w.setCell ⟨L, 0, none⟩ (.int .i64 n)) L n := by
  unfold LfAt at h ⊢; simp [World.setCell, Array.getElem?_modify, h]
theorem LfAt.below (h : LfAt w L left) {B : Nat} (hb : Below B w w') (hL : L < B) : LfAt w' L left := (hb.block L hL).trans h
end
theorem only_alloc {a w : World} {row : Option Nat} (h : a.grownBy w row) (o : Obj) : a.grownBy (w.alloc o) row :=
  ⟨h.os, h.tape, h.output, Nat.le_trans h.size (by simp), fun i hi hne => (Below.heap_alloc w o i (Nat.lt_of_lt_of_le hi h.size)).trans (h.block i hi hne)⟩

theorem StB.below' {w w' : World} {g : Nat} {a b c d : Value} (h : StB w g a b c d) (hb : Below w.heap.size w w') : StB w' g a b c d := (hb.block g h.lt).trans h
theorem only_below' {a w w' : World} {row : Option Nat} (h : Below w.heap.size w w') (hz : a.heap.size ≤ w.heap.size) : w.grownBy w' row := only_below h _

def PWalk (w : World) (L : Nat) (ea : Nat → Addr) (r : Nat × Int) (e : Ending) (w' : World) : Prop := e = .returned (errV ea r.1) ∧ LfAt w' L r.2 ∧ w.grownBy w' (some L)

def WalkC (N : Nat) : Prop := ∀ (k n : Int) (s : ByteArray) (sub : VL) (sa : Option Addr) (sc : Nat) (deep left : Int) (L : Nat) (ea : Nat → Addr) (w : World), sub.size < N → ErrsAt w ea → LfAt w L left → 14 ≤ L →
  s.size ≤ 140737488351232 → sub.len ≤ 140737488351232 → sub.fit → sub.len ≤ sc → RpL w (fun b => b < w.heap.size ∧ b ≠ L) sub sa → 1 ≤ deep → deep ≤ 41 → 0 ≤ left → left ≤ 4096 →
  Calls Tryz.prog 108 #[.agg #[.int .i64 k, .int .i64 n, .string s, .slice sa sub.len sc], .int .i64 deep, .pointer (some ⟨L, 0, none⟩)] w (PWalk w L ea (walk1 k n s sub deep left))

set_option maxRecDepth 100000 in
set_option maxHeartbeats 2000000 in
theorem walk_step (N : Nat) (ih : ∀ N', N' < N → WalkC N') : WalkC N := by
  intro k n s sub sa sc deep left L ea w hN he hlf hL hss hsl hfit hsc hrep hd1 hd2 hl1 hl2
  have hLl := hlf.lt
  obtain ⟨wa, hwa⟩ : ∃ wa, wa = w.alloc (.cells #[.int .i64 k, .int .i64 n, .string s, .slice sa sub.len sc] 24) := ⟨_, rfl⟩
  have hba : Below w.heap.size w wa := by rw [hwa]; exact (Below.refl _ _).alloc (Nat.le_refl _) _
  have hV : StB wa w.heap.size (.int .i64 k) (.int .i64 n) (.string s) (.slice sa sub.len sc) := by rw [hwa]; exact StB.new w _ _ _ _
  have hlfa : LfAt wa L left := hlf.below hba hLl
  have hea : ErrsAt wa ea := he.below hba (Nat.le_of_lt he.room)
  have v0 := hV.c0; have v1 := hV.c1; have v2 := hV.c2; have v3 := hV.c3
  have l0 := hlfa.c0
  have lf0 := hlfa.fr
  have eD := hea.deep
  have eM := hea.many
  have HBA := Lib.hid hba
  have HV := Lib.hid hV
  have HLF := Lib.hid hlfa
  have HE := Lib.hid hea
  clear hV hlfa hea
  subst hwa
  clear hba
  by_cases hdp : 40 < deep
  · have HS := Lib.hid (show walk1 k n s sub deep left = (112, left) by unfold walk1; rw [if_pos hdp])
    go_enter Tryz.func108, Tryz.ntmps108
    go_wp2_with fail
    go_ret
    rw [HS.out]
    exact ⟨rfl, HLF.out, only_below HBA.out _⟩
  have hdp' : deep ≤ 40 := by omega
  clear hdp
  obtain ⟨m, hm⟩ : ∃ m : Int, m = mOf k s := ⟨_, rfl⟩
  have hm0 : 0 ≤ m := by rw [hm, mOf]; split <;> omega
  have hm1 : m ≤ 140737488351232 := by rw [hm, mOf]; split <;> omega
  by_cases hlm : left ≤ m
  · have HS := Lib.hid (show walk1 k n s sub deep left = (104, left) by unfold walk1; rw [if_neg (by omega), ← hm, if_pos hlm])
    by_cases hk : k = 2
    · subst hk
      have hlm' : left ≤ (s.size : Int) := by rw [hm, mOf, if_pos rfl] at hlm; exact hlm
      clear hm hlm hm0 hm1
      go_enter Tryz.func108, Tryz.ntmps108
      go_wp2_with fail
      go_ret
      rw [HS.out]
      exact ⟨rfl, HLF.out, only_below HBA.out _⟩
    · have hk' : (k == 2) = false := by rw [beq_eq_false_iff_ne]; exact hk
      have hlm' : left ≤ 0 := by rw [hm, mOf, if_neg hk] at hlm; exact hlm
      clear hm hlm hm0 hm1 hk
      go_enter Tryz.func108, Tryz.ntmps108
      go_wp2_with fail
      go_ret
      rw [HS.out]
      exact ⟨rfl, HLF.out, only_below HBA.out _⟩
  have hlm' : m < left := by omega
  clear hlm
  have HS := Lib.hid (show walk1 k n s sub deep left = if ownE k n s sub.len = 0 then walkL sub (deep + 1) (left - (1 + m)) else (ownE k n s sub.len, left - (1 + m)) by unfold walk1; rw [if_neg (by omega), ← hm, if_neg (by omega)])
  have HOWN := Lib.hid (fun W hW => own_c k n s sa sub.len sc ea W hW hss)
  by_cases hk : k = 2
  · subst hk
    obtain rfl : m = (s.size : Int) := by rw [hm, mOf, if_pos rfl]
    clear hm
    obtain ⟨w1, hw1⟩ : ∃ w1, w1 = (w.setCell ⟨L, 0, none⟩ (.int .i64 (left - (1 + (s.size : Int))))).alloc (.cells #[.int .i64 2, .int .i64 n, .string s, .slice sa sub.len sc] 24) := ⟨_, rfl⟩
    have HE1 := Lib.hid (show ErrsAt w1 ea by rw [hw1]; exact he.keep (fun b hb => (Below.heap_alloc _ _ _ (by have := he.room; simp [World.setCell]; omega)).trans (Below.heap_setCell _ _ _ _ (by show b ≠ L; omega))) (by simp [World.setCell]))
    have HL1 := Lib.hid (show LfAt w1 L (left - (1 + (s.size : Int))) by rw [hw1]; exact (hlf.set _).alloc _)
    have HV1 := Lib.hid (show StB w1 w.heap.size (.int .i64 2) (.int .i64 n) (.string s) (.slice sa sub.len sc) by rw [hw1]; have := StB.new (w.setCell ⟨L, 0, none⟩ (.int .i64 (left - (1 + (s.size : Int))))) (.int .i64 2) (.int .i64 n) (.string s) (.slice sa sub.len sc); simpa [World.setCell] using this)
    have HG1 := Lib.hid (show w.grownBy w1 (some L) by rw [hw1]; exact only_alloc (only_setCell (only_refl w _) (.inl rfl) _) _)
    have hz1 : w1.heap.size = w.heap.size + 1 := by rw [hw1]; simp [World.setCell]
    have HZ1 := Lib.hid hz1
    have HW1 := Lib.hid hw1
    have u0 := HV1.out.c0; have u1 := HV1.out.c1; have u2 := HV1.out.c2; have u3 := HV1.out.c3
    have u3' := u3
    rw [hw1] at u0 u1 u2 u3
    clear hw1 hz1
    go_enter Tryz.func108, Tryz.ntmps108
    go_wp2_with fail
    rw [← HW1.out]
    clear HW1 u0 u1 u2 u3 v0 v1 v2 v3 l0 lf0 eD eM
    refine (HOWN.out _ HE1.out).mono ?_
    rintro e w2 ⟨rfl, hb2⟩
    have HV2 := Lib.hid (HV1.out.below' hb2)
    have HL2 := Lib.hid (HL1.out.below hb2 HL1.out.lt)
    have HE2 := Lib.hid (HE1.out.below hb2 (Nat.le_of_lt HE1.out.room))
    have HG2 := Lib.hid (only_trans HG1.out (only_below' hb2 HG1.out.size))
    have hz2 : w.heap.size < w2.heap.size := by have := hb2.size; have := HZ1.out; omega
    have x3 := HV2.out.c3
    clear hb2
    obtain ⟨lf, hlf2⟩ : ∃ lf : Int, lf = left - (1 + (s.size : Int)) := ⟨_, rfl⟩
    have hlf0 : 0 ≤ lf := by omega
    have hlf4 : lf ≤ 4096 := by omega
    rw [← hlf2] at HL2 HS
    clear hlf2
    by_cases hoe : ownE 2 n s sub.len = 0
    · rw [if_pos hoe] at HS
      rw [hoe]
      rw [show errV ea 0 = Value.nilIface from rfl]
      have HRP := Lib.hid hrep
      clear hrep
      go_wp2_with fail
      go_loopg [42] sub.len (fun kk v wr => ∃ (i : Nat) (l : Int), v = .int .i64 i ∧ i + kk = sub.len ∧ LfAt wr L l ∧ ErrsAt wr ea ∧ w2.grownBy wr (some L) ∧ 0 ≤ l ∧ l ≤ 4096 ∧ Hid (walkL (sub.drop i) (deep + 1) l = walkL sub (deep + 1) lf))
      case atStart => exact ⟨0, lf, rfl, by omega, HL2.out, HE2.out, only_refl _ _, hlf0, hlf4, by show walkL (sub.drop 0) _ _ = _; rw [VL.drop]⟩
      case round =>
        obtain ⟨i, l, rfl, hik, hlr, her, hgr, hl0, hl4, hwl⟩ := hrel
        by_cases hi : i < sub.len
        · obtain ⟨g, rfl⟩ : ∃ g, gk = g + 1 := ⟨gk - 1, by omega⟩
          obtain ⟨k', n', s', sub', hd⟩ := VL.drop_of_lt i sub hi
          have hrw := HRP.out.grown (only_trans HG2.out hgr) (fun b hb => ⟨hb.1, fun e => by injection e with e; exact hb.2 e⟩)
          obtain ⟨b, o, hsa⟩ : ∃ b o, sa = some ⟨b, o, none⟩ := by
            cases sub with
            | nil => simp [VL.len] at hi
            | cons _ _ _ _ _ => obtain ⟨b, o, _, _, h, _⟩ := hrw; exact ⟨b, o, h⟩
          rw [hsa] at hrw
          have hdr := RpL.drop i sub b o hrw
          rw [hd] at hdr
          obtain ⟨b', o', sa', sc', hA, hSb, c0, c1, c2, c3, hcl, hrs, _⟩ := hdr
          injection hA with hA
          injection hA with hA1 hA2
          subst hA1
          subst hA2
          have hfd := VL.fit_drop i sub hfit
          rw [hd] at hfd
          obtain ⟨hf1, hf2, hf3, _⟩ := hfd
          have hszd := VL.size_drop i sub
          rw [hd] at hszd
          simp only [VL.size] at hszd
          have HWL := Lib.hid hwl
          have HDD := Lib.hid hd
          have HSA := Lib.hid hsa
          subst hsa
          have HRS := Lib.hid hrs
          have HLR := Lib.hid hlr
          have HER := Lib.hid her
          have HGR := Lib.hid hgr
          clear hwl hd hrw hrs hlr her hgr
          rw [Nat.mul_comm 4 i] at c0 c1 c2 c3
          have IHC := Lib.hid (ih (sub'.size + 1) (by omega) k' n' s' sub' sa' sc' (deep + 1) l L ea (wr.alloc (.cells #[.int .i64 k', .int .i64 n', .string s', .slice sa' sub'.len sc'] 24)) (by omega)
            (HER.out.keep (fun b hb => Below.heap_alloc _ _ _ (by have := HER.out.room; omega)) (by simp)) (HLR.out.alloc _) hL hf1 hf2 hf3 hcl
            (HRS.out.keep (fun b hb => Below.heap_alloc _ _ _ (by have := hb.1; have := HG2.out.size; have := HGR.out.size; omega)) (fun b hb => ⟨by have := hb.1; have := HG2.out.size; have := HGR.out.size; simp; omega, hb.2⟩)) (by omega) (by omega) hl0 hl4)
          have HST := Lib.hid (show walkL (sub.drop i) (deep + 1) l = if (walk1 k' n' s' sub' (deep + 1) l).1 = 0 then walkL (sub.drop (i + 1)) (deep + 1) (walk1 k' n' s' sub' (deep + 1) l).2 else walk1 k' n' s' sub' (deep + 1) l by rw [HDD.out, walkL_cons])
          have hrng := walk1_range k' n' s' sub' (deep + 1) l hl0
          obtain ⟨rc, rl, hrr⟩ : ∃ rc rl, walk1 k' n' s' sub' (deep + 1) l = (rc, rl) := ⟨_, _, rfl⟩
          rw [hrr] at IHC HST hrng
          simp only at hrng
          obtain ⟨hrg1, hrg2⟩ := hrng
          clear hrr
          go_wp2_with fail
          refine IHC.out.mono ?_
          rintro e w5 ⟨rfl, hl5, hg5⟩
          have HL5 := Lib.hid hl5
          have HG5 := Lib.hid (only_trans (only_alloc HGR.out _) (show (wr.alloc (.cells #[.int .i64 k', .int .i64 n', .string s', .slice sa' sub'.len sc'] 24)).grownBy w5 (some L) from hg5))
          have HE5 := Lib.hid (HER.out.keep (w' := w5) (fun b hb => (hg5.block b (by have := HER.out.room; simp; omega) (fun e => by injection e with e; omega)).trans (Below.heap_alloc _ _ _ (by have := HER.out.room; omega))) (Nat.le_trans (by simp) hg5.size))
          clear hl5 hg5
          by_cases hrc : rc = 0
          · subst hrc
            have HN := Lib.hid (HST.out.symm.trans HWL.out)
            rw [if_pos rfl] at HN
            rw [show errV ea 0 = Value.nilIface from rfl]
            go_wp2_with fail
            go_roundg g
            case measure => omega
            case rel => exact ⟨i + 1, rl, by go_num, by omega, HL5.out, HE5.out, HG5.out, hrg1, by omega, HN.out⟩
          · have HN := Lib.hid (HST.out.symm.trans HWL.out)
            rw [if_neg hrc] at HN
            have HERR := Lib.hid (show errV ea rc = .iface 224 (.pointer (some (ea rc))) by unfold errV; rw [if_neg hrc])
            rw [HERR.out]
            go_wp2_with fail
            go_ret
            rw [HS.out, ← HN.out, ← HERR.out]
            exact ⟨rfl, HL5.out, only_trans HG2.out HG5.out⟩
        · obtain rfl : i = sub.len := by omega
          rw [VL.drop_len] at hwl
          have HN := Lib.hid hwl
          have HLR := Lib.hid hlr
          have HGR := Lib.hid hgr
          clear hwl hlr hgr her
          go_wp2_with fail
          go_ret
          rw [HS.out, ← HN.out]
          exact ⟨rfl, HLR.out, only_trans HG2.out HGR.out⟩
    · rw [if_neg hoe] at HS
      obtain ⟨oc, hoc⟩ : ∃ oc, oc = ownE 2 n s sub.len := ⟨_, rfl⟩
      rw [← hoc] at HS hoe ⊢
      clear hoc
      have HER := Lib.hid (show errV ea oc = .iface 224 (.pointer (some (ea oc))) by unfold errV; rw [if_neg hoe])
      rw [HER.out]
      go_wp2_with fail
      go_ret
      rw [HS.out, ← HER.out]
      exact ⟨rfl, HL2.out, HG2.out⟩
  · obtain rfl : m = 0 := by rw [hm, mOf, if_neg hk]
    have hk' : (k == 2) = false := by rw [beq_eq_false_iff_ne]; exact hk
    rw [show left - (1 + 0) = left - 1 from by omega] at HS
    clear hm hk
    obtain ⟨w1, hw1⟩ : ∃ w1, w1 = (w.setCell ⟨L, 0, none⟩ (.int .i64 (left - 1))).alloc (.cells #[.int .i64 k, .int .i64 n, .string s, .slice sa sub.len sc] 24) := ⟨_, rfl⟩
    have HE1 := Lib.hid (show ErrsAt w1 ea by rw [hw1]; exact he.keep (fun b hb => (Below.heap_alloc _ _ _ (by have := he.room; simp [World.setCell]; omega)).trans (Below.heap_setCell _ _ _ _ (by show b ≠ L; omega))) (by simp [World.setCell]))
    have HL1 := Lib.hid (show LfAt w1 L (left - 1) by rw [hw1]; exact (hlf.set _).alloc _)
    have HV1 := Lib.hid (show StB w1 w.heap.size (.int .i64 k) (.int .i64 n) (.string s) (.slice sa sub.len sc) by rw [hw1]; have := StB.new (w.setCell ⟨L, 0, none⟩ (.int .i64 (left - 1))) (.int .i64 k) (.int .i64 n) (.string s) (.slice sa sub.len sc); simpa [World.setCell] using this)
    have HG1 := Lib.hid (show w.grownBy w1 (some L) by rw [hw1]; exact only_alloc (only_setCell (only_refl w _) (.inl rfl) _) _)
    have hz1 : w1.heap.size = w.heap.size + 1 := by rw [hw1]; simp [World.setCell]
    have HZ1 := Lib.hid hz1
    have HW1 := Lib.hid hw1
    have u0 := HV1.out.c0; have u1 := HV1.out.c1; have u2 := HV1.out.c2; have u3 := HV1.out.c3
    have u3' := u3
    rw [hw1] at u0 u1 u2 u3
    clear hw1 hz1
    go_enter Tryz.func108, Tryz.ntmps108
    go_wp2_with fail
    rw [← HW1.out]
    clear HW1 u0 u1 u2 u3 v0 v1 v2 v3 l0 lf0 eD eM
    refine (HOWN.out _ HE1.out).mono ?_
    rintro e w2 ⟨rfl, hb2⟩
    have HV2 := Lib.hid (HV1.out.below' hb2)
    have HL2 := Lib.hid (HL1.out.below hb2 HL1.out.lt)
    have HE2 := Lib.hid (HE1.out.below hb2 (Nat.le_of_lt HE1.out.room))
    have HG2 := Lib.hid (only_trans HG1.out (only_below' hb2 HG1.out.size))
    have hz2 : w.heap.size < w2.heap.size := by have := hb2.size; have := HZ1.out; omega
    have x3 := HV2.out.c3
    clear hb2
    obtain ⟨lf, hlf2⟩ : ∃ lf : Int, lf = left - 1 := ⟨_, rfl⟩
    have hlf0 : 0 ≤ lf := by omega
    have hlf4 : lf ≤ 4096 := by omega
    rw [← hlf2] at HL2 HS
    clear hlf2
    by_cases hoe : ownE k n s sub.len = 0
    · rw [if_pos hoe] at HS
      rw [hoe]
      rw [show errV ea 0 = Value.nilIface from rfl]
      have HRP := Lib.hid hrep
      clear hrep
      go_wp2_with fail
      go_loopg [42] sub.len (fun kk v wr => ∃ (i : Nat) (l : Int), v = .int .i64 i ∧ i + kk = sub.len ∧ LfAt wr L l ∧ ErrsAt wr ea ∧ w2.grownBy wr (some L) ∧ 0 ≤ l ∧ l ≤ 4096 ∧ Hid (walkL (sub.drop i) (deep + 1) l = walkL sub (deep + 1) lf))
      case atStart => exact ⟨0, lf, rfl, by omega, HL2.out, HE2.out, only_refl _ _, hlf0, hlf4, by show walkL (sub.drop 0) _ _ = _; rw [VL.drop]⟩
      case round =>
        obtain ⟨i, l, rfl, hik, hlr, her, hgr, hl0, hl4, hwl⟩ := hrel
        by_cases hi : i < sub.len
        · obtain ⟨g, rfl⟩ : ∃ g, gk = g + 1 := ⟨gk - 1, by omega⟩
          obtain ⟨k', n', s', sub', hd⟩ := VL.drop_of_lt i sub hi
          have hrw := HRP.out.grown (only_trans HG2.out hgr) (fun b hb => ⟨hb.1, fun e => by injection e with e; exact hb.2 e⟩)
          obtain ⟨b, o, hsa⟩ : ∃ b o, sa = some ⟨b, o, none⟩ := by
            cases sub with
            | nil => simp [VL.len] at hi
            | cons _ _ _ _ _ => obtain ⟨b, o, _, _, h, _⟩ := hrw; exact ⟨b, o, h⟩
          rw [hsa] at hrw
          have hdr := RpL.drop i sub b o hrw
          rw [hd] at hdr
          obtain ⟨b', o', sa', sc', hA, hSb, c0, c1, c2, c3, hcl, hrs, _⟩ := hdr
          injection hA with hA
          injection hA with hA1 hA2
          subst hA1
          subst hA2
          have hfd := VL.fit_drop i sub hfit
          rw [hd] at hfd
          obtain ⟨hf1, hf2, hf3, _⟩ := hfd
          have hszd := VL.size_drop i sub
          rw [hd] at hszd
          simp only [VL.size] at hszd
          have HWL := Lib.hid hwl
          have HDD := Lib.hid hd
          have HSA := Lib.hid hsa
          subst hsa
          have HRS := Lib.hid hrs
          have HLR := Lib.hid hlr
          have HER := Lib.hid her
          have HGR := Lib.hid hgr
          clear hwl hd hrw hrs hlr her hgr
          rw [Nat.mul_comm 4 i] at c0 c1 c2 c3
          have IHC := Lib.hid (ih (sub'.size + 1) (by omega) k' n' s' sub' sa' sc' (deep + 1) l L ea (wr.alloc (.cells #[.int .i64 k', .int .i64 n', .string s', .slice sa' sub'.len sc'] 24)) (by omega)
            (HER.out.keep (fun b hb => Below.heap_alloc _ _ _ (by have := HER.out.room; omega)) (by simp)) (HLR.out.alloc _) hL hf1 hf2 hf3 hcl
            (HRS.out.keep (fun b hb => Below.heap_alloc _ _ _ (by have := hb.1; have := HG2.out.size; have := HGR.out.size; omega)) (fun b hb => ⟨by have := hb.1; have := HG2.out.size; have := HGR.out.size; simp; omega, hb.2⟩)) (by omega) (by omega) hl0 hl4)
          have HST := Lib.hid (show walkL (sub.drop i) (deep + 1) l = if (walk1 k' n' s' sub' (deep + 1) l).1 = 0 then walkL (sub.drop (i + 1)) (deep + 1) (walk1 k' n' s' sub' (deep + 1) l).2 else walk1 k' n' s' sub' (deep + 1) l by rw [HDD.out, walkL_cons])
          have hrng := walk1_range k' n' s' sub' (deep + 1) l hl0
          obtain ⟨rc, rl, hrr⟩ : ∃ rc rl, walk1 k' n' s' sub' (deep + 1) l = (rc, rl) := ⟨_, _, rfl⟩
          rw [hrr] at IHC HST hrng
          simp only at hrng
          obtain ⟨hrg1, hrg2⟩ := hrng
          clear hrr
          go_wp2_with fail
          refine IHC.out.mono ?_
          rintro e w5 ⟨rfl, hl5, hg5⟩
          have HL5 := Lib.hid hl5
          have HG5 := Lib.hid (only_trans (only_alloc HGR.out _) (show (wr.alloc (.cells #[.int .i64 k', .int .i64 n', .string s', .slice sa' sub'.len sc'] 24)).grownBy w5 (some L) from hg5))
          have HE5 := Lib.hid (HER.out.keep (w' := w5) (fun b hb => (hg5.block b (by have := HER.out.room; simp; omega) (fun e => by injection e with e; omega)).trans (Below.heap_alloc _ _ _ (by have := HER.out.room; omega))) (Nat.le_trans (by simp) hg5.size))
          clear hl5 hg5
          by_cases hrc : rc = 0
          · subst hrc
            have HN := Lib.hid (HST.out.symm.trans HWL.out)
            rw [if_pos rfl] at HN
            rw [show errV ea 0 = Value.nilIface from rfl]
            go_wp2_with fail
            go_roundg g
            case measure => omega
            case rel => exact ⟨i + 1, rl, by go_num, by omega, HL5.out, HE5.out, HG5.out, hrg1, by omega, HN.out⟩
          · have HN := Lib.hid (HST.out.symm.trans HWL.out)
            rw [if_neg hrc] at HN
            have HERR := Lib.hid (show errV ea rc = .iface 224 (.pointer (some (ea rc))) by unfold errV; rw [if_neg hrc])
            rw [HERR.out]
            go_wp2_with fail
            go_ret
            rw [HS.out, ← HN.out, ← HERR.out]
            exact ⟨rfl, HL5.out, only_trans HG2.out HG5.out⟩
        · obtain rfl : i = sub.len := by omega
          rw [VL.drop_len] at hwl
          have HN := Lib.hid hwl
          have HLR := Lib.hid hlr
          have HGR := Lib.hid hgr
          clear hwl hlr hgr her
          go_wp2_with fail
          go_ret
          rw [HS.out, ← HN.out]
          exact ⟨rfl, HLR.out, only_trans HG2.out HGR.out⟩
    · rw [if_neg hoe] at HS
      obtain ⟨oc, hoc⟩ : ∃ oc, oc = ownE k n s sub.len := ⟨_, rfl⟩
      rw [← hoc] at HS hoe ⊢
      clear hoc
      have HER := Lib.hid (show errV ea oc = .iface 224 (.pointer (some (ea oc))) by unfold errV; rw [if_neg hoe])
      rw [HER.out]
      go_wp2_with fail
      go_ret
      rw [HS.out, ← HER.out]
      exact ⟨rfl, HL2.out, HG2.out⟩

theorem walk_c (N : Nat) : WalkC N := by
  induction N using Nat.strongRecOn with
  | _ N ih => exact walk_step N ih
end Go.Proofs.YtbalpfpcbckghaaGreatDoor
namespace Go.Proofs.YtbalpfpcbckghaaGreatDoor
open Go.RowKit Go.Lib
set_option linter.unusedVariables false

theorem ret_val {a b : Value} (h : a = b) : Ending.returned a = .returned b := by rw [h]
theorem LfAt.new (W : World) (n : Int) : LfAt (W.alloc (.cells #[.int .i64 n] 3)) W.heap.size n := by unfold LfAt World.alloc; simp

set_option maxHeartbeats 1000000 in
theorem valid_c (k n : Int) (s : ByteArray) (sub : VL) (sa : Option Addr) (sc : Nat) (ea : Nat → Addr) (w : World) (he : ErrsAt w ea) (hs : s.size ≤ 140737488351232) (hl : sub.len ≤ 140737488351232) (hf : sub.fit) (hsc : sub.len ≤ sc)
    (hr : RpL w (fun b => b < w.heap.size) sub sa) :
    Calls Tryz.prog 67 #[.agg #[.int .i64 k, .int .i64 n, .string s, .slice sa sub.len sc]] w fun e w' => e = .returned (errV ea (walk1 k n s sub 1 4096).1) ∧ Below w.heap.size w w' := by
  have hroom := he.room
  obtain ⟨wa, hwa⟩ : ∃ wa, wa = (w.alloc (.cells #[.int .i64 k, .int .i64 n, .string s, .slice sa sub.len sc] 24)).alloc (.cells #[.int .i64 4096] 3) := ⟨_, rfl⟩
  have hb : Below w.heap.size w wa := by rw [hwa]; exact ((Below.refl _ _).alloc (Nat.le_refl _) _).alloc (by simp) _
  have hV : StB wa w.heap.size (.int .i64 k) (.int .i64 n) (.string s) (.slice sa sub.len sc) := by rw [hwa]; exact (StB.new w _ _ _ _).alloc _
  have hL : LfAt wa (w.heap.size + 1) 4096 := by rw [hwa]; have := LfAt.new (w.alloc (.cells #[.int .i64 k, .int .i64 n, .string s, .slice sa sub.len sc] 24)) 4096; simpa using this
  have hwz : wa.heap.size = w.heap.size + 2 := by rw [hwa]; simp
  have WC := Lib.hid (walk_c (sub.size + 1) k n s sub sa sc 1 4096 (w.heap.size + 1) ea wa (by omega) (he.below hb (by omega)) hL (by omega) hs hl hf hsc
    (hr.keep (fun b hlt => hb.block b hlt) (fun b hlt => ⟨by omega, by omega⟩)) (by omega) (by omega) (by omega) (by omega))
  have v0 := hV.c0; have v1 := hV.c1; have v2 := hV.c2; have v3 := hV.c3
  have HB := Lib.hid hb
  have HWA := Lib.hid hwa
  have HWZ := Lib.hid hwz
  rw [hwa] at v0 v1 v2 v3
  clear hb hV hL hwa hwz hr
  go_enter Tryz.func67, Tryz.ntmps67
  go_wp2_with fail
  rw [← HWA.out]
  refine WC.out.mono ?_
  rintro e w5 ⟨rfl, hl5, hg5⟩
  have HG := Lib.hid hg5
  clear hg5 hl5 HWA v0 v1 v2 v3
  by_cases hc : (walk1 k n s sub 1 4096).1 = 0
  · have HC := Lib.hid hc
    rw [hc, show errV ea 0 = Value.nilIface from rfl]
    clear hc
    go_wp2_with fail
    go_ret
    exact ⟨ret_val (by rw [HC.out]; rfl), HB.out.trans ⟨HG.out.os, HG.out.tape, HG.out.output, HG.out.size, fun b hb => HG.out.block b (by have := HWZ.out; omega) (fun e => by injection e with e; omega)⟩⟩
  · have HERR := Lib.hid (show errV ea (walk1 k n s sub 1 4096).1 = .iface 224 (.pointer (some (ea (walk1 k n s sub 1 4096).1))) by unfold errV; rw [if_neg hc])
    clear hc
    rw [HERR.out]
    go_wp2_with fail
    go_ret
    exact ⟨ret_val HERR.out.symm, HB.out.trans ⟨HG.out.os, HG.out.tape, HG.out.output, HG.out.size, fun b hb => HG.out.block b (by have := HWZ.out; omega) (fun e => by injection e with e; omega)⟩⟩
end Go.Proofs.YtbalpfpcbckghaaGreatDoor
namespace Go.Proofs.YtbalpfpcbckghaaGreatDoor
open Go.RowKit Go.Lib
set_option linter.unusedVariables false

/-- A struct of four cells and an error handed back. -/
theorem ret_cell4_tmp {fn : Func} {p u : Tmp} {Q : Ending → World → Prop} {act : Act} {w : World} (h : fn.results = #[.cell p 24, .tmp u]) (g : Nat) (hp : act.tmps.getD p undef = .pointer (some ⟨g, 0, none⟩)) (hd : act.defers = [])
    {a b c d : Value} (hS : StB w g a b c d) (hQ : Q (.returned (.tuple #[.agg #[a, b, c, d], act.tmps.getD u undef])) w) : bodyPost Tryz.prog fn Q .ret act w := by
  refine bodyPost_ret (v := .tuple #[.agg #[a, b, c, d], act.tmps.getD u undef]) ?_ hd hQ
  have c0 := hS.c0
  have c1 := hS.c1
  have c2 := hS.c2
  have c3 := hS.c3
  have hp' : (act.tmps[p]?).getD undef = .pointer (some ⟨g, 0, none⟩) := by simpa using hp
  simp [results, h, hp', go_sem, c0, c1, c2, c3]

theorem RdBad.a {w w5 : World} (hb : Below w.heap.size w w5) (hz : w.heap.size < w5.heap.size) {a b c d : Value} (H : StB w5 w.heap.size a b c d) (o : Obj) (a' b' c' d' : Value) :
    let W' := (((((w5.setCell ⟨w.heap.size, 0, none⟩ a').setCell ⟨w.heap.size, 1, none⟩ b').setCell ⟨w.heap.size, 2, none⟩ c').setCell ⟨w.heap.size, 3, none⟩ d').alloc o).drew
    StB W' w.heap.size a' b' c' d' ∧ Below w.heap.size w W' ∧ W'.heap[w5.heap.size]? = some o := by
  refine ⟨(H.set4 a' b' c' d').alloc o, ?_, ?_⟩
  · refine Below.drew (Below.alloc (Below.setCell (Below.setCell (Below.setCell (Below.setCell hb ?_ _) ?_ _) ?_ _) ?_ _) ?_ _)
    · exact Nat.le_refl _
    · exact Nat.le_refl _
    · exact Nat.le_refl _
    · exact Nat.le_refl _
    · rw [size_set4]; omega
  · have h : ∀ W : World, (W.alloc o).drew.heap[W.heap.size]? = some o := fun W => by
      show (W.alloc o).heap[W.heap.size]? = some o
      unfold World.alloc; simp
    have := h ((((w5.setCell ⟨w.heap.size, 0, none⟩ a').setCell ⟨w.heap.size, 1, none⟩ b').setCell ⟨w.heap.size, 2, none⟩ c').setCell ⟨w.heap.size, 3, none⟩ d')
    rw [size_set4] at this; exact this
theorem RdBad.b {w w5 : World} (hb : Below w.heap.size w w5) (hz : w.heap.size < w5.heap.size) {a b c d : Value} (H : StB w5 w.heap.size a b c d) (o : Obj) (a' b' c' d' : Value) :
    let W' := (((((w5.alloc o).setCell ⟨w.heap.size, 0, none⟩ a').setCell ⟨w.heap.size, 1, none⟩ b').setCell ⟨w.heap.size, 2, none⟩ c').setCell ⟨w.heap.size, 3, none⟩ d').drew
    StB W' w.heap.size a' b' c' d' ∧ Below w.heap.size w W' ∧ W'.heap[w5.heap.size]? = some o := by
  refine ⟨(H.alloc o).set4 a' b' c' d', ?_, ?_⟩
  · refine Below.drew (Below.setCell (Below.setCell (Below.setCell (Below.setCell (Below.alloc hb (by omega) _) ?_ _) ?_ _) ?_ _) ?_ _)
    · exact Nat.le_refl _
    · exact Nat.le_refl _
    · exact Nat.le_refl _
    · exact Nat.le_refl _
  · show ((((((w5.alloc o).setCell ⟨w.heap.size, 0, none⟩ a').setCell ⟨w.heap.size, 1, none⟩ b').setCell ⟨w.heap.size, 2, none⟩ c').setCell ⟨w.heap.size, 3, none⟩ d').heap[w5.heap.size]?) = _
    rw [heap_set4 _ _ _ _ _ _ _ (by omega)]; unfold World.alloc; simp
theorem StB.below {w w' : World} {g : Nat} {a b c d : Value} {B : Nat} (h : StB w g a b c d) (hb : Below B w w') (hB : g < B) : StB w' g a b c d := (hb.block g hB).trans h
theorem below_set4 {w w' : World} {B : Nat} (h : Below B w w') {g : Nat} (hg : B ≤ g) (a b c d : Value) :
    Below B w ((((w'.setCell ⟨g, 0, none⟩ a).setCell ⟨g, 1, none⟩ b).setCell ⟨g, 2, none⟩ c).setCell ⟨g, 3, none⟩ d) :=
  Below.setCell (Below.setCell (Below.setCell (Below.setCell h hg _) hg _) hg _) hg _
theorem below_le' {B B' : Nat} {w w' : World} (h : Below B w w') (hb : B' ≤ B) : Below B' w w' := ⟨h.os, h.tape, h.output, h.size, fun k hk => h.block k (by omega)⟩

end Go.Proofs.YtbalpfpcbckghaaGreatDoor
namespace Go.Proofs.YtbalpfpcbckghaaGreatDoor
open Go.RowKit Go.Lib
set_option linter.unusedVariables false

end Go.Proofs.YtbalpfpcbckghaaGreatDoor
namespace Go.Proofs.YtbalpfpcbckghaaGreatDoor

/-- A word: its kind, line, text, and the value of a literal. -/
structure Tok where
  kind : Int
  line : Int
  s : ByteArray
  k : Int
  n : Int
  t : ByteArray
end Go.Proofs.YtbalpfpcbckghaaGreatDoor
namespace Go.Proofs.YtbalpfpcbckghaaGreatDoor
open Go.RowKit Go.Lib
set_option linter.unusedVariables false

end Go.Proofs.YtbalpfpcbckghaaGreatDoor
namespace Go.Proofs.YtbalpfpcbckghaaGreatDoor
open Go.RowKit Go.Lib
set_option linter.unusedVariables false

/-- The reference's count: one number in a block of its own. -/
def RwAt (w : World) (L : Nat) (n : Int) : Prop := w.heap[L]? = some (.cells #[.int .i64 n] 64 (0, 0))
section
variable {w w' : World} {L : Nat} {left : Int}
theorem RwAt.lt (h : RwAt w L left) : L < w.heap.size := by
  rcases Nat.lt_or_ge L w.heap.size with hlt | hge
  · exact hlt
  · unfold RwAt at h; rw [Array.getElem?_eq_none hge] at h; cases h
theorem RwAt.c0 (h : RwAt w L left) : w.cell? ⟨L, 0, none⟩ = some (.int .i64 left) := cell_of_row w L 0 _ _ _ h
theorem RwAt.fr (h : RwAt w L left) : w.frozen? ⟨L, 0, none⟩ = false := by unfold RwAt at h; simp [World.frozen?, h]
theorem RwAt.alloc (h : RwAt w L left) (o : Obj) : RwAt (w.alloc o) L left := (Below.heap_alloc w o L h.lt).trans h
theorem RwAt.set (h : RwAt w L left) (n : Int) : RwAt (w.setCell ⟨L, 0, none⟩ (.int .i64 n)) L n := by
  unfold RwAt at h ⊢; simp [World.setCell, Array.getElem?_modify, h]
theorem RwAt.below (h : RwAt w L left) {B : Nat} (hb : Below B w w') (hL : L < B) : RwAt w' L left := (hb.block L hL).trans h
theorem RwAt.new (W : World) (n : Int) : RwAt (W.alloc (.cells #[.int .i64 n] 64)) W.heap.size n := by unfold RwAt World.alloc; simp
end

/-- Out of the loop over the items. -/
theorem bne_of {a b : Int} (h : a ≠ b) : (a != b) = true ∧ (a == b) = false := by simp [h]

end Go.Proofs.YtbalpfpcbckghaaGreatDoor
namespace Go.Proofs.YtbalpfpcbckghaaGreatDoor
open Go.RowKit Go.Lib
set_option linter.unusedVariables false

end Go.Proofs.YtbalpfpcbckghaaGreatDoor
namespace Go.Proofs.YtbalpfpcbckghaaGreatDoor
open Go.RowKit Go.Lib
set_option linter.unusedVariables false

end Go.Proofs.YtbalpfpcbckghaaGreatDoor
