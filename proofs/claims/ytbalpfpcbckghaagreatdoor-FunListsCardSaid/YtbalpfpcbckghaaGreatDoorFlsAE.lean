/- Contracts of the functions that the statement reaches, and the plain mathematics beneath: several texts joined. -/
import Derived.Lib.Bytealg
import Derived.Laws.IdiomStrings
import Derived.Test.YtbalpfpcbckghaaGreatDoorFlsAA
import Derived.Test.YtbalpfpcbckghaaGreatDoorFlsAB
namespace Go.Proofs.YtbalpfpcbckghaaGreatDoor
open Go.Sort Go.Lib
set_option linter.unusedVariables false
set_option linter.unusedSimpArgs false

/-- Three comparisons that fit. -/
def Tri (a b c : Int) : Prop := (a = 0 → c = b) ∧ (b = 0 → c = a) ∧ (a < 0 → b < 0 → c < 0)
theorem u8_lt {a b : UInt8} : a < b ↔ a.toNat < b.toNat := UInt8.lt_iff_toNat_lt
theorem cb_self : ∀ a : List UInt8, compareBytes a a = 0
  | [] => rfl
  | x :: a => by
    have : ¬ x < x := by rw [u8_lt]; omega
    rw [compareBytes, if_neg this, if_neg this]
    exact cb_self a
theorem cb_eq : ∀ {a b : List UInt8}, compareBytes a b = 0 → a = b
  | [], [], _ => rfl
  | [], _ :: _, h => by rw [compareBytes] at h; omega
  | _ :: _, [], h => by rw [compareBytes] at h; omega
  | x :: a, y :: b, h => by
    rw [compareBytes] at h
    by_cases c1 : x < y
    · rw [if_pos c1] at h; omega
    · rw [if_neg c1] at h
      by_cases c2 : y < x
      · rw [if_pos c2] at h; omega
      · rw [if_neg c2] at h
        rw [u8_lt] at c1 c2
        have e : x = y := UInt8.toNat_inj.1 (by omega)
        rw [e, cb_eq h]
theorem cb_anti : ∀ a b : List UInt8, (compareBytes a b < 0 ↔ 0 < compareBytes b a)
  | [], [] => by simp [compareBytes]
  | [], _ :: _ => by simp [compareBytes]
  | _ :: _, [] => by simp [compareBytes]
  | x :: a, y :: b => by
    rw [compareBytes, compareBytes]
    have ih := cb_anti a b
    by_cases c1 : x < y
    · have c2 : ¬ y < x := by rw [u8_lt] at c1 ⊢; omega
      rw [if_pos c1, if_neg c2, if_pos c1]
      omega
    · rw [if_neg c1]
      by_cases c2 : y < x
      · rw [if_pos c2, if_pos c2]
        omega
      · rw [if_neg c2, if_neg c2, if_neg c1]
        exact ih
theorem cb_tri : ∀ a b c : List UInt8, compareBytes a b < 0 → compareBytes b c < 0 → compareBytes a c < 0
  | [], [], _, h, _ => by simp [compareBytes] at h
  | _ :: _, [], _, h, _ => by simp [compareBytes] at h
  | _, _ :: _, [], _, h => by simp [compareBytes] at h
  | [], _ :: _, _ :: _, _, _ => by simp [compareBytes]
  | x :: a, y :: b, z :: c, h1, h2 => by
    rw [compareBytes] at h1 h2 ⊢
    by_cases p1 : x < y
    · by_cases p2 : y < z
      · rw [if_pos (by rw [u8_lt] at p1 p2 ⊢; omega)]; omega
      · rw [if_neg p2] at h2
        by_cases p3 : z < y
        · rw [if_pos p3] at h2; omega
        · rw [if_pos (by rw [u8_lt] at p1 p2 p3 ⊢; omega)]; omega
    · rw [if_neg p1] at h1
      by_cases p3 : y < x
      · rw [if_pos p3] at h1; omega
      · rw [if_neg p3] at h1
        have e : x = y := by rw [u8_lt] at p1 p3; exact UInt8.toNat_inj.1 (by omega)
        subst e
        by_cases p2 : x < z
        · rw [if_pos p2]; omega
        · rw [if_neg p2] at h2 ⊢
          by_cases p4 : z < x
          · rw [if_pos p4] at h2; omega
          · rw [if_neg p4] at h2 ⊢
            exact cb_tri a b c h1 h2
theorem cb_Tri (a b c : List UInt8) : Tri (compareBytes a b) (compareBytes b c) (compareBytes a c) :=
  ⟨fun h => by rw [cb_eq h], fun h => by rw [cb_eq h], cb_tri a b c⟩

/-- Two rows of values: which is ahead. -/
def cmpF : VL → VL → Int
  | .nil, y => -(y.len : Int)
  | .cons _ _ _ _ _, .nil => 1
  | .cons k n s sub r, .cons k' n' s' sub' r' =>
    if k ≠ k' then k - k' else if n < n' then -1 else if n' < n then 1
    else if compareBytes s.data.toList s'.data.toList ≠ 0 then compareBytes s.data.toList s'.data.toList
    else if cmpF sub sub' ≠ 0 then cmpF sub sub' else cmpF r r'
theorem cmpF_self : ∀ x : VL, cmpF x x = 0
  | .nil => rfl
  | .cons k n s sub r => by
    rw [cmpF, if_neg (by simp), if_neg (by omega), if_neg (by omega), if_neg (by rw [cb_self]; simp), if_neg (by rw [cmpF_self sub]; simp)]
    exact cmpF_self r
theorem cmpF_eq : ∀ {x y : VL}, cmpF x y = 0 → x = y
  | .nil, .nil, _ => rfl
  | .nil, .cons _ _ _ _ r, h => by
    rw [cmpF, VL.len] at h
    omega
  | .cons _ _ _ _ _, .nil, h => by rw [cmpF] at h; omega
  | .cons k n s sub r, .cons k' n' s' sub' r', h => by
    rw [cmpF] at h
    by_cases c1 : k ≠ k'
    · rw [if_pos c1] at h; omega
    · rw [if_neg c1] at h
      by_cases c2 : n < n'
      · rw [if_pos c2] at h; omega
      · rw [if_neg c2] at h
        by_cases c3 : n' < n
        · rw [if_pos c3] at h; omega
        · rw [if_neg c3] at h
          by_cases c4 : compareBytes s.data.toList s'.data.toList ≠ 0
          · rw [if_pos c4] at h; exact absurd h c4
          · rw [if_neg c4] at h
            by_cases c5 : cmpF sub sub' ≠ 0
            · rw [if_pos c5] at h; exact absurd h c5
            · rw [if_neg c5] at h
              have e1 : k = k' := by omega
              have e2 : n = n' := by omega
              have e3 : s = s' := by
                have := cb_eq (show compareBytes s.data.toList s'.data.toList = 0 by omega)
                cases s; cases s'
                congr 1
                exact Array.toList_inj.1 this
              have e4 := cmpF_eq (show cmpF sub sub' = 0 by omega)
              have e5 := cmpF_eq h
              rw [e1, e2, e3, e4, e5]
theorem cmpF_anti : ∀ x y : VL, (cmpF x y < 0 ↔ 0 < cmpF y x)
  | .nil, .nil => by simp [cmpF, VL.len]
  | .nil, .cons _ _ _ _ r => by
    rw [cmpF, cmpF, VL.len]
    omega
  | .cons _ _ _ _ r, .nil => by
    rw [cmpF, cmpF, VL.len]
    omega
  | .cons k n s sub r, .cons k' n' s' sub' r' => by
    rw [cmpF, cmpF]
    have h1 := cb_anti s.data.toList s'.data.toList
    have h1' := cb_anti s'.data.toList s.data.toList
    have h2 := cmpF_anti sub sub'
    have h3 := cmpF_anti r r'
    have h2' : cmpF sub sub' = 0 ↔ cmpF sub' sub = 0 := ⟨fun h => by rw [cmpF_eq h]; exact cmpF_self _, fun h => by rw [cmpF_eq h]; exact cmpF_self _⟩
    repeat' split
    all_goals omega
theorem cmpF_tri : ∀ x y z : VL, cmpF x y < 0 → cmpF y z < 0 → cmpF x z < 0
  | .nil, .nil, _, h, _ => by simp [cmpF, VL.len] at h
  | .cons _ _ _ _ _, .nil, _, h, _ => by rw [cmpF] at h; omega
  | _, .cons _ _ _ _ _, .nil, _, h => by rw [cmpF] at h; omega
  | .nil, .cons _ _ _ _ _, .cons _ _ _ _ r, _, _ => by rw [cmpF, VL.len]; omega
  | .cons k n s sub r, .cons k' n' s' sub' r', .cons k2 n2 s2 sub2 r2, h1, h2 => by
    rw [cmpF] at h1 h2 ⊢
    have t1 := cb_Tri s.data.toList s'.data.toList s2.data.toList
    have t2 : Tri (cmpF sub sub') (cmpF sub' sub2) (cmpF sub sub2) := ⟨fun h => by rw [cmpF_eq h], fun h => by rw [cmpF_eq h], cmpF_tri sub sub' sub2⟩
    have t3 := cmpF_tri r r' r2
    unfold Tri at t1 t2
    generalize compareBytes s.data.toList s'.data.toList = b1 at *
    generalize compareBytes s'.data.toList s2.data.toList = b2 at *
    generalize compareBytes s.data.toList s2.data.toList = b3 at *
    generalize cmpF sub sub' = d1 at *
    generalize cmpF sub' sub2 = d2 at *
    generalize cmpF sub sub2 = d3 at *
    generalize cmpF r r' = f1 at *
    generalize cmpF r' r2 = f2 at *
    generalize cmpF r r2 = f3 at *
    split at h1 <;> split at h2 <;> (try omega)
    all_goals (repeat' (first | (split at h1) | (split at h2) | split)) <;> omega
/-- .. that is an order. -/
def ltV (x y : VL) : Bool := decide (cmpF x y < 0)
theorem swoV : Sort.SWO ltV where
  irrefl x := by simp [ltV, cmpF_self]
  trans x y z h1 h2 := by
    simp only [ltV, decide_eq_true_eq] at *
    exact cmpF_tri x y z h1 h2
  ntrans x y z h1 h2 := by
    simp only [ltV, decide_eq_false_iff_not] at *
    have a1 := cmpF_anti y x
    have a2 := cmpF_anti z y
    have a3 := cmpF_anti x z
    have a4 := cmpF_anti z x
    have a5 := cmpF_anti x y
    have a6 := cmpF_anti y z
    intro h
    by_cases e1 : cmpF x y = 0
    · rw [cmpF_eq e1] at h; omega
    · by_cases e2 : cmpF y z = 0
      · rw [← cmpF_eq e2] at h; omega
      · have := cmpF_tri z y x (by omega) (by omega)
        omega
theorem ltV_eq (x y : VL) (h1 : ltV x y = false) (h2 : ltV y x = false) : x = y := by
  simp only [ltV, decide_eq_false_iff_not] at h1 h2
  have := cmpF_anti x y
  have := cmpF_anti y x
  exact cmpF_eq (by omega)
instance : Inhabited VL := ⟨.nil⟩
end Go.Proofs.YtbalpfpcbckghaaGreatDoor
namespace Go.Proofs.YtbalpfpcbckghaaGreatDoor
open Go.RowKit Go.Lib
set_option linter.unusedVariables false

/-- Bytes at the head of a row of which no cell is frozen. -/
def BRow (w : World) (g : Nat) (l : List UInt8) : Prop := ∃ cur : Array Value, w.heap[g]? = some (.cells cur 5 (cur.size, cur.size + 1)) ∧ l.length ≤ cur.size ∧ cur.toList.take l.length = u8s l
theorem BRow.cell {w : World} {g : Nat} {l : List UInt8} (h : BRow w g l) (j : Nat) (hj : j < l.length) : w.cell? ⟨g, j, none⟩ = some (.int .u8 (l[j].toNat : Int)) := by
  obtain ⟨cur, hh, hl, ht⟩ := h
  rw [cell_of_row w g j cur _ _ hh]
  have h1 : (cur.toList.take l.length)[j]? = (u8s l)[j]? := by rw [ht]
  rw [List.getElem?_take_of_lt hj] at h1
  rw [← Array.getElem?_toList, h1]
  unfold u8s
  rw [List.getElem?_map, List.getElem?_eq_getElem hj]
  rfl
theorem BRow.set {w : World} {g : Nat} {l : List UInt8} (h : BRow w g l) (j : Nat) (c : UInt8) (hj : j < l.length) : BRow (w.setCell ⟨g, j, none⟩ (.int .u8 (c.toNat : Int))) g (l.set j c) := by
  obtain ⟨cur, hh, hl, ht⟩ := h
  refine ⟨cur.setIfInBounds j (.int .u8 (c.toNat : Int)), ?_, by simpa using hl, ?_⟩
  · simp [World.setCell, Array.getElem?_modify, hh]
  · rw [List.length_set, Array.toList_setIfInBounds, List.take_set, ht]
    unfold u8s
    rw [List.map_set]
theorem BRow.drew {w : World} {g : Nat} {l : List UInt8} (h : BRow w g l) : BRow w.drew g l := h
theorem BRow.new (w : World) (s : ByteArray) (cap : Nat) : BRow (w.drew.alloc (.cells (bytesRow s cap) 5 ((bytesRow s cap).size, (bytesRow s cap).size + 1))) w.heap.size s.data.toList := by
  refine ⟨bytesRow s cap, heap_alloc_new w.drew _, ?_, ?_⟩
  · unfold bytesRow; simp
  · unfold bytesRow u8s
    simp
theorem BRow.conv {w : World} {g cap : Nat} {l : List UInt8} (h : BRow w g l) : (convert 99 9 (.slice (some ⟨g, 0, none⟩) l.length cap)).run Tryz.prog w = .ok (.string ⟨l.toArray⟩) w := by
  refine run_convert_bytes_back w _ _ 5 ⟨g, 0, none⟩ cap l Tryz.underlying99 Tryz.underlying5 Tryz.underlying9 (fun j hj => ?_)
  have e : (⟨g, 0, none⟩ : Addr).add j = ⟨g, j, none⟩ := by unfold Addr.add; split <;> simp_all
  rw [e]
  exact h.cell j hj
end Go.Proofs.YtbalpfpcbckghaaGreatDoor
