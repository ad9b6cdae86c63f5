/- Contracts of the functions that the statement reaches, and the plain mathematics beneath: several texts joined. -/
import Derived.Test.YtgmnbdfbbcpciaaGreatDoorSmE
import Derived.Test.YtgmnbdfbbcpciaaGreatDoorSmC
import Derived.Test.YtgmnbdfbbcpciaaGreatDoorSmA
import Derived.Laws.AppendOwnNone
import Derived.Maps.AppendAt
import Derived.Deep.RegionHeld3
import Derived.Test.YtgmnbdfbbcpciaaGreatDoorSmB
import Derived.Test.YtgmnbdfbbcpciaaGreatDoorSmD
namespace Go.Proofs.YtgmnbdfbbcpciaaGreatDoor
open Go.Lib

/-- Right expressions, as far as their text asks for. -/
def ExN : NL → Prop
  | .nil => True
  | .cons op _ s k n t v sub r => (1 ≤ op ∧ op ≤ 29) ∧ (rolesP op sub.len).2 = true ∧ (op = 1 → (walk1 k n t v 1 4096).1 = 0 ∧ (val1 k n t v).i64 ∧ (val1 k n t v).fit) ∧ (op = 2 → 1 ≤ s.size) ∧ s.size ≤ 32 ∧ ExN sub ∧ ExN r
theorem ExN.drop : ∀ (i : Nat) (l : NL), ExN l → ExN (l.drop i)
  | 0, l, h => by rw [NL.drop]; exact h
  | i + 1, .nil, h => h
  | i + 1, .cons _ _ _ _ _ _ _ _ r, h => ExN.drop i r h.2.2.2.2.2.2

/-- The kinds of expressions, with how many they have. -/
theorem op_kind {op : Int} {m : Nat} (h0 : 1 ≤ op ∧ op ≤ 29) (h : (rolesP op m).2 = true) :
    (op = 1 ∧ m = 0) ∨ (op = 2 ∧ m = 0) ∨ (op = 3 ∧ m = 1) ∨ (op = 4 ∧ m = 1) ∨ ((5 ≤ op ∧ op ≤ 18) ∧ m = 2) ∨ (op = 19 ∧ m = 3) ∨ (op = 20 ∧ m = 2) ∨ (op = 21 ∧ m = 3) ∨ (op = 22 ∧ m = 2) ∨ (op = 23 ∧ 2 ≤ m) ∨ op = 24 ∨ op = 25 ∨ (op = 26 ∧ m = 1) ∨ (op = 27 ∧ m = 2) ∨ (op = 28 ∧ 2 ≤ m) ∨ (op = 29 ∧ (m = 2 ∨ m = 3)) := by
  have hk : op = 1 ∨ op = 2 ∨ op = 3 ∨ op = 4 ∨ (5 ≤ op ∧ op ≤ 18) ∨ op = 19 ∨ op = 20 ∨ op = 21 ∨ op = 22 ∨ op = 23 ∨ op = 24 ∨ op = 25 ∨ op = 26 ∨ op = 27 ∨ op = 28 ∨ op = 29 := by omega
  rcases hk with rfl | rfl | rfl | rfl | hb | rfl | rfl | rfl | rfl | rfl | rfl | rfl | rfl | rfl | rfl | rfl
  case inr.inr.inr.inr.inl =>
    have : (rolesP op m).2 = (m == 2) := by
      unfold rolesP
      rw [if_neg (by omega), if_neg (by omega), if_pos (by omega)]
    rw [this] at h
    simp at h
    omega
  all_goals (simp [rolesP] at h ⊢)
  all_goals first | exact h | omega

theorem len2 {α : Type} {l : List α} (h : l.length = 2) : ∃ x y, l = [x, y] := by
  match l, h with
  | [x, y], _ => exact ⟨x, y, rfl⟩
theorem len3 {α : Type} {l : List α} (h : l.length = 3) : ∃ x y z, l = [x, y, z] := by
  match l, h with
  | [x, y, z], _ => exact ⟨x, y, z, rfl⟩
def Zb (x : NTx) (z : Nat) : Prop := x.b.length + 40 ≤ z ∧ x.nm.length + 40 ≤ z ∧ x.cd.length + 40 ≤ z
def ZL : List NTx → Nat → Prop
  | [], _ => True
  | x :: r, z => ∃ a b, Zb x a ∧ ZL r b ∧ a + b ≤ z
theorem ZL.mono : ∀ {l : List NTx} {z z' : Nat}, ZL l z → z ≤ z' → ZL l z'
  | [], _, _, _, _ => trivial
  | _ :: _, _, _, ⟨a, b, h1, h2, h3⟩, hz => ⟨a, b, h1, h2, Nat.le_trans h3 hz⟩
theorem ZL.row : ∀ {l : List NTx} {z : Nat}, ZL l z → ((l.map (·.b)).map fun x => x.length + 2).sum ≤ z
  | [], _, _ => Nat.zero_le _
  | x :: r, z, ⟨a, b, h1, h2, h3⟩ => by
    have := ZL.row h2
    have := h1.1
    simp only [List.map_cons, List.sum_cons]; omega
theorem ZL.rowT {l : List NTx} {z : Nat} (h : ZL l z) : (rowT l).length ≤ z := Nat.le_trans (join_len _) h.row
theorem ZL.drop : ∀ (i : Nat) {l : List NTx} {z : Nat}, ZL l z → ZL (l.drop i) z
  | 0, _, _, h => h
  | i + 1, [], _, _ => trivial
  | i + 1, x :: r, z, ⟨a, b, h1, h2, h3⟩ => ZL.drop i (h2.mono (by omega))
theorem ZL.app : ∀ {l m : List NTx} {z : Nat}, ZL (l ++ m) z → ∃ a b, ZL l a ∧ ZL m b ∧ a + b ≤ z
  | [], m, z, h => ⟨0, z, trivial, h, by omega⟩
  | x :: r, m, z, ⟨a, b, h1, h2, h3⟩ => by
    obtain ⟨c, d, h4, h5, h6⟩ := ZL.app h2
    exact ⟨a + c, d, ⟨a, c, h1, h4, Nat.le_refl _⟩, h5, by omega⟩
theorem brk_len (l : List UInt8) : (brk l).length = l.length + 2 := by simp [brk]
theorem inT_len (x : NTx) : (inT x).length ≤ x.b.length + 2 := by
  unfold inT; split
  · rw [brk_len]; exact Nat.le_refl _
  · omega
theorem codesT_len {l : List NTx} {z : Nat} (h : ZL l z) : (codesT l).length ≤ z + 3 := by
  unfold codesT; split
  · simp
  · exact Nat.le_trans h.rowT (by omega)
theorem signT_len (op : Int) : (signT op).length ≤ 2 := by
  unfold signT; split
  · simp
  · have : ∀ j : Nat, (([[43], [45], [42], [47], [37], [61, 61], [33, 61], [60], [60, 61], [62], [62, 61], [105, 110], [38, 38], [124, 124]] : List (List UInt8)).getD j []).length ≤ 2 := by
      intro j
      rcases Nat.lt_or_ge j 14 with h | h
      · have : ∀ j : Fin 14, (([[43], [45], [42], [47], [37], [61, 61], [33, 61], [60], [60, 61], [62], [62, 61], [105, 110], [38, 38], [124, 124]] : List (List UInt8)).getD j.val []).length ≤ 2 := by decide
        exact this ⟨j, h⟩
      · rw [List.getD_eq_getElem?_getD, List.getElem?_eq_none (by simpa using h)]; simp
    exact this _

theorem bareT_len {op : Int} {s vt : List UInt8} {l : List NTx} {z : Nat} (h0 : 1 ≤ op ∧ op ≤ 29) (h : (rolesP op l.length).2 = true) (hz : ZL l z) (hv : vt.length ≤ 98400) (hs : s.length ≤ 32) : (bareT op s vt l).length ≤ 98450 + z := by
  have i1 : ∀ x : NTx, (inT x).length ≤ x.b.length + 2 := inT_len
  rcases op_kind h0 h with ⟨rfl, hm⟩ | ⟨rfl, hm⟩ | ⟨rfl, hm⟩ | ⟨rfl, hm⟩ | ⟨hb, hm⟩ | ⟨rfl, hm⟩ | ⟨rfl, hm⟩ | ⟨rfl, hm⟩ | ⟨rfl, hm⟩ | ⟨rfl, hm⟩ | rfl | rfl | ⟨rfl, hm⟩ | ⟨rfl, hm⟩ | ⟨rfl, hm⟩ | ⟨rfl, hm⟩
  · show vt.length ≤ _; omega
  · show s.length ≤ _; omega
  · obtain ⟨x, rfl⟩ := List.length_eq_one_iff.1 hm
    obtain ⟨a, b, ⟨h1, h2, h3⟩, -, h4⟩ := hz
    have := i1 x
    show (if _ then _ else _ : List UInt8).length ≤ _
    split
    · rw [List.length_cons, brk_len]; show (inT x).length + 2 + 1 ≤ _; omega
    · rw [List.length_cons]; show (inT x).length + 1 ≤ _; omega
  · obtain ⟨x, rfl⟩ := List.length_eq_one_iff.1 hm
    obtain ⟨a, b, ⟨h1, h2, h3⟩, -, h4⟩ := hz
    have := i1 x
    show (33 :: inT x).length ≤ _
    rw [List.length_cons]; omega
  · obtain ⟨x, y, rfl⟩ := len2 hm
    obtain ⟨a, b, ⟨h1, h2, h3⟩, ⟨c, d, ⟨h5, h6, h7⟩, -, h8⟩, h4⟩ := hz
    have := i1 x; have := i1 y; have := signT_len op
    unfold bareT
    simp only
    iterate 15 rw [if_neg (by omega)]
    show (inT x ++ [32] ++ signT op ++ [32] ++ inT y).length ≤ _
    simp only [List.length_append, List.length_singleton]; omega
  · obtain ⟨x, y, u, rfl⟩ := len3 hm
    obtain ⟨a, b, ⟨h1, h2, h3⟩, ⟨c, d, ⟨h5, h6, h7⟩, ⟨e, f, ⟨h9, h10, h11⟩, -, h12⟩, h8⟩, h4⟩ := hz
    have := i1 x; have := i1 y; have := i1 u
    show (inT x ++ [32, 63, 32] ++ inT y ++ [32, 124, 32] ++ inT u).length ≤ _
    simp only [List.length_append, List.length_cons, List.length_nil]; omega
  · obtain ⟨x, y, rfl⟩ := len2 hm
    obtain ⟨a, b, ⟨h1, h2, h3⟩, ⟨c, d, ⟨h5, h6, h7⟩, -, h8⟩, h4⟩ := hz
    have := i1 x
    show (inT x ++ [91] ++ y.b ++ [93]).length ≤ _
    simp only [List.length_append, List.length_cons, List.length_nil]; omega
  · obtain ⟨x, y, u, rfl⟩ := len3 hm
    obtain ⟨a, b, ⟨h1, h2, h3⟩, ⟨c, d, ⟨h5, h6, h7⟩, ⟨e, f, ⟨h9, h10, h11⟩, -, h12⟩, h8⟩, h4⟩ := hz
    have := i1 x
    show (inT x ++ [91] ++ y.b ++ [46, 46] ++ u.b ++ [93]).length ≤ _
    simp only [List.length_append, List.length_cons, List.length_nil]; omega
  · obtain ⟨x, y, rfl⟩ := len2 hm
    obtain ⟨a, b, ⟨h1, h2, h3⟩, ⟨c, d, ⟨h5, h6, h7⟩, -, h8⟩, h4⟩ := hz
    have := i1 x
    show (inT x ++ [46] ++ y.nm).length ≤ _
    simp only [List.length_append, List.length_cons, List.length_nil]; omega
  · obtain ⟨x, y, r, rfl⟩ : ∃ x y r, l = x :: y :: r := by
      match l, hm with
      | x :: y :: r, _ => exact ⟨x, y, r, rfl⟩
    obtain ⟨a, b, ⟨h1, h2, h3⟩, ⟨c, d, ⟨h5, h6, h7⟩, hr, h8⟩, h4⟩ := hz
    have := i1 x; have := hr.rowT
    show (inT x ++ [58] ++ y.nm ++ [40] ++ rowT r ++ [41]).length ≤ _
    simp only [List.length_append, List.length_cons, List.length_nil]; omega
  · have := hz.rowT
    show (s ++ [40] ++ rowT l ++ [41]).length ≤ _
    simp only [List.length_append, List.length_cons, List.length_nil]; omega
  · have := hz.rowT
    show ([123] ++ rowT l ++ [125]).length ≤ _
    simp only [List.length_append, List.length_cons, List.length_nil]; omega
  · obtain ⟨x, rfl⟩ := List.length_eq_one_iff.1 hm
    obtain ⟨a, b, ⟨h1, h2, h3⟩, -, h4⟩ := hz
    show (64 :: x.b).length ≤ _
    rw [List.length_cons]; omega
  · obtain ⟨x, y, rfl⟩ := len2 hm
    obtain ⟨a, b, ⟨h1, h2, h3⟩, ⟨c, d, ⟨h5, h6, h7⟩, -, h8⟩, h4⟩ := hz
    show (x.b ++ [32, 61, 32] ++ y.b).length ≤ _
    simp only [List.length_append, List.length_cons, List.length_nil]; omega
  · have hne : l ≠ [] := by intro e; rw [e] at hm; simp at hm
    obtain ⟨r, x, rfl⟩ : ∃ r x, l = r ++ [x] := ⟨_, _, (List.dropLast_concat_getLast hne).symm⟩
    obtain ⟨a, b, h1, ⟨c, d, ⟨h5, h6, h7⟩, -, h8⟩, h4⟩ := hz.app
    have := h1.rowT
    show ([123] ++ rowT ((r ++ [x]).take ((r ++ [x]).length - 1)) ++ [125, 32, 61, 32] ++ ((r ++ [x]).getD ((r ++ [x]).length - 1) default).b).length ≤ _
    rw [show (r ++ [x]).length - 1 = r.length by simp, List.take_left, show (r ++ [x]).getD r.length default = x by simp]
    simp only [List.length_append, List.length_cons, List.length_nil]; omega
  · rcases hm with hm | hm
    · obtain ⟨x, y, rfl⟩ := len2 hm
      obtain ⟨a, b, ⟨h1, h2, h3⟩, ⟨c, d, ⟨h5, h6, h7⟩, -, h8⟩, h4⟩ := hz
      have := i1 x
      show ([96] ++ inT x ++ [32, 33, 32] ++ y.cd ++ [] ++ [39]).length ≤ _
      simp only [List.length_append, List.length_cons, List.length_nil]; omega
    · obtain ⟨x, y, u, rfl⟩ := len3 hm
      obtain ⟨a, b, ⟨h1, h2, h3⟩, ⟨c, d, ⟨h5, h6, h7⟩, ⟨e, f, ⟨h9, h10, h11⟩, -, h12⟩, h8⟩, h4⟩ := hz
      have := i1 x; have := i1 u
      show ([96] ++ inT x ++ [32, 33, 32] ++ y.cd ++ ([32, 61, 62, 32] ++ inT u) ++ [39]).length ≤ _
      simp only [List.length_append, List.length_cons, List.length_nil]; omega

/-- The text of a right value: how long it is; it is not empty. -/
theorem vt_len {k n : Int} {t : ByteArray} {v : VL} (h : (walk1 k n t v 1 4096).1 = 0) (h64 : (val1 k n t v).i64) : (txt1 k n t (txtL v)).length ≤ 98400 ∧ txt1 k n t (txtL v) ≠ [] := by
  have hc := walk1_cost k n t v 1 4096 (by omega) h
  have hok := walk1_ok h
  have hl := txtL_len_le (val1 k n t v) 1 hok h64
  have e : (((txtL (val1 k n t v)).map fun x => x.length + 2).sum) = (txt1 k n t (txtL v)).length + 2 := by simp [val1, txtL]
  rw [e] at hl
  have hcost : cost (val1 k n t v) = 1 + mOf k t + cost v := by unfold val1; rw [cost, cost]; omega
  rw [hcost] at hl
  refine ⟨by omega, ?_⟩
  rcases own_ok hok.1 with ⟨rfl, _⟩ | ⟨rfl, _⟩ | ⟨rfl, _⟩ | ⟨rfl, h0, h1, _⟩ | ⟨rfl, _⟩
  · exact itoa_ne n
  · exact List.cons_ne_nil _ _
  · exact List.cons_ne_nil _ _
  · obtain ⟨j, rfl⟩ : ∃ j : Nat, n = j := ⟨n.toNat, by omega⟩
    have hj : j < 15 := by omega
    show (nmS (j : Int)).data.toList ≠ []
    rw [nmS_at j hj]
    have : ∀ j : Fin 15, (nmL.getD j.val ByteArray.empty).data.toList ≠ [] := by decide +kernel
    exact this ⟨j, hj⟩
  · exact List.cons_ne_nil _ _

theorem ex_z : ∀ (l : NL), ExN l → ZL (ntx l) (100000 * l.tot)
  | .nil, _ => trivial
  | .cons op ln s k n t v sub r, h => by
    obtain ⟨h0, h1, h2, h3, h4, h5, h6⟩ := h
    have hz := ex_z sub h5
    have hr := ex_z r h6
    have hs : s.data.toList.length = s.size := by rw [Array.length_toList]; rfl
    have hv : op = 1 → (txt1 k n t (txtL v)).length ≤ 98400 := fun e => (vt_len (h2 e).1 (h2 e).2.1).1
    have hb : (nodeT op s k n t v (ntx sub)).b.length ≤ 98450 + 100000 * sub.tot := by
      show (bareT _ _ _ _).length ≤ _
      by_cases e : op = 1
      · exact bareT_len h0 (by rw [ntx_len]; exact h1) hz (hv e) (by omega)
      · have e2 : bareT op s.data.toList (txt1 k n t (txtL v)) (ntx sub) = bareT op s.data.toList [] (ntx sub) := by unfold bareT; simp only [if_neg e]
        rw [e2]
        exact bareT_len h0 (by rw [ntx_len]; exact h1) hz (by simp) (by omega)
    have hcd : (nodeT op s k n t v (ntx sub)).cd.length ≤ 100000 * sub.tot + 3 := codesT_len hz
    have hnm : (nodeT op s k n t v (ntx sub)).nm.length ≤ (nodeT op s k n t v (ntx sub)).b.length + 2 := by
      show (if op = 1 ∧ k = 2 ∧ nameB t = true then t.data.toList else brk (nodeT op s k n t v (ntx sub)).b).length ≤ _
      split
      · rename_i e
        obtain ⟨rfl, rfl, _⟩ := e
        show _ ≤ (quoL t.data.toList).length + 2
        have := escL_len t.data.toList
        simp only [quoL, List.length_cons, List.length_append]; omega
      · rw [brk_len]; exact Nat.le_refl _
    rw [ntx]
    refine ⟨100000 + 100000 * sub.tot, 100000 * r.tot, ⟨by omega, by omega, by omega⟩, hr, ?_⟩
    simp only [NL.tot]; omega

theorem bareT_ne {op : Int} {s vt : List UInt8} {l : List NTx} (hv : op = 1 → vt ≠ []) (hs : op = 2 → s ≠ []) : bareT op s vt l ≠ [] := by
  unfold bareT
  simp only
  by_cases e1 : op = 1
  · rw [if_pos e1]; exact hv e1
  rw [if_neg e1]
  by_cases e2 : op = 2
  · rw [if_pos e2]; exact hs e2
  rw [if_neg e2]
  by_cases e3 : op = 3
  · rw [if_pos e3]; split <;> simp
  rw [if_neg e3]
  by_cases e4 : op = 4
  · rw [if_pos e4]; simp
  rw [if_neg e4]
  by_cases e19 : op = 19
  · rw [if_pos e19]; simp
  rw [if_neg e19]
  by_cases e20 : op = 20
  · rw [if_pos e20]; simp
  rw [if_neg e20]
  by_cases e21 : op = 21
  · rw [if_pos e21]; simp
  rw [if_neg e21]
  by_cases e22 : op = 22
  · rw [if_pos e22]; simp
  rw [if_neg e22]
  by_cases e23 : op = 23
  · rw [if_pos e23]; simp
  rw [if_neg e23]
  by_cases e24 : op = 24
  · rw [if_pos e24]; simp
  rw [if_neg e24]
  by_cases e25 : op = 25
  · rw [if_pos e25]; simp
  rw [if_neg e25]
  by_cases e26 : op = 26
  · rw [if_pos e26]; simp
  rw [if_neg e26]
  by_cases e27 : op = 27
  · rw [if_pos e27]; simp
  rw [if_neg e27]
  by_cases e28 : op = 28
  · rw [if_pos e28]; simp
  rw [if_neg e28]
  by_cases e29 : op = 29
  · rw [if_pos e29]; simp
  rw [if_neg e29]
  simp
theorem ex_ne : ∀ (l : NL), ExN l → ∀ x ∈ ntx l, x.b ≠ []
  | .nil, _, x, hx => by simp [ntx] at hx
  | .cons op ln s k n t v sub r, h, x, hx => by
    rw [ntx, List.mem_cons] at hx
    rcases hx with rfl | hx
    · refine bareT_ne (fun e => (vt_len (h.2.2.1 e).1 (h.2.2.1 e).2.1).2) (fun e => ?_)
      have := h.2.2.2.1 e
      intro e2
      have hs : s.data.toList.length = s.size := by rw [Array.length_toList]; rfl
      rw [e2] at hs; simp at hs; omega
    · exact ex_ne r h.2.2.2.2.2.2 x hx
end Go.Proofs.YtgmnbdfbbcpciaaGreatDoor
namespace Go.Proofs.YtgmnbdfbbcpciaaGreatDoor
open Go.Lib

/-- All values' numbers are of 64 bits. -/
def NL.i64 : NL → Prop
  | .nil => True
  | .cons _ _ _ k n t v sub r => (val1 k n t v).i64 ∧ sub.i64 ∧ r.i64
theorem NL.i64_drop : ∀ (i : Nat) (l : NL), l.i64 → (l.drop i).i64
  | 0, l, h => by rw [NL.drop]; exact h
  | i + 1, .nil, h => h
  | i + 1, .cons _ _ _ _ _ _ _ _ r, h => NL.i64_drop i r h.2.2

theorem own_key (A B C D : Bool) (h : (if (!A || !B || C) = true then 1 else if D = true then 2 else 0) = (0 : Nat)) : A = true ∧ B = true ∧ C = false ∧ D = false := by
  cases A <;> cases B <;> cases C <;> cases D <;> simp_all
theorem ownN_zero {op : Int} {s : ByteArray} {k n : Int} {t : ByteArray} {v : VL} {m role : Nat} {loop : Bool} (h : ownN op s k n t v m role loop = 0) :
    standsP op role = true ∧ (rolesP op m).2 = true ∧ (op = 1 → k ≠ 4 ∧ (walk1 k n t v 1 4096).1 = 0) ∧ ((namedP op).1 = true → nameB s = true ∨ ((namedP op).2 = true ∧ s.size = 0)) ∧ ((namedP op).1 = false → s.size = 0) := by
  obtain ⟨h1, h2, h3, h4⟩ := own_key _ _ _ _ h
  simp only [Bool.and_eq_true] at h1
  refine ⟨h1.1.1, h2, fun e => ?_, fun e => ?_, fun e => ?_⟩
  · have h5 := h1.2
    rw [if_pos e] at h5
    simp only [Bool.and_eq_true, bne_iff_ne, ne_eq, beq_iff_eq] at h5
    exact ⟨h5.1.1, h5.1.2⟩
  · rw [e] at h4
    cases hn : nameB s with
    | true => exact .inl rfl
    | false =>
      rw [hn] at h4
      refine .inr ?_
      simp only [Bool.true_and, Bool.not_false, Bool.not_eq_false', Bool.and_eq_true, beq_iff_eq] at h4
      exact h4
  · rw [e] at h3
    simpa using h3

theorem nameB_size {s : ByteArray} (h : nameB s = true) : 1 ≤ s.size ∧ s.size ≤ 32 := by
  unfold nameB at h
  simp only [Bool.and_eq_true, decide_eq_true_eq] at h
  exact ⟨h.1.1.1.1, h.1.1.1.2⟩
theorem stands_expr {op : Int} {role : Nat} (hr : role ≤ 5) (h : standsP op role = true) : 1 ≤ op ∧ op ≤ 29 := by
  have hk : role = 0 ∨ role = 1 ∨ role = 2 ∨ role = 3 ∨ role = 4 ∨ role = 5 := by omega
  rcases hk with rfl | rfl | rfl | rfl | rfl | rfl <;> (simp [standsP, isExpr] at h; omega)
theorem roles_le {op : Int} {m : Nat} (h0 : 1 ≤ op ∧ op ≤ 29) (h : (rolesP op m).2 = true) (j : Nat) : (rolesP op m).1.getD j 0 ≤ 5 := by
  have key : ∀ l : List Nat, (∀ x ∈ l, x ≤ 5) → l.getD j 0 ≤ 5 := by
    intro l hl
    rw [List.getD_eq_getElem?_getD]
    cases e : l[j]? with
    | none => exact Nat.zero_le _
    | some x => exact hl x (List.mem_of_getElem? e)
  apply key
  rcases op_kind h0 h with ⟨rfl, hm⟩ | ⟨rfl, hm⟩ | ⟨rfl, hm⟩ | ⟨rfl, hm⟩ | ⟨hb, hm⟩ | ⟨rfl, hm⟩ | ⟨rfl, hm⟩ | ⟨rfl, hm⟩ | ⟨rfl, hm⟩ | ⟨rfl, hm⟩ | rfl | rfl | ⟨rfl, hm⟩ | ⟨rfl, hm⟩ | ⟨rfl, hm⟩ | ⟨rfl, hm⟩
  case inr.inr.inr.inr.inl =>
    have : (rolesP op m).1 = [0, 0] := by unfold rolesP; rw [if_neg (by omega), if_neg (by omega), if_pos (by omega)]
    rw [this]; decide
  case inr.inr.inr.inr.inr.inr.inr.inr.inr.inr.inr.inr.inr.inr.inr =>
    have : (rolesP 29 m).1 = [0, 5, 0].take (Nat.min m 3) := rfl
    rw [this]
    intro x hx
    have := List.mem_of_mem_take hx
    simp at this; omega
  case inr.inr.inr.inr.inr.inr.inr.inr.inr.inr.inr.inr.inr.inr.inl =>
    have : (rolesP 28 m).1 = (List.replicate (m - 2) 3 ++ (if 1 < m then [4] else [])) ++ [0] := rfl
    rw [this]
    intro x hx
    rw [if_pos (by omega)] at hx
    simp only [List.mem_append, List.mem_replicate, List.mem_singleton] at hx
    omega
  all_goals (simp [rolesP]; try omega)

theorem sub_role_le {op : Int} {m role : Nat} {loop : Bool} (_hr : role ≤ 5) (h0 : 1 ≤ op ∧ op ≤ 29) (h : (rolesP op m).2 = true) (j : Nat) : (subRole op m role loop j).1 ≤ 5 := by
  have := roles_le h0 h j
  unfold subRole
  simp only
  split
  · omega
  · split
    · omega
    · split
      · omega
      · exact this
theorem ex_of_walk : ∀ (l : NL) (f : Nat → Nat × Bool) (i : Nat), l.fit → l.i64 → walkN l f i = none → (∀ j, (f j).1 ≤ 5) → ExN l
  | .nil, _, _, _, _, _, _ => trivial
  | .cons op ln s k n t v sub r, f, i, hf, h64, hw, hr => by
    rw [walkN] at hw
    by_cases h0 : ownN op s k n t v sub.len (f i).1 (f i).2 = 0
    · rw [if_neg (by omega)] at hw
      obtain ⟨h1, h2, h3, h4, h5⟩ := ownN_zero h0
      have hop := stands_expr (hr i) h1
      obtain ⟨f1, f2, f3, f4, f5, f6, f7⟩ := hf
      cases hs : walkN sub (subRole op sub.len (f i).1 (f i).2) 0 with
      | some e => rw [hs] at hw; simp at hw
      | none =>
        rw [hs] at hw
        refine ⟨hop, h2, fun e => ⟨(h3 e).2, h64.1, ⟨f2, f3, f4, trivial⟩⟩, fun e => ?_, ?_, ex_of_walk sub _ 0 f6 h64.2.1 hs (fun j => sub_role_le (hr i) hop h2 j), ex_of_walk r f (i + 1) f7 h64.2.2 hw hr⟩
        · subst e
          rcases h4 rfl with h | h
          · exact (nameB_size h).1
          · exact absurd h.1 (by decide)
        · cases hn : (namedP op).1 with
          | true =>
            rcases h4 hn with h | h
            · exact (nameB_size h).2
            · omega
          | false => have := h5 hn; omega
    · rw [if_pos h0] at hw; simp at hw
end Go.Proofs.YtgmnbdfbbcpciaaGreatDoor
namespace Go.Proofs.YtgmnbdfbbcpciaaGreatDoor
open Go.RowKit Go.Lib
set_option linter.unusedVariables false

/-- The variable of the strings' search. -/
def MaxAt (w : World) : Prop := ∃ m : Int, w.cell? ⟨5, 0, none⟩ = some (.int .i64 m)
theorem MaxAt.below {w w' : World} {B : Nat} (h : MaxAt w) (hb : Below B w w') (hB : 10 ≤ B) : MaxAt w' := by
  obtain ⟨m, hm⟩ := h
  exact ⟨m, (World.cell?_of_block (w := w) (hb.block _ (Nat.lt_of_lt_of_le (by decide) hB))).trans hm⟩
/-- What a value's text asks of the world. -/
structure TxAt (w : World) : Prop where
  tab : TabIs Tryz.prog w "internal/strconv.uint64pow10" .u64 pow10Tab
  room : 10 < w.heap.size
  mx : MaxAt w
theorem TxAt.below {w w' : World} {B : Nat} (h : TxAt w) (hb : Below B w w') (hB : w.heap.size ≤ B) : TxAt w' :=
  ⟨Joins.tab_stays (g := 6) rfl h.tab hb hB, by have := hb.size; have := h.room; omega, h.mx.below hb (by have := h.room; omega)⟩
theorem countB_sz (s old : ByteArray) (h : old.size = 1) : countB s old ≤ s.size := by
  have := countB_mul_le old (by omega) s.size s (Nat.le_refl _)
  rw [h] at this; omega

set_option maxHeartbeats 1000000 in
theorem quote_c (s : ByteArray) (w : World) (hs : s.size ≤ 1000000) (hr : 10 < w.heap.size) (hm : MaxAt w) :
    Calls Tryz.prog 82 #[.string s] w fun e w' => e = .returned (.string ⟨(quoL s.data.toList).toArray⟩) ∧ Below w.heap.size w w' := by
  obtain ⟨m, hmc⟩ := hm
  have hlen : s.data.toList.length = s.size := by rw [Array.length_toList]; rfl
  obtain ⟨t, ht⟩ : ∃ t : ByteArray, t = ⟨(repL 92 [92, 92] s.data.toList).toArray⟩ := ⟨_, rfl⟩
  have htl : t.data.toList = repL 92 [92, 92] s.data.toList := by rw [ht]
  have hts : t.size ≤ 2000000 := by
    have h1 : t.size = t.data.toList.length := by rw [Array.length_toList]; rfl
    have := rep92_len s.data.toList
    rw [h1, htl]; omega
  have A1 := Tryz.strings_ReplaceAll s ⟨#[92]⟩ ⟨#[92, 92]⟩ m w (by omega) hmc (by decide) (by
    have := countB_sz s ⟨#[92]⟩ rfl
    have : (⟨#[92, 92]⟩ : ByteArray).size = 2 := rfl
    rw [this]; omega)
  rw [show (⟨#[92]⟩ : ByteArray).data.toList = [92] from rfl, show (⟨#[92, 92]⟩ : ByteArray).data.toList = [92, 92] from rfl, replaceAll_one 92 [92, 92] _ (by decide), ← ht] at A1
  obtain ⟨u, hu⟩ : ∃ u : ByteArray, u = ⟨(escL s.data.toList).toArray⟩ := ⟨_, rfl⟩
  have A2 := fun W (hW : W.cell? ⟨5, 0, none⟩ = some (.int .i64 m)) => Tryz.strings_ReplaceAll t ⟨#[34]⟩ ⟨#[92, 34]⟩ m W (by omega) hW (by decide) (by
    have := countB_sz t ⟨#[34]⟩ rfl
    have : (⟨#[92, 34]⟩ : ByteArray).size = 2 := rfl
    rw [this]; omega)
  simp only [replaceAll_one 34 [92, 34] _ (show ([92, 34] : List UInt8) ≠ [34] by decide), htl, esc_rep, ← hu] at A2
  have HQ := Lib.hid (show (⟨(quoL s.data.toList).toArray⟩ : ByteArray) = ⟨#[34]⟩ ++ u ++ ⟨#[34]⟩ by
    rw [hu]; apply ByteArray.ext; simp [quoL])
  have hus : u.size ≤ 2000000 := by
    have h1 : u.size = u.data.toList.length := by rw [Array.length_toList]; rfl
    have h2 := escL_len s.data.toList
    rw [h1, hu]; simp only; omega
  rw [HQ.out]
  have H1 := Lib.hid A1
  have H2 := Lib.hid A2
  have HM := Lib.hid hmc
  clear A1 A2 hmc ht htl hu HQ
  go_enter Tryz.func82, Tryz.ntmps82
  go_wp2_with fail
  refine H1.out.mono ?_
  rintro e w2 ⟨rfl, hb2⟩
  have HB2 := Lib.hid hb2
  clear hb2
  go_wp2_with fail
  refine (H2.out _ ((World.cell?_of_block (w := w) (HB2.out.block _ (Nat.lt_trans (by decide) hr))).trans HM.out)).mono ?_
  rintro e w3 ⟨rfl, hb3⟩
  have HB3 := Lib.hid (HB2.out.trans (below_le' hb3 HB2.out.size))
  clear hb3
  go_wp2_with fail
  go_ret
  exact ⟨rfl, HB3.out⟩

theorem str_info : (Tryz.prog.info? 9).map (fun i => (i.zero, i.size, i.bytes)) = some (some (.string ⟨#[]⟩), 1, 16) := by kernel_rfl
def strs (l : List (List UInt8)) : List Value := l.map fun x => Value.string ⟨x.toArray⟩
theorem strs_snoc {W : World} {base : Nat} {v : Value} {l : List (List UInt8)} {y : List UInt8} (h : W.ownsRow base 9 1 v (l.length + 1) (strs l ++ [.string ⟨y.toArray⟩])) : W.ownsRow base 9 1 v (l ++ [y]).length (strs (l ++ [y])) := by
  have e1 : (l ++ [y]).length = l.length + 1 := by simp
  have e2 : strs (l ++ [y]) = strs l ++ [.string ⟨y.toArray⟩] := by simp [strs]
  rw [e1, e2]; exact h
theorem own_below {W W' : World} {base e size n : Nat} {v : Value} {xs : List Value} (h : W.ownsRow base e size v n xs) (hb : Below W.heap.size W W') : W'.ownsRow base e size v n xs := by
  refine ⟨h.1, ?_⟩
  rcases h.2 with h0 | ⟨g, cap, cur, hv, hb1, hh, r⟩
  · exact .inl h0
  · have hlt : g < W.heap.size := by
      rcases Nat.lt_or_ge g W.heap.size with hlt | hge
      · exact hlt
      · rw [Array.getElem?_eq_none hge] at hh; cases hh
    exact .inr ⟨g, cap, cur, hv, hb1, (hb.block g hlt).trans hh, r⟩
/-- What was joined out of a row of the call's own. -/
theorem join_own {W : World} {base : Nat} {v : Value} {l : List (List UInt8)} (h : W.ownsRow base 9 1 v l.length (strs l)) (hn : l.length ≤ 140737488355328) (hl : (join l [44, 32]).length ≤ 140737488355328) :
    Calls Tryz.prog 70 #[v, .string ⟨#[44, 32]⟩] W fun e w' => e = .returned (.string ⟨(join l [44, 32]).toArray⟩) ∧ Below W.heap.size W w' := by
  have hmap : (l.map fun x => (⟨x.toArray⟩ : ByteArray)).map (fun b => b.data.toList) = l := by
    rw [List.map_map]
    conv => rhs; rw [← List.map_id l]
    rfl
  rcases h.2 with ⟨rfl, hz⟩ | ⟨g, cap, cur, rfl, _, hh, hc, _, hsz, ht⟩
  · obtain rfl : l = [] := List.eq_nil_of_length_eq_zero hz
    exact (Tryz.strings_Join_none none 0 ⟨#[44, 32]⟩ W).mono fun e w' ⟨he, hw⟩ => ⟨he, by rw [hw]; exact Below.refl _ _⟩
  · have hg : g < W.heap.size := by
      rcases Nat.lt_or_ge g W.heap.size with hlt | hge
      · exact hlt
      · rw [Array.getElem?_eq_none hge] at hh; cases hh
    have J := Tryz.strings_Join g 0 cap (l.map fun x => (⟨x.toArray⟩ : ByteArray)) ⟨#[44, 32]⟩ W (fun j x hx => by
      rw [Nat.zero_add, cell_of_row W g j cur _ _ hh]
      have h1 : (cur.toList.take (l.length * 1))[j]? = (strs l)[j]? := by rw [ht]
      rw [List.getElem?_map] at hx
      have hj : j < l.length := by
        rcases Nat.lt_or_ge j l.length with hlt | hge
        · exact hlt
        · rw [List.getElem?_eq_none hge] at hx; cases hx
      rw [List.getElem?_take_of_lt (by omega)] at h1
      rw [← Array.getElem?_toList, h1]
      unfold strs
      rw [List.getElem?_map]
      cases hq : l[j]? with
      | none => rw [hq] at hx; cases hx
      | some y => rw [hq] at hx; injection hx with hx; rw [← hx]; rfl) hg (by rw [List.length_map]; exact hn) (by rw [List.length_map]; exact hc) (by rw [hmap]; exact hl)
    rw [List.length_map, hmap] at J
    exact J
end Go.Proofs.YtgmnbdfbbcpciaaGreatDoor
namespace Go.Proofs.YtgmnbdfbbcpciaaGreatDoor
open Go.RowKit Go.Lib
set_option linter.unusedVariables false

theorem grown_below {B : Nat} {w w1 w2 : World} {row : Option Nat} (h : Below B w w1) (hz : B ≤ w1.heap.size) (hg : w1.grownBy w2 row) (hr : ∀ k, row = some k → B ≤ k) : Below B w w2 :=
  ⟨hg.os.trans h.os, hg.tape.trans h.tape, hg.output.trans h.output, Nat.le_trans h.size hg.size,
   fun k hk => (hg.block k (by omega) (fun e => by have := hr k e.symm; omega)).trans (h.block k hk)⟩
theorem i64_drop : ∀ (i : Nat) (l : VL), l.i64 → (l.drop i).i64
  | 0, l, h => by rw [VL.drop]; exact h
  | i + 1, .nil, h => h
  | i + 1, .cons _ _ _ _ r, h => i64_drop i r h.2.2.2
theorem ok_drop : ∀ (i : Nat) (l : VL) (d : Int), OkL l d → OkL (l.drop i) d
  | 0, l, d, h => by rw [VL.drop]; exact h
  | i + 1, .nil, d, h => h
  | i + 1, .cons _ _ _ _ r, d, h => ok_drop i r d h.2.2.2
theorem cost_drop : ∀ (i : Nat) (l : VL), cost (l.drop i) ≤ cost l
  | 0, l => by rw [VL.drop]; exact Int.le_refl _
  | i + 1, .nil => Int.le_refl _
  | i + 1, .cons k n s sub r => by have := cost_drop i r; have := cost_ge sub; have := mOf_ge k s; rw [VL.drop, cost]; omega
theorem len_cost : ∀ l : VL, (l.len : Int) ≤ cost l
  | .nil => Int.le_refl _
  | .cons k n s sub r => by have := len_cost r; have := cost_ge sub; have := mOf_ge k s; rw [VL.len, cost]; omega

/-- What a call of text is to show. -/
def TextC (N : Nat) : Prop := ∀ (k n : Int) (s : ByteArray) (sub : VL) (sa : Option Addr) (sc : Nat) (d : Int) (w : World), sub.size < N → OkL (val1 k n s sub) d → (val1 k n s sub).i64 → cost (val1 k n s sub) ≤ 4096 → sub.len ≤ sc →
  RpL w (fun b => b < w.heap.size) sub sa → TxAt w →
  Calls Tryz.prog 68 #[.agg #[.int .i64 k, .int .i64 n, .string s, .slice sa sub.len sc]] w fun e w' => e = .returned (.string ⟨(txt1 k n s (txtL sub)).toArray⟩) ∧ Below w.heap.size w w'

theorem str_nil_add (t : ByteArray) : (⟨#[]⟩ : ByteArray) ++ t = t := by apply ByteArray.ext; simp

set_option maxRecDepth 100000 in
set_option maxHeartbeats 2000000 in
theorem text_step (N : Nat) (ih : ∀ N', N' < N → TextC N') : TextC N := by
  intro k n s sub sa sc d w hN hok h64 hcost hsc hrep hst
  have hroom := hst.room
  obtain ⟨hown, hoks⟩ := OkL_one hok
  obtain ⟨hn0, hn1, h64s, _⟩ := h64
  obtain ⟨wa, hwa⟩ : ∃ wa, wa = w.alloc (.cells #[.int .i64 k, .int .i64 n, .string s, .slice sa sub.len sc] 31) := ⟨_, rfl⟩
  have hba : Below w.heap.size w wa := by rw [hwa]; exact (Below.refl _ _).alloc (Nat.le_refl _) _
  have hwz : wa.heap.size = w.heap.size + 1 := by rw [hwa]; simp
  have hV : StB wa w.heap.size (.int .i64 k) (.int .i64 n) (.string s) (.slice sa sub.len sc) := by rw [hwa]; exact StB.new w _ _ _ _
  have v0 := hV.c0; have v1 := hV.c1; have v2 := hV.c2; have v3 := hV.c3
  have hsta : TxAt wa := hst.below hba (Nat.le_refl _)
  have HBA := Lib.hid hba
  have HWA := Lib.hid hwa
  have HWZ := Lib.hid hwz
  have HST := Lib.hid hsta
  have hcs : cost (val1 k n s sub) = 1 + mOf k s + cost sub := by unfold val1; rw [cost, cost]; omega
  have FC := fun (W : World) (hW : TxAt W) => Lib.hid (Tryz.strconv_FormatInt_10 n (by omega) (by omega) W hW.tab)
  obtain ⟨t, ht⟩ : ∃ t : ByteArray, t = ⟨(itoa n).toArray⟩ := ⟨_, rfl⟩
  have htl : t.size ≤ 20 := by
    have h1 : t.size = t.data.toList.length := by rw [Array.length_toList]; rfl
    rw [h1, ht]; exact itoa_len hn0 hn1
  rw [← ht] at FC
  rw [hwa] at v0 v1 v2 v3
  rcases own_ok hown with ⟨rfl, -⟩ | ⟨rfl, -⟩ | ⟨rfl, -⟩ | ⟨rfl, hm0, hm1, -⟩ | ⟨rfl, -⟩
  · have HR := Lib.hid (show (⟨(txt1 0 n s (txtL sub)).toArray⟩ : ByteArray) = t by rw [ht]; rfl)
    rw [HR.out]
    clear hba hV hsta hwa hwz ht hrep hst hok hown hoks hcs HR
    go_enter Tryz.func68, Tryz.ntmps68
    go_wp2_with fail
    rw [← HWA.out]
    refine (FC _ HST.out).out.mono ?_
    rintro e w3 ⟨rfl, kk, os, hw3⟩
    have HB3 := Lib.hid (show Below w.heap.size w w3 by rw [hw3]; exact HBA.out.trans (below_grow _ _ HBA.out.size _ _))
    clear hw3
    go_wp2_with fail
    go_ret
    exact ⟨ret_str (str_nil_add t), HB3.out⟩
  · have HR := Lib.hid (show (⟨(txt1 1 n s (txtL sub)).toArray⟩ : ByteArray) = ⟨#[35]⟩ ++ t by rw [ht]; apply ByteArray.ext; simp [txt1])
    rw [HR.out]
    clear hba hV hsta hwa hwz ht hrep hst hok hown hoks hcs HR
    go_enter Tryz.func68, Tryz.ntmps68
    go_wp2_with fail
    rw [← HWA.out]
    refine (FC _ HST.out).out.mono ?_
    rintro e w3 ⟨rfl, kk, os, hw3⟩
    have HB3 := Lib.hid (show Below w.heap.size w w3 by rw [hw3]; exact HBA.out.trans (below_grow _ _ HBA.out.size _ _))
    clear hw3
    go_wp2_with fail
    go_ret
    exact ⟨rfl, HB3.out⟩
  · have QC := Lib.hid (quote_c s wa (by
      have : mOf 2 s = s.size := rfl
      have := cost_ge sub
      omega) HST.out.room HST.out.mx)
    rw [show (⟨(quoL s.data.toList).toArray⟩ : ByteArray) = ⟨(txt1 2 n s (txtL sub)).toArray⟩ from rfl] at QC
    clear hba hV hsta hwa hwz ht hrep hst hok hown hoks hcs FC
    go_enter Tryz.func68, Tryz.ntmps68
    go_wp2_with fail
    rw [← HWA.out]
    refine QC.out.mono ?_
    rintro e w3 ⟨rfl, hb3⟩
    have HB3 := Lib.hid (HBA.out.trans (below_le' hb3 HBA.out.size))
    clear hb3
    go_wp2_with fail
    go_ret
    exact ⟨rfl, HB3.out⟩
  · have NC := Lib.hid (name_l n wa hn0 hn1)
    rw [show nmS n = ⟨(txt1 3 n s (txtL sub)).toArray⟩ from rfl] at NC
    clear hba hV hsta hwa hwz ht hrep hst hok hown hoks hcs FC
    go_enter Tryz.func68, Tryz.ntmps68
    go_wp2_with fail
    rw [← HWA.out]
    refine NC.out.mono ?_
    rintro e w3 ⟨rfl, hb3⟩
    have HB3 := Lib.hid (HBA.out.trans (below_le' hb3 HBA.out.size))
    clear hb3
    go_wp2_with fail
    go_ret
    exact ⟨rfl, HB3.out⟩
  · obtain ⟨i0, hi0, hz0, hz1, hz2⟩ := info_parts str_info
    have hcsub : cost sub ≤ 4096 := by have : mOf 4 s = 0 := rfl; omega
    have HRP := Lib.hid (hrep.keep (w' := wa) (fun b hb => hba.block b hb) (fun b hb => hb))
    clear hba hV hsta hwa hwz ht hrep hst hok hown hcs FC
    go_enter Tryz.func68, Tryz.ntmps68
    go_wp2_with fail
    rw [← HWA.out]
    go_loopg [4, 31] sub.len (fun kk ov v wr => ∃ (bv : Value) (i : Nat), bv = ov ∧ v = .int .i64 i ∧ i + kk = sub.len ∧ wr.ownsRow (w.heap.size + 1) 9 1 bv (txtL (sub.take i)).length (strs (txtL (sub.take i))) ∧ Below (w.heap.size + 1) wa wr)
    case atStart => exact ⟨.slice none 0 0, 0, rfl, rfl, by omega, World.ownsRow_nil _ _ _ _, Below.refl _ _⟩
    case round =>
      obtain ⟨bv, i, rfl, rfl, hik, hrow, hbr⟩ := hrel
      have hrz := hbr.size
      have hwz := HWZ.out
      by_cases hi : i < sub.len
      · obtain ⟨g, rfl⟩ : ∃ g, gk = g + 1 := ⟨gk - 1, by omega⟩
        obtain ⟨k', n', s', sub', hd⟩ := VL.drop_of_lt i sub hi
        have hts := VL.take_succ i sub k' n' s' sub' hd
        have hrw := HRP.out.keep (w' := wr) (fun b hb => hbr.block b (by omega)) (fun b hb => hb)
        obtain ⟨b, o, hsa⟩ : ∃ b o, sa = some ⟨b, o, none⟩ := by
          cases sub with
          | nil => simp [VL.len] at hi
          | cons _ _ _ _ _ => obtain ⟨b, o, _, _, h, _⟩ := hrw; exact ⟨b, o, h⟩
        rw [hsa] at hrw
        have hdr := RpL.drop i sub b o hrw
        rw [hd] at hdr
        obtain ⟨b', o', sa', sc', hA, hSb, c0, c1, c2, c3, hcl, hrs, _⟩ := hdr
        injection hA with hA
        injection hA with hA1 hA2
        subst hA1
        subst hA2
        have hod := ok_drop i sub (d + 1) hoks
        rw [hd] at hod
        have h6d := i64_drop i sub h64s
        rw [hd] at h6d
        have hcd := cost_drop i sub
        rw [hd, cost] at hcd
        have hcr := cost_ge (sub.drop (i + 1))
        have hszd := VL.size_drop i sub
        rw [hd] at hszd
        simp only [VL.size] at hszd
        have hln := len_cost sub
        obtain ⟨wx, hwx⟩ : ∃ wx, wx = wr.alloc (.cells #[.int .i64 k', .int .i64 n', .string s', .slice sa' sub'.len sc'] 31) := ⟨_, rfl⟩
        have hbx : Below (w.heap.size + 1) wa wx := by rw [hwx]; exact hbr.alloc (by omega) _
        have hbx0 : Below wr.heap.size wr wx := by rw [hwx]; exact (Below.refl _ _).alloc (Nat.le_refl _) _
        have hxz : wx.heap.size = wr.heap.size + 1 := by rw [hwx]; simp
        have IHC := Lib.hid (ih (sub'.size + 1) (by omega) k' n' s' sub' sa' sc' (d + 1) wx (by omega) ⟨hod.1, hod.2.1, hod.2.2.1, trivial⟩ ⟨h6d.1, h6d.2.1, h6d.2.2.1, trivial⟩ (by unfold val1; rw [cost, cost]; omega) hcl
          (hrs.keep (fun b hb => hbx0.block b (by omega)) (fun b hb => by omega)) (HST.out.below hbx (by omega)))
        obtain ⟨x, hx⟩ : ∃ x, x = txt1 k' n' s' (txtL sub') := ⟨_, rfl⟩
        rw [← hx] at IHC
        have hrow1 := own_below hrow hbx0
        have HT := Lib.hid (show txtL (sub.take (i + 1)) = txtL (sub.take i) ++ [x] by rw [hts, txtL_app, hx]; rfl)
        have HROW := Lib.hid hrow1
        have HBX := Lib.hid hbx
        have HSA := Lib.hid hsa
        have HWX := Lib.hid hwx
        subst hsa
        have hll : (txtL (sub.take i)).length ≤ 4096 := by
          have := len_cost (sub.take i)
          have h2 : (sub.take i).len + (sub.drop i).len = sub.len := by rw [← VL.len_app, VL.take_app_drop]
          rw [txtL_len]; omega
        rw [Nat.mul_comm 4 i] at c0 c1 c2 c3
        clear hrw hrs hrow hrow1 hbr hbx hbx0 hd hts hod h6d hcd hx hwx
        go_wp2_with fail
        rw [← HWX.out]
        refine IHC.out.mono ?_
        rintro e w5 ⟨rfl, hb5⟩
        have hrow5 := Lib.hid (own_below HROW.out hb5)
        have hb5' := Lib.hid (HBX.out.trans (below_le' hb5 (by have := HBX.out.size; omega)))
        have h5z := hb5.size
        clear hb5
        go_wp2_with (at_builtin; refine wpList_append_own _ rfl (.tmp 35) (.tmp 38) 70 rfl (w.heap.size + 1) 9 i0 (.string ⟨#[]⟩) 1 16 Tryz.underlying70 hi0 hz0 hz1 hz2 rfl (by decide) bv (txtL (sub.take i)).length (strs (txtL (sub.take i))) rfl (own_below hrow5.out ((Below.refl _ _).alloc (Nat.le_refl _) _)) ⟨w5.heap.size, 0, none⟩ 1 1 [.string ⟨x.toArray⟩] rfl rfl ?c1 ?c2 ?c3 ?c4 ?c5 ?c6
                     case c1 => exact cell_one_new _ _ _
                     case c2 => intro u hu; simp at hu; subst hu; rfl
                     case c3 => unfold maxLen; omega
                     case c4 => omega
                     case c5 => simp; omega
                     intro v' w11 hown' hgrow _
                     have HB11 := Lib.hid (grown_below (hb5'.out.alloc (by omega) _) (by simp; omega) hgrow (fun k hk => own_ge hrow5.out k hk))
                     have HO11 := Lib.hid (strs_snoc hown')
                     clear hown' hgrow)
        go_roundg g
        case measure => omega
        case rel => exact ⟨v', i + 1, rfl, by go_num, by omega, by rw [HT.out]; exact HO11.out, HB11.out⟩
      · obtain rfl : i = sub.len := by omega
        rw [VL.take_len] at hrow
        have hjl : (join (txtL sub) [44, 32]).length ≤ 100000 := by
          have h1 := join_len (txtL sub)
          have h2 := txtL_len_le sub (d + 1) hoks h64s
          omega
        have JC := Lib.hid (join_own hrow (by rw [txtL_len]; have := len_cost sub; omega) (by omega))
        obtain ⟨j, hj⟩ : ∃ j : ByteArray, j = ⟨(join (txtL sub) [44, 32]).toArray⟩ := ⟨_, rfl⟩
        rw [← hj] at JC
        have hjs : j.size ≤ 100000 := by
          have h1 : j.size = j.data.toList.length := by rw [Array.length_toList]; rfl
          rw [h1, hj]; exact hjl
        have HR := Lib.hid (show (⟨(txt1 4 n s (txtL sub)).toArray⟩ : ByteArray) = ⟨#[123]⟩ ++ j ++ ⟨#[125]⟩ by rw [hj]; apply ByteArray.ext; simp [txt1])
        have HBR := Lib.hid (HBA.out.trans (below_le' hbr (by omega)))
        clear hrow hbr hj hjl
        go_wp2_with fail
        refine JC.out.mono ?_
        rintro e w6 ⟨rfl, hb6⟩
        have HB6 := Lib.hid (HBR.out.trans (below_le' hb6 HBR.out.size))
        clear hb6
        go_wp2_with fail
        go_ret
        exact ⟨ret_str HR.out.symm, HB6.out⟩

theorem text_c (N : Nat) : TextC N := by
  induction N using Nat.strongRecOn with
  | _ N ih => exact text_step N ih
end Go.Proofs.YtgmnbdfbbcpciaaGreatDoor
namespace Go.Proofs.YtgmnbdfbbcpciaaGreatDoor
open Go.RowKit Go.Lib
set_option linter.unusedVariables false

/-- The text of a value, empty where it is not right. -/
def txtV (k n : Int) (s : ByteArray) (sub : VL) : ByteArray := if (walk1 k n s sub 1 4096).1 = 0 then ⟨(txt1 k n s (txtL sub)).toArray⟩ else ⟨#[]⟩

set_option maxRecDepth 100000 in
set_option maxHeartbeats 2000000 in
theorem Text_c (k n : Int) (s : ByteArray) (sub : VL) (sa : Option Addr) (sc : Nat) (ea : Nat → Addr) (w : World) (he : ErrsAt w ea) (hst : TxAt w) (hfit : (val1 k n s sub).fit) (h64 : (val1 k n s sub).i64) (hsc : sub.len ≤ sc)
    (hrep : RpL w (fun b => b < w.heap.size) sub sa) :
    Calls Tryz.prog 48 #[.agg #[.int .i64 k, .int .i64 n, .string s, .slice sa sub.len sc]] w fun e w' => e = .returned (.string (txtV k n s sub)) ∧ Below w.heap.size w w' := by
  have hroom := hst.room
  obtain ⟨wa, hwa⟩ : ∃ wa, wa = w.alloc (.cells #[.int .i64 k, .int .i64 n, .string s, .slice sa sub.len sc] 31) := ⟨_, rfl⟩
  have hba : Below w.heap.size w wa := by rw [hwa]; exact (Below.refl _ _).alloc (Nat.le_refl _) _
  have hwz : wa.heap.size = w.heap.size + 1 := by rw [hwa]; simp
  have hV : StB wa w.heap.size (.int .i64 k) (.int .i64 n) (.string s) (.slice sa sub.len sc) := by rw [hwa]; exact StB.new w _ _ _ _
  have v0 := hV.c0; have v1 := hV.c1; have v2 := hV.c2; have v3 := hV.c3
  rw [hwa] at v0 v1 v2 v3
  have hrpa := hrep.keep (w' := wa) (fun b hb => hba.block b hb) (fun b hb => hb)
  have VC := Lib.hid (valid_c k n s sub sa sc ea wa (he.below hba (Nat.le_of_lt hroom)) hfit.1 hfit.2.1 hfit.2.2.1 hsc (hrpa.wide (fun b hb => by omega)))
  have HBA := Lib.hid hba
  have HWA := Lib.hid hwa
  have HV := Lib.hid hV
  have HST := Lib.hid (hst.below hba (Nat.le_refl _))
  have HRP := Lib.hid hrpa
  have HWZ := Lib.hid hwz
  clear hba hV hwa hwz hrep hrpa he hst
  by_cases hc : (walk1 k n s sub 1 4096).1 = 0
  · have HT := Lib.hid (show txtV k n s sub = ⟨(txt1 k n s (txtL sub)).toArray⟩ by unfold txtV; rw [if_pos hc])
    have hcost := walk1_cost k n s sub 1 4096 (by omega) hc
    have TC := Lib.hid (fun W (hb : Below (w.heap.size + 1) wa W) => text_c (sub.size + 1) k n s sub sa sc 1 W (by omega) (walk1_ok hc) h64 (by unfold val1; rw [cost, cost]; omega) hsc
      (HRP.out.keep (fun b hlt => hb.block b (by omega)) (fun b hlt => by have := hb.size; have := HWZ.out; omega)) (HST.out.below hb (by have := HWZ.out; omega)))
    rw [hc, show errV ea 0 = Value.nilIface from rfl] at VC
    rw [HT.out]
    clear hc hcost
    go_enter Tryz.func48, Tryz.ntmps48
    go_wp2_with fail
    rw [← HWA.out]
    refine VC.out.mono ?_
    rintro e w2 ⟨rfl, hb2⟩
    have hb2' : Below (w.heap.size + 1) wa w2 := by rw [← HWZ.out]; exact hb2
    have hV2 := HV.out.below' hb2
    have u0 := hV2.c0; have u1 := hV2.c1; have u2 := hV2.c2; have u3 := hV2.c3
    have HB2 := Lib.hid hb2'
    clear hb2 hb2' hV2 v0 v1 v2 v3
    go_wp2_with fail
    refine (TC.out _ HB2.out).mono ?_
    rintro e w3 ⟨rfl, hb3⟩
    have HB3 := Lib.hid (HBA.out.trans (below_le' (HB2.out.trans (below_le' hb3 (by have := HB2.out.size; have := HWZ.out; omega))) (show w.heap.size ≤ w.heap.size + 1 by omega)))
    clear hb3
    go_wp2_with fail
    go_ret
    exact ⟨rfl, HB3.out⟩
  · have HT := Lib.hid (show txtV k n s sub = ⟨#[]⟩ by unfold txtV; rw [if_neg hc])
    have HERR := Lib.hid (show errV ea (walk1 k n s sub 1 4096).1 = .iface 148 (.pointer (some (ea (walk1 k n s sub 1 4096).1))) by unfold errV; rw [if_neg hc])
    rw [HERR.out] at VC
    rw [HT.out]
    clear hc
    go_enter Tryz.func48, Tryz.ntmps48
    go_wp2_with fail
    rw [← HWA.out]
    refine VC.out.mono ?_
    rintro e w2 ⟨rfl, hb2⟩
    have HB2 := Lib.hid (HBA.out.trans (below_le' hb2 (by have := HWZ.out; omega)))
    clear hb2
    go_wp2_with fail
    go_ret
    exact ⟨rfl, HB2.out⟩
end Go.Proofs.YtgmnbdfbbcpciaaGreatDoor
namespace Go.Proofs.YtgmnbdfbbcpciaaGreatDoor
open Go.RowKit Go.Lib
set_option linter.unusedVariables false

set_option maxHeartbeats 2000000 in
theorem loose_c (op ln : Int) (s : ByteArray) (k n : Int) (t : ByteArray) (vv vs : Value) (w : World) :
    Calls Tryz.prog 69 #[.agg #[.int .i64 op, .int .i64 ln, .string s, .int .i64 k, .int .i64 n, .string t, vv, vs]] w fun e w' => e = .returned (.bool (looseP op k n)) ∧ Below w.heap.size w w' := by
  obtain ⟨wa, hwa⟩ : ∃ wa, wa = w.alloc (.cells #[.int .i64 op, .int .i64 ln, .string s, .int .i64 k, .int .i64 n, .string t, vv, vs] 33) := ⟨_, rfl⟩
  have hb : Below w.heap.size w wa := by rw [hwa]; exact (Below.refl _ _).alloc (Nat.le_refl _) _
  have hN : NdB wa w.heap.size (.int .i64 op) (.int .i64 ln) (.string s) (.int .i64 k) (.int .i64 n) (.string t) vv vs := by rw [hwa]; exact NdB.new _ _ _ _ _ _ _ _ _
  have v0 := hN.c0; have v3 := hN.c3; have v4 := hN.c4
  rw [hwa] at v0 v3 v4
  have HB := Lib.hid hb
  have HWA := Lib.hid hwa
  clear hb hN hwa
  by_cases h1 : op = 1
  · subst h1
    by_cases hk0 : k = 0
    · subst hk0
      have HS := Lib.hid (show looseP 1 0 n = decide (n < 0) by unfold looseP; simp)
      go_enter Tryz.func69, Tryz.ntmps69
      go_wp2_with fail
      rw [← HWA.out]
      go_ret
      exact ⟨ret_val (by rw [HS.out]; rfl), HB.out⟩
    by_cases hk1 : k = 1
    · subst hk1
      have HS := Lib.hid (show looseP 1 1 n = decide (n < 0) by unfold looseP; simp)
      go_enter Tryz.func69, Tryz.ntmps69
      go_wp2_with fail
      rw [← HWA.out]
      go_ret
      exact ⟨ret_val (by rw [HS.out]; rfl), HB.out⟩
    have b0 := beq_no hk0
    have b1 := beq_no hk1
    have HS := Lib.hid (show looseP 1 k n = false by unfold looseP; simp [b0, b1])
    clear hk0 hk1
    go_enter Tryz.func69, Tryz.ntmps69
    go_wp2_with fail
    rw [← HWA.out]
    go_ret
    exact ⟨ret_val (by rw [HS.out]; rfl), HB.out⟩
  by_cases h2 : op = 19 ∨ op = 27 ∨ op = 28
  · rcases h2 with rfl | rfl | rfl
    all_goals
      go_enter Tryz.func69, Tryz.ntmps69
      go_wp2_with fail
      rw [← HWA.out]
      go_ret
      exact ⟨rfl, HB.out⟩
  have b1 := beq_no h1
  have b19 := beq_no (show op ≠ 19 by omega)
  have b27 := beq_no (show op ≠ 27 by omega)
  have b28 := beq_no (show op ≠ 28 by omega)
  have HS0 := Lib.hid (show looseP op k n = (decide (3 ≤ op) && decide (op ≤ 18)) by unfold looseP; rw [if_neg h1, if_neg h2])
  clear h1 h2
  by_cases h3 : 3 ≤ op
  · have HS := Lib.hid (show looseP op k n = decide (op ≤ 18) by rw [HS0.out, decide_eq_true h3]; rfl)
    go_enter Tryz.func69, Tryz.ntmps69
    go_wp2_with fail
    rw [← HWA.out]
    go_ret
    exact ⟨ret_val (by rw [HS.out]; rfl), HB.out⟩
  · have HS := Lib.hid (show looseP op k n = false by rw [HS0.out, decide_eq_false h3]; rfl)
    go_enter Tryz.func69, Tryz.ntmps69
    go_wp2_with fail
    rw [← HWA.out]
    go_ret
    exact ⟨ret_val (by rw [HS.out]; rfl), HB.out⟩

set_option maxRecDepth 100000 in
set_option maxHeartbeats 2000000 in
theorem sign_sc (op : Int) (w : World) (h : 5 ≤ op ∧ op ≤ 18) : Calls Tryz.prog 52 #[.int .i64 op] w fun e w' => e = .returned (.string ⟨(signT op).toArray⟩) ∧ Below w.heap.size w w' := by
  have hk : op = 5 ∨ op = 6 ∨ op = 7 ∨ op = 8 ∨ op = 9 ∨ op = 10 ∨ op = 11 ∨ op = 12 ∨ op = 13 ∨ op = 14 ∨ op = 15 ∨ op = 16 ∨ op = 17 ∨ op = 18 := by omega
  have HB := Lib.hid ((Below.refl w.heap.size w).alloc (Nat.le_refl _) (.cells #[.string ⟨#[43]⟩, .string ⟨#[45]⟩, .string ⟨#[42]⟩, .string ⟨#[47]⟩, .string ⟨#[37]⟩, .string ⟨#[61, 61]⟩, .string ⟨#[33, 61]⟩, .string ⟨#[60]⟩, .string ⟨#[60, 61]⟩, .string ⟨#[62]⟩, .string ⟨#[62, 61]⟩, .string ⟨#[105, 110]⟩, .string ⟨#[38, 38]⟩, .string ⟨#[124, 124]⟩] 9))
  have hh := heap_alloc_new w (.cells #[.string ⟨#[43]⟩, .string ⟨#[45]⟩, .string ⟨#[42]⟩, .string ⟨#[47]⟩, .string ⟨#[37]⟩, .string ⟨#[61, 61]⟩, .string ⟨#[33, 61]⟩, .string ⟨#[60]⟩, .string ⟨#[60, 61]⟩, .string ⟨#[62]⟩, .string ⟨#[62, 61]⟩, .string ⟨#[105, 110]⟩, .string ⟨#[38, 38]⟩, .string ⟨#[124, 124]⟩] 9)
  have HC := fun j => cell_of_row _ w.heap.size j _ _ _ hh
  clear hh h
  rcases hk with rfl | rfl | rfl | rfl | rfl | rfl | rfl | rfl | rfl | rfl | rfl | rfl | rfl | rfl
  · have c := HC 0
    clear HC
    go_enter Tryz.func52, Tryz.ntmps52
    go_wp2_with fail
    go_ret
    exact ⟨rfl, HB.out⟩
  · have c := HC 1
    clear HC
    go_enter Tryz.func52, Tryz.ntmps52
    go_wp2_with fail
    go_ret
    exact ⟨rfl, HB.out⟩
  · have c := HC 2
    clear HC
    go_enter Tryz.func52, Tryz.ntmps52
    go_wp2_with fail
    go_ret
    exact ⟨rfl, HB.out⟩
  · have c := HC 3
    clear HC
    go_enter Tryz.func52, Tryz.ntmps52
    go_wp2_with fail
    go_ret
    exact ⟨rfl, HB.out⟩
  · have c := HC 4
    clear HC
    go_enter Tryz.func52, Tryz.ntmps52
    go_wp2_with fail
    go_ret
    exact ⟨rfl, HB.out⟩
  · have c := HC 5
    clear HC
    go_enter Tryz.func52, Tryz.ntmps52
    go_wp2_with fail
    go_ret
    exact ⟨rfl, HB.out⟩
  · have c := HC 6
    clear HC
    go_enter Tryz.func52, Tryz.ntmps52
    go_wp2_with fail
    go_ret
    exact ⟨rfl, HB.out⟩
  · have c := HC 7
    clear HC
    go_enter Tryz.func52, Tryz.ntmps52
    go_wp2_with fail
    go_ret
    exact ⟨rfl, HB.out⟩
  · have c := HC 8
    clear HC
    go_enter Tryz.func52, Tryz.ntmps52
    go_wp2_with fail
    go_ret
    exact ⟨rfl, HB.out⟩
  · have c := HC 9
    clear HC
    go_enter Tryz.func52, Tryz.ntmps52
    go_wp2_with fail
    go_ret
    exact ⟨rfl, HB.out⟩
  · have c := HC 10
    clear HC
    go_enter Tryz.func52, Tryz.ntmps52
    go_wp2_with fail
    go_ret
    exact ⟨rfl, HB.out⟩
  · have c := HC 11
    clear HC
    go_enter Tryz.func52, Tryz.ntmps52
    go_wp2_with fail
    go_ret
    exact ⟨rfl, HB.out⟩
  · have c := HC 12
    clear HC
    go_enter Tryz.func52, Tryz.ntmps52
    go_wp2_with fail
    go_ret
    exact ⟨rfl, HB.out⟩
  · have c := HC 13
    clear HC
    go_enter Tryz.func52, Tryz.ntmps52
    go_wp2_with fail
    go_ret
    exact ⟨rfl, HB.out⟩
end Go.Proofs.YtgmnbdfbbcpciaaGreatDoor
namespace Go.Proofs.YtgmnbdfbbcpciaaGreatDoor
open Go.RowKit Go.Lib
set_option linter.unusedVariables false

/-- What texts ask of the world. -/
structure ShAt (w : World) (ea : Nat → Addr) : Prop where
  err : ErrsAt w ea
  tx : TxAt w
theorem ShAt.below {w w' : World} {ea : Nat → Addr} (h : ShAt w ea) (hb : Below w.heap.size w w') : ShAt w' ea := ⟨h.err.below hb (Nat.le_of_lt h.err.room), h.tx.below hb (Nat.le_refl _)⟩
/-- A node that came as an argument: its parts in memory; it is right as an expression. -/
structure NdIn (w : World) (op ln : Int) (s : ByteArray) (k n : Int) (t : ByteArray) (v : VL) (va : Option Addr) (vc : Nat) (sub : NL) (sa : Option Addr) (sc : Nat) : Prop where
  ex : ExN (node1 op ln s k n t v sub)
  tot : sub.tot ≤ 4096
  hvc : v.len ≤ vc
  hsc : sub.len ≤ sc
  hv : RpL w (fun b => b < w.heap.size) v va
  hsub : RpN w (fun b => b < w.heap.size) sub sa
section
variable {w w' : World} {op ln : Int} {s : ByteArray} {k n : Int} {t : ByteArray} {v : VL} {va : Option Addr} {vc : Nat} {sub : NL} {sa : Option Addr} {sc : Nat}
theorem NdIn.below (h : NdIn w op ln s k n t v va vc sub sa sc) (hb : Below w.heap.size w w') : NdIn w' op ln s k n t v va vc sub sa sc :=
  ⟨h.ex, h.tot, h.hvc, h.hsc, h.hv.keep (fun b hlt => hb.block b hlt) (fun b hlt => Nat.lt_of_lt_of_le hlt hb.size), h.hsub.keep (fun b hlt => hb.block b hlt) (fun b hlt => Nat.lt_of_lt_of_le hlt hb.size)⟩
end
/-- A text of bytes. -/
def bs (l : List UInt8) : ByteArray := ⟨l.toArray⟩
theorem bs_size (l : List UInt8) : (bs l).size = l.length := by show l.toArray.size = _; rw [List.size_toArray]
theorem bs_app (a b : List UInt8) : bs (a ++ b) = bs a ++ bs b := by apply ByteArray.ext; simp [bs]
/-- No text of a node is too long. -/
theorem ex_len {op ln : Int} {s : ByteArray} {k n : Int} {t : ByteArray} {v : VL} {sub : NL} (h : ExN (node1 op ln s k n t v sub)) (ht : sub.tot ≤ 4096) :
    (nodeT op s k n t v (ntx sub)).b.length ≤ 500000000 ∧ (nodeT op s k n t v (ntx sub)).nm.length ≤ 500000000 ∧ (nodeT op s k n t v (ntx sub)).cd.length ≤ 500000000 ∧ (inT (nodeT op s k n t v (ntx sub))).length ≤ 500000000 := by
  obtain ⟨a, b, ⟨h1, h2, h3⟩, -, h4⟩ := ex_z _ h
  have e : (node1 op ln s k n t v sub).tot = 1 + sub.tot := by simp [node1, NL.tot]
  rw [e] at h4
  have := inT_len (nodeT op s k n t v (ntx sub))
  omega

def BareC (N : Nat) : Prop := ∀ (op ln : Int) (s : ByteArray) (k n : Int) (t : ByteArray) (v : VL) (va : Option Addr) (vc : Nat) (sub : NL) (sa : Option Addr) (sc : Nat) (ea : Nat → Addr) (w : World), sub.tot < N → ShAt w ea → NdIn w op ln s k n t v va vc sub sa sc →
  Calls Tryz.prog 33 #[.agg #[.int .i64 op, .int .i64 ln, .string s, .int .i64 k, .int .i64 n, .string t, .slice va v.len vc, .slice sa sub.len sc]] w
    fun e w' => e = .returned (.string (bs (nodeT op s k n t v (ntx sub)).b)) ∧ Below w.heap.size w w'

set_option maxRecDepth 100000 in
set_option maxHeartbeats 1000000 in
theorem in_of {N : Nat} (ih : BareC N) (op ln : Int) (s : ByteArray) (k n : Int) (t : ByteArray) (v : VL) (va : Option Addr) (vc : Nat) (sub : NL) (sa : Option Addr) (sc : Nat) (ea : Nat → Addr) (w : World) (hN : sub.tot < N) (hsh : ShAt w ea) (hnd : NdIn w op ln s k n t v va vc sub sa sc) :
    Calls Tryz.prog 49 #[.agg #[.int .i64 op, .int .i64 ln, .string s, .int .i64 k, .int .i64 n, .string t, .slice va v.len vc, .slice sa sub.len sc]] w
      fun e w' => e = .returned (.string (bs (inT (nodeT op s k n t v (ntx sub))))) ∧ Below w.heap.size w w' := by
  obtain ⟨wa, hwa⟩ : ∃ wa, wa = w.alloc (.cells #[.int .i64 op, .int .i64 ln, .string s, .int .i64 k, .int .i64 n, .string t, .slice va v.len vc, .slice sa sub.len sc] 33) := ⟨_, rfl⟩
  have hb : Below w.heap.size w wa := by rw [hwa]; exact (Below.refl _ _).alloc (Nat.le_refl _) _
  have hN1 : NdB wa w.heap.size (.int .i64 op) (.int .i64 ln) (.string s) (.int .i64 k) (.int .i64 n) (.string t) (.slice va v.len vc) (.slice sa sub.len sc) := by rw [hwa]; exact NdB.new _ _ _ _ _ _ _ _ _
  have v0 := hN1.c0; have v1 := hN1.c1; have v2 := hN1.c2; have v3 := hN1.c3; have v4 := hN1.c4; have v5 := hN1.c5; have v6 := hN1.c6; have v7 := hN1.c7
  have LC := Lib.hid (loose_c op ln s k n t (.slice va v.len vc) (.slice sa sub.len sc) wa)
  have HNB := Lib.hid hN1
  have HB := Lib.hid hb
  have HWA := Lib.hid hwa
  have hlen := (ex_len hnd.ex hnd.tot).1
  have BC := Lib.hid (fun W (hW : Below wa.heap.size wa W) => ih op ln s k n t v va vc sub sa sc ea W hN ((hsh.below hb).below hW) ((hnd.below hb).below hW))
  obtain ⟨x, hx⟩ : ∃ x, x = nodeT op s k n t v (ntx sub) := ⟨_, rfl⟩
  have hlo : x.lo = looseP op k n := by rw [hx]; rfl
  rw [← hx] at BC hlen ⊢
  rw [← hlo] at LC
  clear hx hlo
  rw [hwa] at v0 v1 v2 v3 v4 v5 v6 v7
  have hbz : (bs x.b).size ≤ 500000000 := by rw [bs_size]; exact hlen
  clear hb hN1 hwa hsh hnd
  cases hl : x.lo with
  | true =>
    have HI := Lib.hid (show bs (inT x) = ⟨#[40]⟩ ++ bs x.b ++ ⟨#[41]⟩ by unfold inT; rw [if_pos hl]; unfold brk; apply ByteArray.ext; simp [bs])
    rw [hl] at LC
    clear hl
    go_enter Tryz.func49, Tryz.ntmps49
    go_wp2_with fail
    rw [← HWA.out]
    refine LC.out.mono ?_
    rintro e w2 ⟨rfl, hb2⟩
    have hN2 := HNB.out.below' hb2
    have y0 := hN2.c0; have y1 := hN2.c1; have y2 := hN2.c2; have y3 := hN2.c3; have y4 := hN2.c4; have y5 := hN2.c5; have y6 := hN2.c6; have y7 := hN2.c7
    have HB2 := Lib.hid hb2
    clear hb2 hN2 v0 v1 v2 v3 v4 v5 v6 v7
    go_wp2_with fail
    refine (BC.out w2 HB2.out).mono ?_
    rintro e w3 ⟨rfl, hb3⟩
    have HB3 := Lib.hid (HB.out.trans (below_le' (HB2.out.trans (below_le' hb3 HB2.out.size)) HB.out.size))
    clear hb3
    go_wp2_with fail
    go_ret
    exact ⟨ret_str HI.out.symm, HB3.out⟩
  | false =>
    have HI := Lib.hid (show bs (inT x) = bs x.b by unfold inT; rw [if_neg (by rw [hl]; decide)])
    rw [hl] at LC
    clear hl
    go_enter Tryz.func49, Tryz.ntmps49
    go_wp2_with fail
    rw [← HWA.out]
    refine LC.out.mono ?_
    rintro e w2 ⟨rfl, hb2⟩
    have hN2 := HNB.out.below' hb2
    have y0 := hN2.c0; have y1 := hN2.c1; have y2 := hN2.c2; have y3 := hN2.c3; have y4 := hN2.c4; have y5 := hN2.c5; have y6 := hN2.c6; have y7 := hN2.c7
    have HB2 := Lib.hid hb2
    clear hb2 hN2 v0 v1 v2 v3 v4 v5 v6 v7
    go_wp2_with fail
    refine (BC.out w2 HB2.out).mono ?_
    rintro e w3 ⟨rfl, hb3⟩
    have HB3 := Lib.hid (HB.out.trans (below_le' (HB2.out.trans (below_le' hb3 HB2.out.size)) HB.out.size))
    clear hb3
    go_wp2_with fail
    go_ret
    exact ⟨ret_str HI.out.symm, HB3.out⟩

set_option maxRecDepth 100000 in
set_option maxHeartbeats 1000000 in
theorem name_of {N : Nat} (ih : BareC N) (op ln : Int) (s : ByteArray) (k n : Int) (t : ByteArray) (v : VL) (va : Option Addr) (vc : Nat) (sub : NL) (sa : Option Addr) (sc : Nat) (ea : Nat → Addr) (w : World) (hN : sub.tot < N) (hsh : ShAt w ea) (hnd : NdIn w op ln s k n t v va vc sub sa sc) :
    Calls Tryz.prog 50 #[.agg #[.int .i64 op, .int .i64 ln, .string s, .int .i64 k, .int .i64 n, .string t, .slice va v.len vc, .slice sa sub.len sc]] w
      fun e w' => e = .returned (.string (bs (nodeT op s k n t v (ntx sub)).nm)) ∧ Below w.heap.size w w' := by
  obtain ⟨wa, hwa⟩ : ∃ wa, wa = w.alloc (.cells #[.int .i64 op, .int .i64 ln, .string s, .int .i64 k, .int .i64 n, .string t, .slice va v.len vc, .slice sa sub.len sc] 33) := ⟨_, rfl⟩
  have hb : Below w.heap.size w wa := by rw [hwa]; exact (Below.refl _ _).alloc (Nat.le_refl _) _
  have hN1 : NdB wa w.heap.size (.int .i64 op) (.int .i64 ln) (.string s) (.int .i64 k) (.int .i64 n) (.string t) (.slice va v.len vc) (.slice sa sub.len sc) := by rw [hwa]; exact NdB.new _ _ _ _ _ _ _ _ _
  have v0 := hN1.c0; have v1 := hN1.c1; have v2 := hN1.c2; have v3 := hN1.c3; have v4 := hN1.c4; have v5 := hN1.c5; have v6 := hN1.c6; have v7 := hN1.c7
  have HNB := Lib.hid hN1
  have HB := Lib.hid hb
  have HWA := Lib.hid hwa
  have hlen := (ex_len hnd.ex hnd.tot).1
  have hts : op = 1 → t.size ≤ 140737488351232 := fun e => (hnd.ex.2.2.1 e).2.2.1
  have BC := Lib.hid (fun W (hW : Below wa.heap.size wa W) => ih op ln s k n t v va vc sub sa sc ea W hN ((hsh.below hb).below hW) ((hnd.below hb).below hW))
  obtain ⟨x, hx⟩ : ∃ x, x = nodeT op s k n t v (ntx sub) := ⟨_, rfl⟩
  have hnm : x.nm = if op = 1 ∧ k = 2 ∧ nameB t = true then t.data.toList else brk x.b := by rw [hx]; rfl
  rw [← hx] at BC hlen ⊢
  clear hx
  rw [hwa] at v0 v1 v2 v3 v4 v5 v6 v7
  have hbz : (bs x.b).size ≤ 500000000 := by rw [bs_size]; exact hlen
  have HBRK := Lib.hid (show bs (brk x.b) = ⟨#[40]⟩ ++ bs x.b ++ ⟨#[41]⟩ by unfold brk; apply ByteArray.ext; simp [bs])
  clear hb hN1 hwa hsh hnd
  by_cases h1 : op = 1
  · have b1 : (op == 1) = true := by rw [h1]; rfl
    by_cases h2 : k = 2
    · have b2 : (k == 2) = true := by rw [h2]; rfl
      have NC := Lib.hid (name_tc t wa (hts h1))
      cases hn : nameB t with
      | true =>
        have HI := Lib.hid (show bs x.nm = t by rw [hnm, if_pos ⟨h1, h2, hn⟩]; apply ByteArray.ext; simp [bs])
        rw [hn] at NC
        clear hn h1 h2 hnm hts
        go_enter Tryz.func50, Tryz.ntmps50
        go_wp2_with fail
        rw [← HWA.out]
        refine NC.out.mono ?_
        rintro e w2 ⟨rfl, hb2⟩
        have hN2 := HNB.out.below' hb2
        have y0 := hN2.c0; have y1 := hN2.c1; have y2 := hN2.c2; have y3 := hN2.c3; have y4 := hN2.c4; have y5 := hN2.c5; have y6 := hN2.c6; have y7 := hN2.c7
        have HB2 := Lib.hid (HB.out.trans (below_le' hb2 HB.out.size))
        clear hb2 hN2 v0 v1 v2 v3 v4 v5 v6 v7
        go_wp2_with fail
        go_ret
        exact ⟨ret_str HI.out.symm, HB2.out⟩
      | false =>
        have HI := Lib.hid (show bs x.nm = ⟨#[40]⟩ ++ bs x.b ++ ⟨#[41]⟩ by rw [hnm, if_neg (by rw [hn]; simp), HBRK.out])
        rw [hn] at NC
        clear hn h1 h2 hnm hts
        go_enter Tryz.func50, Tryz.ntmps50
        go_wp2_with fail
        rw [← HWA.out]
        refine NC.out.mono ?_
        rintro e w2 ⟨rfl, hb2⟩
        have hN2 := HNB.out.below' hb2
        have y0 := hN2.c0; have y1 := hN2.c1; have y2 := hN2.c2; have y3 := hN2.c3; have y4 := hN2.c4; have y5 := hN2.c5; have y6 := hN2.c6; have y7 := hN2.c7
        have HB2 := Lib.hid hb2
        clear hb2 hN2 v0 v1 v2 v3 v4 v5 v6 v7
        go_wp2_with fail
        refine (BC.out w2 HB2.out).mono ?_
        rintro e w3 ⟨rfl, hb3⟩
        have HB3 := Lib.hid (HB.out.trans (below_le' (HB2.out.trans (below_le' hb3 HB2.out.size)) HB.out.size))
        clear hb3
        go_wp2_with fail
        go_ret
        exact ⟨ret_str HI.out.symm, HB3.out⟩
    · have b2 := beq_no h2
      have HI := Lib.hid (show bs x.nm = ⟨#[40]⟩ ++ bs x.b ++ ⟨#[41]⟩ by rw [hnm, if_neg (fun h => h2 h.2.1), HBRK.out])
      clear h1 h2 hnm hts
      go_enter Tryz.func50, Tryz.ntmps50
      go_wp2_with fail
      rw [← HWA.out]
      refine (BC.out wa (Below.refl _ _)).mono ?_
      rintro e w3 ⟨rfl, hb3⟩
      have HB3 := Lib.hid (HB.out.trans (below_le' hb3 HB.out.size))
      clear hb3
      go_wp2_with fail
      go_ret
      exact ⟨ret_str HI.out.symm, HB3.out⟩
  · have b1 := beq_no h1
    have HI := Lib.hid (show bs x.nm = ⟨#[40]⟩ ++ bs x.b ++ ⟨#[41]⟩ by rw [hnm, if_neg (fun h => h1 h.1), HBRK.out])
    clear h1 hnm hts
    go_enter Tryz.func50, Tryz.ntmps50
    go_wp2_with fail
    rw [← HWA.out]
    refine (BC.out wa (Below.refl _ _)).mono ?_
    rintro e w3 ⟨rfl, hb3⟩
    have HB3 := Lib.hid (HB.out.trans (below_le' hb3 HB.out.size))
    clear hb3
    go_wp2_with fail
    go_ret
    exact ⟨ret_str HI.out.symm, HB3.out⟩

/-- The texts of the first so many. -/
def txB (l : List NTx) : List (List UInt8) := l.map (·.b)
theorem ntx_take_succ {i : Nat} {l : NL} {op ln : Int} {s : ByteArray} {k n : Int} {t : ByteArray} {v : VL} {sub : NL} (hd : l.drop i = .cons op ln s k n t v sub (l.drop (i + 1))) : txB (ntx (l.take (i + 1))) = txB (ntx (l.take i)) ++ [(nodeT op s k n t v (ntx sub)).b] := by
  rw [NL.take_succ i l op ln s k n t v sub hd, ntx_app]
  simp [txB, ntx]
theorem txB_len (l : NL) : (txB (ntx l)).length = l.len := by unfold txB; rw [List.length_map, ntx_len]
theorem ex_row_len {l : NL} (h : ExN l) (ht : l.tot ≤ 4096) : (rowT (ntx l)).length ≤ 500000000 := by
  have := (ex_z l h).rowT
  omega

set_option maxRecDepth 100000 in
set_option maxHeartbeats 2000000 in
theorem row_of {N : Nat} (ih : BareC N) (l : NL) (A : Option Addr) (c : Nat) (ea : Nat → Addr) (w : World) (hN : l.tot ≤ N) (h4 : l.tot ≤ 4096) (hsh : ShAt w ea) (hex : ExN l) (hc : l.len ≤ c) (hrep : RpN w (fun b => b < w.heap.size) l A) :
    Calls Tryz.prog 51 #[.slice A l.len c] w fun e w' => e = .returned (.string (bs (rowT (ntx l)))) ∧ Below w.heap.size w w' := by
  obtain ⟨i0, hi0, hz0, hz1, hz2⟩ := info_parts str_info
  have hlt := NL.len_tot l
  have HRP := Lib.hid hrep
  have HSH := Lib.hid hsh
  have HRL := Lib.hid (ex_row_len hex h4)
  clear hrep hsh
  go_enter Tryz.func51, Tryz.ntmps51
  go_wp2_with fail
  go_loopg [3, 8] l.len (fun kk ov v wr => ∃ (bv : Value) (i : Nat), bv = ov ∧ v = .int .i64 i ∧ i + kk = l.len ∧ wr.ownsRow w.heap.size 9 1 bv (txB (ntx (l.take i))).length (strs (txB (ntx (l.take i)))) ∧ Below w.heap.size w wr)
  case atStart => exact ⟨.slice none 0 0, 0, rfl, rfl, by omega, World.ownsRow_nil _ _ _ _, Below.refl _ _⟩
  case round =>
    obtain ⟨bv, i, rfl, rfl, hik, hrow, hbr⟩ := hrel
    have hrz := hbr.size
    by_cases hi : i < l.len
    · obtain ⟨g, rfl⟩ : ∃ g, gk = g + 1 := ⟨gk - 1, by omega⟩
      obtain ⟨b, o, op', ln', s', k', n', t', v', sub', va', vc', sa', sc', hA, hSb, hd, c0, c1, c2, c3, c4, c5, c6, hvc', hv', c7, hsc', hs'⟩ := (HRP.out.below hbr (fun b hb => hb)).nth hi
      have htd := NL.tot_drop i l
      have hed := ExN.drop i l hex
      rw [hd] at htd hed
      simp only [NL.tot] at htd
      have hed1 : ExN (node1 op' ln' s' k' n' t' v' sub') := by
        obtain ⟨a1, a2, a3, a4, a5, a6, -⟩ := hed
        exact ⟨a1, a2, a3, a4, a5, a6, trivial⟩
      obtain ⟨wx, hwx⟩ : ∃ wx, wx = wr.alloc (.cells #[.int .i64 op', .int .i64 ln', .string s', .int .i64 k', .int .i64 n', .string t', .slice va' v'.len vc', .slice sa' sub'.len sc'] 33) := ⟨_, rfl⟩
      have hbx : Below wr.heap.size wr wx := by rw [hwx]; exact (Below.refl _ _).alloc (Nat.le_refl _) _
      have hnb : NdB wx wr.heap.size (.int .i64 op') (.int .i64 ln') (.string s') (.int .i64 k') (.int .i64 n') (.string t') (.slice va' v'.len vc') (.slice sa' sub'.len sc') := by rw [hwx]; exact NdB.new _ _ _ _ _ _ _ _ _
      have hbxw := hbr.trans (below_le' hbx hrz)
      have hzx := hbx.size
      have y0 := hnb.c0; have y1 := hnb.c1; have y2 := hnb.c2; have y3 := hnb.c3; have y4 := hnb.c4; have y5 := hnb.c5; have y6 := hnb.c6; have y7 := hnb.c7
      rw [hwx] at y0 y1 y2 y3 y4 y5 y6 y7
      have IHC := Lib.hid (ih op' ln' s' k' n' t' v' va' vc' sub' sa' sc' ea wx (by omega) (HSH.out.below hbxw) ⟨hed1, by omega, hvc', hsc', hv'.keep (fun b hb => hbx.block b (by omega)) (fun b hb => by omega), hs'.keep (fun b hb => hbx.block b (by omega)) (fun b hb => by omega)⟩)
      have HT := Lib.hid (ntx_take_succ hd)
      obtain ⟨x, hx⟩ : ∃ x, x = (nodeT op' s' k' n' t' v' (ntx sub')).b := ⟨_, rfl⟩
      rw [← hx] at IHC HT
      have HROW := Lib.hid (own_below hrow hbx)
      have HBX := Lib.hid hbxw
      have HWX := Lib.hid hwx
      have hll : (txB (ntx (l.take i))).length ≤ 4096 := by
        rw [txB_len]
        have h2 : (l.take i).len + (l.drop i).len = l.len := by rw [← NL.len_app, NL.take_app_drop]
        omega
      subst hA
      clear hrow hbr hbx hnb hbxw hv' hs' hd hed hed1 hx hwx htd
      go_wp2_with fail
      rw [← HWX.out]
      refine IHC.out.mono ?_
      rintro e w5 ⟨rfl, hb5⟩
      have hrow5 := Lib.hid (own_below HROW.out hb5)
      have hb5' := Lib.hid (HBX.out.trans (below_le' hb5 HBX.out.size))
      have h5z := hb5.size
      clear hb5
      go_wp2_with (at_builtin; refine wpList_append_own _ rfl (.tmp 12) (.tmp 15) 70 rfl w.heap.size 9 i0 (.string ⟨#[]⟩) 1 16 Tryz.underlying70 hi0 hz0 hz1 hz2 rfl (by decide) bv (txB (ntx (l.take i))).length (strs (txB (ntx (l.take i)))) rfl (own_below hrow5.out ((Below.refl _ _).alloc (Nat.le_refl _) _)) ⟨w5.heap.size, 0, none⟩ 1 1 [.string (bs x)] rfl rfl ?c1 ?c2 ?c3 ?c4 ?c5 ?c6
                   case c1 => exact cell_one_new _ _ _
                   case c2 => intro u hu; simp at hu; subst hu; rfl
                   case c3 => unfold maxLen; omega
                   case c4 => omega
                   case c5 => simp; omega
                   intro v' w11 hown' hgrow _
                   have HB11 := Lib.hid (grown_below (hb5'.out.alloc (by omega) _) (by simp; omega) hgrow (fun k hk => own_ge hrow5.out k hk))
                   have HO11 := Lib.hid (strs_snoc hown')
                   clear hown' hgrow)
      go_roundg g
      case measure => omega
      case rel => exact ⟨v', i + 1, rfl, by go_num, by omega, by rw [HT.out]; exact HO11.out, HB11.out⟩
    · obtain rfl : i = l.len := by omega
      rw [NL.take_len] at hrow
      have hjl : (join (txB (ntx l)) [44, 32]).length ≤ 500000000 := HRL.out
      have JC := Lib.hid (join_own hrow (by rw [txB_len]; omega) (by omega))
      have HR := Lib.hid (show (⟨(join (txB (ntx l)) [44, 32]).toArray⟩ : ByteArray) = bs (rowT (ntx l)) from rfl)
      rw [HR.out] at JC
      have HBR := Lib.hid hbr
      clear hrow hbr hjl
      go_wp2_with fail
      refine JC.out.mono ?_
      rintro e w6 ⟨rfl, hb6⟩
      have HB6 := Lib.hid (HBR.out.trans (below_le' hb6 HBR.out.size))
      clear hb6
      go_wp2_with fail
      go_ret
      exact ⟨rfl, HB6.out⟩

set_option maxRecDepth 100000 in
set_option maxHeartbeats 1000000 in
theorem codes_of {N : Nat} (ih : BareC N) (op ln : Int) (s : ByteArray) (k n : Int) (t : ByteArray) (v : VL) (va : Option Addr) (vc : Nat) (sub : NL) (sa : Option Addr) (sc : Nat) (ea : Nat → Addr) (w : World) (hN : sub.tot ≤ N) (hsh : ShAt w ea) (hnd : NdIn w op ln s k n t v va vc sub sa sc) :
    Calls Tryz.prog 36 #[.agg #[.int .i64 op, .int .i64 ln, .string s, .int .i64 k, .int .i64 n, .string t, .slice va v.len vc, .slice sa sub.len sc]] w
      fun e w' => e = .returned (.string (bs (nodeT op s k n t v (ntx sub)).cd)) ∧ Below w.heap.size w w' := by
  obtain ⟨wa, hwa⟩ : ∃ wa, wa = w.alloc (.cells #[.int .i64 op, .int .i64 ln, .string s, .int .i64 k, .int .i64 n, .string t, .slice va v.len vc, .slice sa sub.len sc] 33) := ⟨_, rfl⟩
  have hb : Below w.heap.size w wa := by rw [hwa]; exact (Below.refl _ _).alloc (Nat.le_refl _) _
  have hN1 : NdB wa w.heap.size (.int .i64 op) (.int .i64 ln) (.string s) (.int .i64 k) (.int .i64 n) (.string t) (.slice va v.len vc) (.slice sa sub.len sc) := by rw [hwa]; exact NdB.new _ _ _ _ _ _ _ _ _
  have v7 := hN1.c7
  have RC := Lib.hid (row_of ih sub sa sc ea wa hN hnd.tot (hsh.below hb) hnd.ex.2.2.2.2.2.1 hnd.hsc (hnd.below hb).hsub)
  have HB := Lib.hid hb
  have HWA := Lib.hid hwa
  have hcd : (nodeT op s k n t v (ntx sub)).cd = codesT (ntx sub) := rfl
  rw [hcd]
  rw [hwa] at v7
  clear hb hN1 hwa hsh hnd hcd
  by_cases h0 : sub.len = 0
  · have b0 : ((sub.len : Int) == 0) = true := by rw [h0]; rfl
    have HI := Lib.hid (show bs (codesT (ntx sub)) = ⟨#[97, 110, 121]⟩ by unfold codesT; rw [if_pos (by rw [ntx_len]; exact h0)]; rfl)
    clear h0
    go_enter Tryz.func36, Tryz.ntmps36
    go_wp2_with fail
    rw [← HWA.out]
    go_ret
    exact ⟨ret_str HI.out.symm, HB.out⟩
  · have b0 : ((sub.len : Int) == 0) = false := int_beq h0
    have HI := Lib.hid (show bs (codesT (ntx sub)) = bs (rowT (ntx sub)) by unfold codesT; rw [if_neg (by rw [ntx_len]; exact h0)])
    clear h0
    go_enter Tryz.func36, Tryz.ntmps36
    go_wp2_with fail
    rw [← HWA.out]
    refine RC.out.mono ?_
    rintro e w3 ⟨rfl, hb3⟩
    have HB3 := Lib.hid (HB.out.trans (below_le' hb3 HB.out.size))
    clear hb3
    go_wp2_with fail
    go_ret
    exact ⟨ret_str HI.out.symm, HB3.out⟩
end Go.Proofs.YtgmnbdfbbcpciaaGreatDoor
namespace Go.Proofs.YtgmnbdfbbcpciaaGreatDoor
open Go.RowKit Go.Lib
set_option linter.unusedVariables false

/-- What a call leaves that answers a text and makes just memory. -/
def SayT (w : World) (l : List UInt8) (e : Ending) (w' : World) : Prop := e = .returned (.string (bs l)) ∧ Below w.heap.size w w'
/-- A node that lies at a place, and what the calls say of it. -/
def Kid (ea : Nat → Addr) (w : World) (b o : Nat) (x : NTx) (a0 a1 a2 a3 a4 a5 a6 a7 : Value) : Prop :=
  w.cell? ⟨b, o, none⟩ = some a0 ∧ w.cell? ⟨b, o + 1, none⟩ = some a1 ∧ w.cell? ⟨b, o + 2, none⟩ = some a2 ∧ w.cell? ⟨b, o + 3, none⟩ = some a3 ∧ w.cell? ⟨b, o + 4, none⟩ = some a4 ∧ w.cell? ⟨b, o + 5, none⟩ = some a5 ∧ w.cell? ⟨b, o + 6, none⟩ = some a6 ∧ w.cell? ⟨b, o + 7, none⟩ = some a7 ∧
  (x.b.length ≤ 500000000 ∧ x.nm.length ≤ 500000000 ∧ x.cd.length ≤ 500000000 ∧ (inT x).length ≤ 500000000) ∧
  (∀ W, Below w.heap.size w W → Calls Tryz.prog 33 #[.agg #[a0, a1, a2, a3, a4, a5, a6, a7]] W (SayT W x.b)) ∧
  (∀ W, Below w.heap.size w W → Calls Tryz.prog 49 #[.agg #[a0, a1, a2, a3, a4, a5, a6, a7]] W (SayT W (inT x))) ∧
  (∀ W, Below w.heap.size w W → Calls Tryz.prog 50 #[.agg #[a0, a1, a2, a3, a4, a5, a6, a7]] W (SayT W x.nm)) ∧
  (∀ W, Below w.heap.size w W → Calls Tryz.prog 36 #[.agg #[a0, a1, a2, a3, a4, a5, a6, a7]] W (SayT W x.cd))

theorem ntx_at {l : NL} {i : Nat} {op ln : Int} {s : ByteArray} {k n : Int} {t : ByteArray} {v : VL} {sub : NL} (hd : l.drop i = .cons op ln s k n t v sub (l.drop (i + 1))) : (ntx l).getD i default = nodeT op s k n t v (ntx sub) := by
  have key : ∀ (i : Nat) (l : NL), (ntx l).drop i = ntx (l.drop i) := by
    intro i
    induction i with
    | zero => intro l; rw [NL.drop]; rfl
    | succ i ih =>
      intro l
      cases l with
      | nil => simp [ntx, NL.drop]
      | cons op ln s k n t v sub r => rw [ntx, List.drop_succ_cons, NL.drop]; exact ih r
  have h := key i l
  rw [hd, ntx] at h
  have h2 : (ntx l)[i]? = ((ntx l).drop i)[0]? := by rw [List.getElem?_drop]; rfl
  rw [List.getD_eq_getElem?_getD, h2, h]; rfl
theorem ntx_drop (l : NL) (i : Nat) : (ntx l).drop i = ntx (l.drop i) := by
  induction i generalizing l with
  | zero => rw [NL.drop]; rfl
  | succ i ih =>
    cases l with
    | nil => simp [ntx, NL.drop]
    | cons op ln s k n t v sub r => rw [ntx, List.drop_succ_cons, NL.drop]; exact ih r

theorem kid_of {N : Nat} (ih : ∀ N', N' < N → BareC N') {ea : Nat → Addr} {w : World} {op ln : Int} {s : ByteArray} {k n : Int} {t : ByteArray} {v : VL} {va : Option Addr} {vc : Nat} {sub : NL} {sa : Option Addr} {sc : Nat} (hN : sub.tot < N) (hsh : ShAt w ea) (hnd : NdIn w op ln s k n t v va vc sub sa sc) (i : Nat) (hi : i < sub.len) {b o : Nat} (hA : sa = some ⟨b, o, none⟩) :
    ∃ a0 a1 a2 a3 a4 a5 a6 a7, b < w.heap.size ∧ Kid ea w b (o + i * 8) ((ntx sub).getD i default) a0 a1 a2 a3 a4 a5 a6 a7 := by
  obtain ⟨b', o', op', ln', s', k', n', t', v', sub', va', vc', sa', sc', hA', hSb, hd, c0, c1, c2, c3, c4, c5, c6, hvc', hv', c7, hsc', hs'⟩ := hnd.hsub.nth hi
  rw [hA] at hA'
  injection hA' with hA'
  injection hA' with e1 e2
  subst e1
  subst e2
  have htd := NL.tot_drop i sub
  have hed := ExN.drop i sub hnd.ex.2.2.2.2.2.1
  rw [hd] at htd hed
  simp only [NL.tot] at htd
  have hed1 : ExN (node1 op' ln' s' k' n' t' v' sub') := by
    obtain ⟨a1, a2, a3, a4, a5, a6, -⟩ := hed
    exact ⟨a1, a2, a3, a4, a5, a6, trivial⟩
  have h4 := hnd.tot
  have hin : NdIn w op' ln' s' k' n' t' v' va' vc' sub' sa' sc' := ⟨hed1, by omega, hvc', hsc', hv', hs'⟩
  have hb := ih (sub'.tot + 1) (by omega)
  have hlen := ex_len hed1 (by omega)
  refine ⟨_, _, _, _, _, _, _, _, hSb, c0, c1, c2, c3, c4, c5, c6, c7, ?_, fun W hW => ?_, fun W hW => ?_, fun W hW => ?_, fun W hW => ?_⟩
  · rw [ntx_at hd]; exact hlen
  · rw [ntx_at hd]; exact hb op' ln' s' k' n' t' v' va' vc' sub' sa' sc' ea W (by omega) (hsh.below hW) (hin.below hW)
  · rw [ntx_at hd]; exact in_of hb op' ln' s' k' n' t' v' va' vc' sub' sa' sc' ea W (by omega) (hsh.below hW) (hin.below hW)
  · rw [ntx_at hd]; exact name_of hb op' ln' s' k' n' t' v' va' vc' sub' sa' sc' ea W (by omega) (hsh.below hW) (hin.below hW)
  · rw [ntx_at hd]; exact codes_of hb op' ln' s' k' n' t' v' va' vc' sub' sa' sc' ea W (by omega) (hsh.below hW) (hin.below hW)
theorem sa_of {w : World} {op ln : Int} {s : ByteArray} {k n : Int} {t : ByteArray} {v : VL} {va : Option Addr} {vc : Nat} {sub : NL} {sa : Option Addr} {sc : Nat} (hnd : NdIn w op ln s k n t v va vc sub sa sc) (h : 0 < sub.len) : ∃ b o, sa = some ⟨b, o, none⟩ := by
  obtain ⟨b, o, _, _, _, _, _, _, _, _, _, _, _, _, hA, _⟩ := hnd.hsub.nth h
  exact ⟨b, o, hA⟩
theorem cellB {w W : World} (h : Below w.heap.size w W) {b o : Nat} {a : Value} (hc : w.cell? ⟨b, o, none⟩ = some a) (hb : b < w.heap.size) : W.cell? ⟨b, o, none⟩ = some a := (h.cell (p := ⟨b, o, none⟩) hb).trans hc
end Go.Proofs.YtgmnbdfbbcpciaaGreatDoor
namespace Go.Proofs.YtgmnbdfbbcpciaaGreatDoor
open Go.RowKit Go.Lib
set_option linter.unusedVariables false

set_option maxRecDepth 100000 in
set_option maxHeartbeats 4000000 in
theorem bare_4 {N : Nat} (ih : ∀ N', N' < N → BareC N') (ln : Int) (s : ByteArray) (k n : Int) (t : ByteArray) (v : VL) (va : Option Addr) (vc : Nat) (sub : NL) (sa : Option Addr) (sc : Nat) (ea : Nat → Addr) (w : World) (hN : sub.tot < N) (hsh : ShAt w ea) (hnd : NdIn w 4 ln s k n t v va vc sub sa sc) (hm : sub.len = 1) :
    Calls Tryz.prog 33 #[.agg #[.int .i64 4, .int .i64 ln, .string s, .int .i64 k, .int .i64 n, .string t, .slice va v.len vc, .slice sa sub.len sc]] w (SayT w (nodeT 4 s k n t v (ntx sub)).b) := by
  rw [hm]
  obtain ⟨wa, hwa⟩ : ∃ wa, wa = w.alloc (.cells #[.int .i64 4, .int .i64 ln, .string s, .int .i64 k, .int .i64 n, .string t, .slice va v.len vc, .slice sa 1 sc] 33) := ⟨_, rfl⟩
  have hb : Below w.heap.size w wa := by rw [hwa]; exact (Below.refl _ _).alloc (Nat.le_refl _) _
  have hN1 : NdB wa w.heap.size (.int .i64 4) (.int .i64 ln) (.string s) (.int .i64 k) (.int .i64 n) (.string t) (.slice va v.len vc) (.slice sa 1 sc) := by rw [hwa]; exact NdB.new _ _ _ _ _ _ _ _ _
  have v0 := hN1.c0; have v7 := hN1.c7
  have u0 := v0
  have hwz : w.heap.size < wa.heap.size := by rw [hwa]; simp
  rw [hwa] at v0 v7
  obtain ⟨b, o, hA⟩ := sa_of hnd (by omega)
  obtain ⟨k0a0, k0a1, k0a2, k0a3, k0a4, k0a5, k0a6, k0a7, hbl0, K0⟩ := kid_of ih hN (hsh.below hb) (hnd.below hb) 0 (by omega) hA
  obtain ⟨x0, hx0⟩ : ∃ x, x = (ntx sub).getD 0 default := ⟨_, rfl⟩
  rw [← hx0] at K0
  rw [show o + 0 * 8 = o from by omega] at K0
  have HT := Lib.hid (show bs (nodeT 4 s k n t v (ntx sub)).b = ⟨#[33]⟩ ++ bs (inT x0) by
    have e : (nodeT 4 s k n t v (ntx sub)).b = 33 :: (inT x0) := by rw [hx0]; rfl
    rw [e]; apply ByteArray.ext; simp [bs])
  rw [show SayT w (nodeT 4 s k n t v (ntx sub)).b = fun e w' => e = .returned (.string (bs (nodeT 4 s k n t v (ntx sub)).b)) ∧ Below w.heap.size w w' from rfl, HT.out]
  obtain ⟨c00, c01, c02, c03, c04, c05, c06, c07, ⟨z0a, z0b, z0c, z0d⟩, BC0, IC0, NC0, CC0⟩ := K0
  rw [← bs_size] at z0a
  rw [← bs_size] at z0b
  rw [← bs_size] at z0c
  rw [← bs_size] at z0d
  have C0 := Lib.hid (IC0 wa (Below.refl _ _))
  have HB := Lib.hid hb
  have HWA := Lib.hid hwa
  subst hA
  have d0 := c00
  have d1 := c01
  have d2 := c02
  have d3 := c03
  have d4 := c04
  have d5 := c05
  have d6 := c06
  have d7 := c07
  rw [hwa] at d0 d1 d2 d3 d4 d5 d6 d7
  clear hb hN1 hwa hsh hnd hN ih HT BC0 IC0 NC0 CC0 hx0 u0
  have i0 : 0 < sub.len := by omega
  clear hm
  go_enter Tryz.func33, Tryz.ntmps33
  go_wp2_with fail
  rw [← HWA.out]
  refine C0.out.mono ?_
  rintro e w10 ⟨rfl, hb10⟩
  have HB10 := Lib.hid (HB.out.trans (below_le' hb10 HB.out.size))
  clear hb10
  go_wp2_with fail
  go_ret
  exact ⟨rfl, HB10.out⟩

set_option maxRecDepth 100000 in
set_option maxHeartbeats 4000000 in
theorem bare_26 {N : Nat} (ih : ∀ N', N' < N → BareC N') (ln : Int) (s : ByteArray) (k n : Int) (t : ByteArray) (v : VL) (va : Option Addr) (vc : Nat) (sub : NL) (sa : Option Addr) (sc : Nat) (ea : Nat → Addr) (w : World) (hN : sub.tot < N) (hsh : ShAt w ea) (hnd : NdIn w 26 ln s k n t v va vc sub sa sc) (hm : sub.len = 1) :
    Calls Tryz.prog 33 #[.agg #[.int .i64 26, .int .i64 ln, .string s, .int .i64 k, .int .i64 n, .string t, .slice va v.len vc, .slice sa sub.len sc]] w (SayT w (nodeT 26 s k n t v (ntx sub)).b) := by
  rw [hm]
  obtain ⟨wa, hwa⟩ : ∃ wa, wa = w.alloc (.cells #[.int .i64 26, .int .i64 ln, .string s, .int .i64 k, .int .i64 n, .string t, .slice va v.len vc, .slice sa 1 sc] 33) := ⟨_, rfl⟩
  have hb : Below w.heap.size w wa := by rw [hwa]; exact (Below.refl _ _).alloc (Nat.le_refl _) _
  have hN1 : NdB wa w.heap.size (.int .i64 26) (.int .i64 ln) (.string s) (.int .i64 k) (.int .i64 n) (.string t) (.slice va v.len vc) (.slice sa 1 sc) := by rw [hwa]; exact NdB.new _ _ _ _ _ _ _ _ _
  have v0 := hN1.c0; have v7 := hN1.c7
  have u0 := v0
  have hwz : w.heap.size < wa.heap.size := by rw [hwa]; simp
  rw [hwa] at v0 v7
  obtain ⟨b, o, hA⟩ := sa_of hnd (by omega)
  obtain ⟨k0a0, k0a1, k0a2, k0a3, k0a4, k0a5, k0a6, k0a7, hbl0, K0⟩ := kid_of ih hN (hsh.below hb) (hnd.below hb) 0 (by omega) hA
  obtain ⟨x0, hx0⟩ : ∃ x, x = (ntx sub).getD 0 default := ⟨_, rfl⟩
  rw [← hx0] at K0
  rw [show o + 0 * 8 = o from by omega] at K0
  have HT := Lib.hid (show bs (nodeT 26 s k n t v (ntx sub)).b = ⟨#[64]⟩ ++ bs x0.b by
    have e : (nodeT 26 s k n t v (ntx sub)).b = 64 :: x0.b := by rw [hx0]; rfl
    rw [e]; apply ByteArray.ext; simp [bs])
  rw [show SayT w (nodeT 26 s k n t v (ntx sub)).b = fun e w' => e = .returned (.string (bs (nodeT 26 s k n t v (ntx sub)).b)) ∧ Below w.heap.size w w' from rfl, HT.out]
  obtain ⟨c00, c01, c02, c03, c04, c05, c06, c07, ⟨z0a, z0b, z0c, z0d⟩, BC0, IC0, NC0, CC0⟩ := K0
  rw [← bs_size] at z0a
  rw [← bs_size] at z0b
  rw [← bs_size] at z0c
  rw [← bs_size] at z0d
  have C0 := Lib.hid (BC0 wa (Below.refl _ _))
  have HB := Lib.hid hb
  have HWA := Lib.hid hwa
  subst hA
  have d0 := c00
  have d1 := c01
  have d2 := c02
  have d3 := c03
  have d4 := c04
  have d5 := c05
  have d6 := c06
  have d7 := c07
  rw [hwa] at d0 d1 d2 d3 d4 d5 d6 d7
  clear hb hN1 hwa hsh hnd hN ih HT BC0 IC0 NC0 CC0 hx0 u0
  have i0 : 0 < sub.len := by omega
  clear hm
  go_enter Tryz.func33, Tryz.ntmps33
  go_wp2_with fail
  rw [← HWA.out]
  refine C0.out.mono ?_
  rintro e w10 ⟨rfl, hb10⟩
  have HB10 := Lib.hid (HB.out.trans (below_le' hb10 HB.out.size))
  clear hb10
  go_wp2_with fail
  go_ret
  exact ⟨rfl, HB10.out⟩

set_option maxRecDepth 100000 in
set_option maxHeartbeats 4000000 in
theorem bare_27 {N : Nat} (ih : ∀ N', N' < N → BareC N') (ln : Int) (s : ByteArray) (k n : Int) (t : ByteArray) (v : VL) (va : Option Addr) (vc : Nat) (sub : NL) (sa : Option Addr) (sc : Nat) (ea : Nat → Addr) (w : World) (hN : sub.tot < N) (hsh : ShAt w ea) (hnd : NdIn w 27 ln s k n t v va vc sub sa sc) (hm : sub.len = 2) :
    Calls Tryz.prog 33 #[.agg #[.int .i64 27, .int .i64 ln, .string s, .int .i64 k, .int .i64 n, .string t, .slice va v.len vc, .slice sa sub.len sc]] w (SayT w (nodeT 27 s k n t v (ntx sub)).b) := by
  rw [hm]
  obtain ⟨wa, hwa⟩ : ∃ wa, wa = w.alloc (.cells #[.int .i64 27, .int .i64 ln, .string s, .int .i64 k, .int .i64 n, .string t, .slice va v.len vc, .slice sa 2 sc] 33) := ⟨_, rfl⟩
  have hb : Below w.heap.size w wa := by rw [hwa]; exact (Below.refl _ _).alloc (Nat.le_refl _) _
  have hN1 : NdB wa w.heap.size (.int .i64 27) (.int .i64 ln) (.string s) (.int .i64 k) (.int .i64 n) (.string t) (.slice va v.len vc) (.slice sa 2 sc) := by rw [hwa]; exact NdB.new _ _ _ _ _ _ _ _ _
  have v0 := hN1.c0; have v7 := hN1.c7
  have u0 := v0
  have hwz : w.heap.size < wa.heap.size := by rw [hwa]; simp
  rw [hwa] at v0 v7
  obtain ⟨b, o, hA⟩ := sa_of hnd (by omega)
  obtain ⟨k0a0, k0a1, k0a2, k0a3, k0a4, k0a5, k0a6, k0a7, hbl0, K0⟩ := kid_of ih hN (hsh.below hb) (hnd.below hb) 0 (by omega) hA
  obtain ⟨k1a0, k1a1, k1a2, k1a3, k1a4, k1a5, k1a6, k1a7, hbl1, K1⟩ := kid_of ih hN (hsh.below hb) (hnd.below hb) 1 (by omega) hA
  obtain ⟨x0, hx0⟩ : ∃ x, x = (ntx sub).getD 0 default := ⟨_, rfl⟩
  rw [← hx0] at K0
  rw [show o + 0 * 8 = o from by omega] at K0
  obtain ⟨x1, hx1⟩ : ∃ x, x = (ntx sub).getD 1 default := ⟨_, rfl⟩
  rw [← hx1] at K1
  rw [show o + 1 * 8 = o + 8 from rfl] at K1
  have HT := Lib.hid (show bs (nodeT 27 s k n t v (ntx sub)).b = bs x0.b ++ ⟨#[32, 61, 32]⟩ ++ bs x1.b by
    have e : (nodeT 27 s k n t v (ntx sub)).b = x0.b ++ [32, 61, 32] ++ x1.b := by rw [hx0, hx1]; rfl
    rw [e]; apply ByteArray.ext; simp [bs])
  rw [show SayT w (nodeT 27 s k n t v (ntx sub)).b = fun e w' => e = .returned (.string (bs (nodeT 27 s k n t v (ntx sub)).b)) ∧ Below w.heap.size w w' from rfl, HT.out]
  obtain ⟨c00, c01, c02, c03, c04, c05, c06, c07, ⟨z0a, z0b, z0c, z0d⟩, BC0, IC0, NC0, CC0⟩ := K0
  rw [← bs_size] at z0a
  rw [← bs_size] at z0b
  rw [← bs_size] at z0c
  rw [← bs_size] at z0d
  obtain ⟨c10, c11, c12, c13, c14, c15, c16, c17, ⟨z1a, z1b, z1c, z1d⟩, BC1, IC1, NC1, CC1⟩ := K1
  rw [← bs_size] at z1a
  rw [← bs_size] at z1b
  rw [← bs_size] at z1c
  rw [← bs_size] at z1d
  have s1 : ¬ (9223372036854775807 < (bs x0.b).size + 3) := by omega
  have s2 : ¬ (9223372036854775807 < (bs x0.b).size + 3 + (bs x1.b).size) := by omega
  obtain ⟨S, hS⟩ : ∃ S : World → Prop, S = fun W => W.cell? ⟨b, o, none⟩ = some k0a0 ∧ W.cell? ⟨b, o + 1, none⟩ = some k0a1 ∧ W.cell? ⟨b, o + 2, none⟩ = some k0a2 ∧ W.cell? ⟨b, o + 3, none⟩ = some k0a3 ∧ W.cell? ⟨b, o + 4, none⟩ = some k0a4 ∧ W.cell? ⟨b, o + 5, none⟩ = some k0a5 ∧ W.cell? ⟨b, o + 6, none⟩ = some k0a6 ∧ W.cell? ⟨b, o + 7, none⟩ = some k0a7 ∧ W.cell? ⟨b, o + 8, none⟩ = some k1a0 ∧ W.cell? ⟨b, o + 8 + 1, none⟩ = some k1a1 ∧ W.cell? ⟨b, o + 8 + 2, none⟩ = some k1a2 ∧ W.cell? ⟨b, o + 8 + 3, none⟩ = some k1a3 ∧ W.cell? ⟨b, o + 8 + 4, none⟩ = some k1a4 ∧ W.cell? ⟨b, o + 8 + 5, none⟩ = some k1a5 ∧ W.cell? ⟨b, o + 8 + 6, none⟩ = some k1a6 ∧ W.cell? ⟨b, o + 8 + 7, none⟩ = some k1a7 ∧ Below wa.heap.size wa W := ⟨_, rfl⟩
  have KS : ∀ W, Below wa.heap.size wa W → S W := fun W h => by rw [hS]; exact ⟨cellB h c00 hbl0, cellB h c01 hbl0, cellB h c02 hbl0, cellB h c03 hbl0, cellB h c04 hbl0, cellB h c05 hbl0, cellB h c06 hbl0, cellB h c07 hbl0, cellB h c10 hbl1, cellB h c11 hbl1, cellB h c12 hbl1, cellB h c13 hbl1, cellB h c14 hbl1, cellB h c15 hbl1, cellB h c16 hbl1, cellB h c17 hbl1, h⟩
  have BS : ∀ W, S W → Below wa.heap.size wa W := fun W h => by rw [hS] at h; exact h.2.2.2.2.2.2.2.2.2.2.2.2.2.2.2.2
  have C0 := Lib.hid (fun W (h : S W) => (BC0 W (BS W h)).mono (R' := fun e W' => e = .returned (.string (bs x0.b)) ∧ S W') fun e W' ⟨h1, h2⟩ => ⟨h1, KS _ ((BS W h).trans (below_le' h2 (BS W h).size))⟩)
  have C1 := Lib.hid (fun W (h : S W) => (BC1 W (BS W h)).mono (R' := fun e W' => e = .returned (.string (bs x1.b)) ∧ S W') fun e W' ⟨h1, h2⟩ => ⟨h1, KS _ ((BS W h).trans (below_le' h2 (BS W h).size))⟩)
  have K0 : S wa.drew := KS _ ((Below.refl _ _).drew)
  have KA : S wa := KS _ (Below.refl _ _)
  have BSS := Lib.hid BS
  have HB := Lib.hid hb
  have HWA := Lib.hid hwa
  subst hA
  have i0 : 0 < sub.len := by omega
  have i1 : 1 < sub.len := by omega
  clear hm
  clear KS BS hb hN1 hwa hsh hnd hN ih HT BC0 IC0 NC0 CC0 BC1 IC1 NC1 CC1 hx0 hx1 u0 
  subst hS
  go_enter Tryz.func33, Tryz.ntmps33
  go_wp2_with fail
  rw [← HWA.out]
  go_region_held3 (fun W => W.cell? ⟨b, o, none⟩ = some k0a0 ∧ W.cell? ⟨b, o + 1, none⟩ = some k0a1 ∧ W.cell? ⟨b, o + 2, none⟩ = some k0a2 ∧ W.cell? ⟨b, o + 3, none⟩ = some k0a3 ∧ W.cell? ⟨b, o + 4, none⟩ = some k0a4 ∧ W.cell? ⟨b, o + 5, none⟩ = some k0a5 ∧ W.cell? ⟨b, o + 6, none⟩ = some k0a6 ∧ W.cell? ⟨b, o + 7, none⟩ = some k0a7 ∧ W.cell? ⟨b, o + 8, none⟩ = some k1a0 ∧ W.cell? ⟨b, o + 8 + 1, none⟩ = some k1a1 ∧ W.cell? ⟨b, o + 8 + 2, none⟩ = some k1a2 ∧ W.cell? ⟨b, o + 8 + 3, none⟩ = some k1a3 ∧ W.cell? ⟨b, o + 8 + 4, none⟩ = some k1a4 ∧ W.cell? ⟨b, o + 8 + 5, none⟩ = some k1a5 ∧ W.cell? ⟨b, o + 8 + 6, none⟩ = some k1a6 ∧ W.cell? ⟨b, o + 8 + 7, none⟩ = some k1a7 ∧ Below wa.heap.size wa W)
    (first | (with_reducible assumption) | (with_reducible exact K0) | (with_reducible exact KA))
    (first
      | (go_at_call 33; with_reducible refine (C0.out _ ?_).mono ?_; (with_reducible assumption); rintro e w10 ⟨rfl, hs10⟩)
      | (go_at_call 33; with_reducible refine (C1.out _ ?_).mono ?_; (with_reducible assumption); rintro e w11 ⟨rfl, hs11⟩))
  all_goals
    go_wp2_with fail
    go_ret
    exact ⟨rfl, HB.out.trans (below_le' (BSS.out _ (by with_reducible assumption)) HB.out.size)⟩
end Go.Proofs.YtgmnbdfbbcpciaaGreatDoor
namespace Go.Proofs.YtgmnbdfbbcpciaaGreatDoor
open Go.RowKit Go.Lib
set_option linter.unusedVariables false

set_option maxRecDepth 100000 in
set_option maxHeartbeats 4000000 in
theorem bare_19 {N : Nat} (ih : ∀ N', N' < N → BareC N') (ln : Int) (s : ByteArray) (k n : Int) (t : ByteArray) (v : VL) (va : Option Addr) (vc : Nat) (sub : NL) (sa : Option Addr) (sc : Nat) (ea : Nat → Addr) (w : World) (hN : sub.tot < N) (hsh : ShAt w ea) (hnd : NdIn w 19 ln s k n t v va vc sub sa sc) (hm : sub.len = 3) :
    Calls Tryz.prog 33 #[.agg #[.int .i64 19, .int .i64 ln, .string s, .int .i64 k, .int .i64 n, .string t, .slice va v.len vc, .slice sa sub.len sc]] w (SayT w (nodeT 19 s k n t v (ntx sub)).b) := by
  rw [hm]
  obtain ⟨wa, hwa⟩ : ∃ wa, wa = w.alloc (.cells #[.int .i64 19, .int .i64 ln, .string s, .int .i64 k, .int .i64 n, .string t, .slice va v.len vc, .slice sa 3 sc] 33) := ⟨_, rfl⟩
  have hb : Below w.heap.size w wa := by rw [hwa]; exact (Below.refl _ _).alloc (Nat.le_refl _) _
  have hN1 : NdB wa w.heap.size (.int .i64 19) (.int .i64 ln) (.string s) (.int .i64 k) (.int .i64 n) (.string t) (.slice va v.len vc) (.slice sa 3 sc) := by rw [hwa]; exact NdB.new _ _ _ _ _ _ _ _ _
  have v0 := hN1.c0; have v7 := hN1.c7
  have u0 := v0
  have hwz : w.heap.size < wa.heap.size := by rw [hwa]; simp
  rw [hwa] at v0 v7
  obtain ⟨b, o, hA⟩ := sa_of hnd (by omega)
  obtain ⟨k0a0, k0a1, k0a2, k0a3, k0a4, k0a5, k0a6, k0a7, hbl0, K0⟩ := kid_of ih hN (hsh.below hb) (hnd.below hb) 0 (by omega) hA
  obtain ⟨k1a0, k1a1, k1a2, k1a3, k1a4, k1a5, k1a6, k1a7, hbl1, K1⟩ := kid_of ih hN (hsh.below hb) (hnd.below hb) 1 (by omega) hA
  obtain ⟨k2a0, k2a1, k2a2, k2a3, k2a4, k2a5, k2a6, k2a7, hbl2, K2⟩ := kid_of ih hN (hsh.below hb) (hnd.below hb) 2 (by omega) hA
  obtain ⟨x0, hx0⟩ : ∃ x, x = (ntx sub).getD 0 default := ⟨_, rfl⟩
  rw [← hx0] at K0
  rw [show o + 0 * 8 = o from by omega] at K0
  obtain ⟨x1, hx1⟩ : ∃ x, x = (ntx sub).getD 1 default := ⟨_, rfl⟩
  rw [← hx1] at K1
  rw [show o + 1 * 8 = o + 8 from rfl] at K1
  obtain ⟨x2, hx2⟩ : ∃ x, x = (ntx sub).getD 2 default := ⟨_, rfl⟩
  rw [← hx2] at K2
  rw [show o + 2 * 8 = o + 16 from rfl] at K2
  have HT := Lib.hid (show bs (nodeT 19 s k n t v (ntx sub)).b = bs (inT x0) ++ ⟨#[32, 63, 32]⟩ ++ bs (inT x1) ++ ⟨#[32, 124, 32]⟩ ++ bs (inT x2) by
    have e : (nodeT 19 s k n t v (ntx sub)).b = (inT x0) ++ [32, 63, 32] ++ (inT x1) ++ [32, 124, 32] ++ (inT x2) := by rw [hx0, hx1, hx2]; rfl
    rw [e]; apply ByteArray.ext; simp [bs])
  rw [show SayT w (nodeT 19 s k n t v (ntx sub)).b = fun e w' => e = .returned (.string (bs (nodeT 19 s k n t v (ntx sub)).b)) ∧ Below w.heap.size w w' from rfl, HT.out]
  obtain ⟨c00, c01, c02, c03, c04, c05, c06, c07, ⟨z0a, z0b, z0c, z0d⟩, BC0, IC0, NC0, CC0⟩ := K0
  rw [← bs_size] at z0a
  rw [← bs_size] at z0b
  rw [← bs_size] at z0c
  rw [← bs_size] at z0d
  obtain ⟨c10, c11, c12, c13, c14, c15, c16, c17, ⟨z1a, z1b, z1c, z1d⟩, BC1, IC1, NC1, CC1⟩ := K1
  rw [← bs_size] at z1a
  rw [← bs_size] at z1b
  rw [← bs_size] at z1c
  rw [← bs_size] at z1d
  obtain ⟨c20, c21, c22, c23, c24, c25, c26, c27, ⟨z2a, z2b, z2c, z2d⟩, BC2, IC2, NC2, CC2⟩ := K2
  rw [← bs_size] at z2a
  rw [← bs_size] at z2b
  rw [← bs_size] at z2c
  rw [← bs_size] at z2d
  have s1 : ¬ (9223372036854775807 < (bs (inT x0)).size + 3) := by omega
  have s2 : ¬ (9223372036854775807 < (bs (inT x0)).size + 3 + (bs (inT x1)).size) := by omega
  have s3 : ¬ (9223372036854775807 < (bs (inT x0)).size + 3 + (bs (inT x1)).size + 3) := by omega
  have s4 : ¬ (9223372036854775807 < (bs (inT x0)).size + 3 + (bs (inT x1)).size + 3 + (bs (inT x2)).size) := by omega
  obtain ⟨S, hS⟩ : ∃ S : World → Prop, S = fun W => W.cell? ⟨b, o, none⟩ = some k0a0 ∧ W.cell? ⟨b, o + 1, none⟩ = some k0a1 ∧ W.cell? ⟨b, o + 2, none⟩ = some k0a2 ∧ W.cell? ⟨b, o + 3, none⟩ = some k0a3 ∧ W.cell? ⟨b, o + 4, none⟩ = some k0a4 ∧ W.cell? ⟨b, o + 5, none⟩ = some k0a5 ∧ W.cell? ⟨b, o + 6, none⟩ = some k0a6 ∧ W.cell? ⟨b, o + 7, none⟩ = some k0a7 ∧ W.cell? ⟨b, o + 8, none⟩ = some k1a0 ∧ W.cell? ⟨b, o + 8 + 1, none⟩ = some k1a1 ∧ W.cell? ⟨b, o + 8 + 2, none⟩ = some k1a2 ∧ W.cell? ⟨b, o + 8 + 3, none⟩ = some k1a3 ∧ W.cell? ⟨b, o + 8 + 4, none⟩ = some k1a4 ∧ W.cell? ⟨b, o + 8 + 5, none⟩ = some k1a5 ∧ W.cell? ⟨b, o + 8 + 6, none⟩ = some k1a6 ∧ W.cell? ⟨b, o + 8 + 7, none⟩ = some k1a7 ∧ W.cell? ⟨b, o + 16, none⟩ = some k2a0 ∧ W.cell? ⟨b, o + 16 + 1, none⟩ = some k2a1 ∧ W.cell? ⟨b, o + 16 + 2, none⟩ = some k2a2 ∧ W.cell? ⟨b, o + 16 + 3, none⟩ = some k2a3 ∧ W.cell? ⟨b, o + 16 + 4, none⟩ = some k2a4 ∧ W.cell? ⟨b, o + 16 + 5, none⟩ = some k2a5 ∧ W.cell? ⟨b, o + 16 + 6, none⟩ = some k2a6 ∧ W.cell? ⟨b, o + 16 + 7, none⟩ = some k2a7 ∧ Below wa.heap.size wa W := ⟨_, rfl⟩
  have KS : ∀ W, Below wa.heap.size wa W → S W := fun W h => by rw [hS]; exact ⟨cellB h c00 hbl0, cellB h c01 hbl0, cellB h c02 hbl0, cellB h c03 hbl0, cellB h c04 hbl0, cellB h c05 hbl0, cellB h c06 hbl0, cellB h c07 hbl0, cellB h c10 hbl1, cellB h c11 hbl1, cellB h c12 hbl1, cellB h c13 hbl1, cellB h c14 hbl1, cellB h c15 hbl1, cellB h c16 hbl1, cellB h c17 hbl1, cellB h c20 hbl2, cellB h c21 hbl2, cellB h c22 hbl2, cellB h c23 hbl2, cellB h c24 hbl2, cellB h c25 hbl2, cellB h c26 hbl2, cellB h c27 hbl2, h⟩
  have BS : ∀ W, S W → Below wa.heap.size wa W := fun W h => by rw [hS] at h; exact h.2.2.2.2.2.2.2.2.2.2.2.2.2.2.2.2.2.2.2.2.2.2.2.2
  have C0 := Lib.hid (fun W (h : S W) => (IC0 W (BS W h)).mono (R' := fun e W' => e = .returned (.string (bs (inT x0))) ∧ S W') fun e W' ⟨h1, h2⟩ => ⟨h1, KS _ ((BS W h).trans (below_le' h2 (BS W h).size))⟩)
  have C1 := Lib.hid (fun W (h : S W) => (IC1 W (BS W h)).mono (R' := fun e W' => e = .returned (.string (bs (inT x1))) ∧ S W') fun e W' ⟨h1, h2⟩ => ⟨h1, KS _ ((BS W h).trans (below_le' h2 (BS W h).size))⟩)
  have C2 := Lib.hid (fun W (h : S W) => (IC2 W (BS W h)).mono (R' := fun e W' => e = .returned (.string (bs (inT x2))) ∧ S W') fun e W' ⟨h1, h2⟩ => ⟨h1, KS _ ((BS W h).trans (below_le' h2 (BS W h).size))⟩)
  have K0 : S wa.drew := KS _ ((Below.refl _ _).drew)
  have KA : S wa := KS _ (Below.refl _ _)
  have BSS := Lib.hid BS
  have HB := Lib.hid hb
  have HWA := Lib.hid hwa
  subst hA
  have i0 : 0 < sub.len := by omega
  have i1 : 1 < sub.len := by omega
  have i2 : 2 < sub.len := by omega
  clear hm
  clear KS BS hb hN1 hwa hsh hnd hN ih HT BC0 IC0 NC0 CC0 BC1 IC1 NC1 CC1 BC2 IC2 NC2 CC2 hx0 hx1 hx2 u0 
  subst hS
  go_enter Tryz.func33, Tryz.ntmps33
  go_wp2_with fail
  rw [← HWA.out]
  go_region_held3 (fun W => W.cell? ⟨b, o, none⟩ = some k0a0 ∧ W.cell? ⟨b, o + 1, none⟩ = some k0a1 ∧ W.cell? ⟨b, o + 2, none⟩ = some k0a2 ∧ W.cell? ⟨b, o + 3, none⟩ = some k0a3 ∧ W.cell? ⟨b, o + 4, none⟩ = some k0a4 ∧ W.cell? ⟨b, o + 5, none⟩ = some k0a5 ∧ W.cell? ⟨b, o + 6, none⟩ = some k0a6 ∧ W.cell? ⟨b, o + 7, none⟩ = some k0a7 ∧ W.cell? ⟨b, o + 8, none⟩ = some k1a0 ∧ W.cell? ⟨b, o + 8 + 1, none⟩ = some k1a1 ∧ W.cell? ⟨b, o + 8 + 2, none⟩ = some k1a2 ∧ W.cell? ⟨b, o + 8 + 3, none⟩ = some k1a3 ∧ W.cell? ⟨b, o + 8 + 4, none⟩ = some k1a4 ∧ W.cell? ⟨b, o + 8 + 5, none⟩ = some k1a5 ∧ W.cell? ⟨b, o + 8 + 6, none⟩ = some k1a6 ∧ W.cell? ⟨b, o + 8 + 7, none⟩ = some k1a7 ∧ W.cell? ⟨b, o + 16, none⟩ = some k2a0 ∧ W.cell? ⟨b, o + 16 + 1, none⟩ = some k2a1 ∧ W.cell? ⟨b, o + 16 + 2, none⟩ = some k2a2 ∧ W.cell? ⟨b, o + 16 + 3, none⟩ = some k2a3 ∧ W.cell? ⟨b, o + 16 + 4, none⟩ = some k2a4 ∧ W.cell? ⟨b, o + 16 + 5, none⟩ = some k2a5 ∧ W.cell? ⟨b, o + 16 + 6, none⟩ = some k2a6 ∧ W.cell? ⟨b, o + 16 + 7, none⟩ = some k2a7 ∧ Below wa.heap.size wa W)
    (first | (with_reducible assumption) | (with_reducible exact K0) | (with_reducible exact KA))
    (first
      | (go_at_call 49; with_reducible refine (C0.out _ ?_).mono ?_; (with_reducible assumption); rintro e w10 ⟨rfl, hs10⟩)
      | (go_at_call 49; with_reducible refine (C1.out _ ?_).mono ?_; (with_reducible assumption); rintro e w11 ⟨rfl, hs11⟩)
      | (go_at_call 49; with_reducible refine (C2.out _ ?_).mono ?_; (with_reducible assumption); rintro e w12 ⟨rfl, hs12⟩))
  all_goals
    go_wp2_with fail
    go_ret
    exact ⟨rfl, HB.out.trans (below_le' (BSS.out _ (by with_reducible assumption)) HB.out.size)⟩

set_option maxRecDepth 100000 in
set_option maxHeartbeats 4000000 in
theorem bare_20 {N : Nat} (ih : ∀ N', N' < N → BareC N') (ln : Int) (s : ByteArray) (k n : Int) (t : ByteArray) (v : VL) (va : Option Addr) (vc : Nat) (sub : NL) (sa : Option Addr) (sc : Nat) (ea : Nat → Addr) (w : World) (hN : sub.tot < N) (hsh : ShAt w ea) (hnd : NdIn w 20 ln s k n t v va vc sub sa sc) (hm : sub.len = 2) :
    Calls Tryz.prog 33 #[.agg #[.int .i64 20, .int .i64 ln, .string s, .int .i64 k, .int .i64 n, .string t, .slice va v.len vc, .slice sa sub.len sc]] w (SayT w (nodeT 20 s k n t v (ntx sub)).b) := by
  rw [hm]
  obtain ⟨wa, hwa⟩ : ∃ wa, wa = w.alloc (.cells #[.int .i64 20, .int .i64 ln, .string s, .int .i64 k, .int .i64 n, .string t, .slice va v.len vc, .slice sa 2 sc] 33) := ⟨_, rfl⟩
  have hb : Below w.heap.size w wa := by rw [hwa]; exact (Below.refl _ _).alloc (Nat.le_refl _) _
  have hN1 : NdB wa w.heap.size (.int .i64 20) (.int .i64 ln) (.string s) (.int .i64 k) (.int .i64 n) (.string t) (.slice va v.len vc) (.slice sa 2 sc) := by rw [hwa]; exact NdB.new _ _ _ _ _ _ _ _ _
  have v0 := hN1.c0; have v7 := hN1.c7
  have u0 := v0
  have hwz : w.heap.size < wa.heap.size := by rw [hwa]; simp
  rw [hwa] at v0 v7
  obtain ⟨b, o, hA⟩ := sa_of hnd (by omega)
  obtain ⟨k0a0, k0a1, k0a2, k0a3, k0a4, k0a5, k0a6, k0a7, hbl0, K0⟩ := kid_of ih hN (hsh.below hb) (hnd.below hb) 0 (by omega) hA
  obtain ⟨k1a0, k1a1, k1a2, k1a3, k1a4, k1a5, k1a6, k1a7, hbl1, K1⟩ := kid_of ih hN (hsh.below hb) (hnd.below hb) 1 (by omega) hA
  obtain ⟨x0, hx0⟩ : ∃ x, x = (ntx sub).getD 0 default := ⟨_, rfl⟩
  rw [← hx0] at K0
  rw [show o + 0 * 8 = o from by omega] at K0
  obtain ⟨x1, hx1⟩ : ∃ x, x = (ntx sub).getD 1 default := ⟨_, rfl⟩
  rw [← hx1] at K1
  rw [show o + 1 * 8 = o + 8 from rfl] at K1
  have HT := Lib.hid (show bs (nodeT 20 s k n t v (ntx sub)).b = bs (inT x0) ++ ⟨#[91]⟩ ++ bs x1.b ++ ⟨#[93]⟩ by
    have e : (nodeT 20 s k n t v (ntx sub)).b = (inT x0) ++ [91] ++ x1.b ++ [93] := by rw [hx0, hx1]; rfl
    rw [e]; apply ByteArray.ext; simp [bs])
  rw [show SayT w (nodeT 20 s k n t v (ntx sub)).b = fun e w' => e = .returned (.string (bs (nodeT 20 s k n t v (ntx sub)).b)) ∧ Below w.heap.size w w' from rfl, HT.out]
  obtain ⟨c00, c01, c02, c03, c04, c05, c06, c07, ⟨z0a, z0b, z0c, z0d⟩, BC0, IC0, NC0, CC0⟩ := K0
  rw [← bs_size] at z0a
  rw [← bs_size] at z0b
  rw [← bs_size] at z0c
  rw [← bs_size] at z0d
  obtain ⟨c10, c11, c12, c13, c14, c15, c16, c17, ⟨z1a, z1b, z1c, z1d⟩, BC1, IC1, NC1, CC1⟩ := K1
  rw [← bs_size] at z1a
  rw [← bs_size] at z1b
  rw [← bs_size] at z1c
  rw [← bs_size] at z1d
  have s1 : ¬ (9223372036854775807 < (bs (inT x0)).size + 1) := by omega
  have s2 : ¬ (9223372036854775807 < (bs (inT x0)).size + 1 + (bs x1.b).size) := by omega
  have s3 : ¬ (9223372036854775807 < (bs (inT x0)).size + 1 + (bs x1.b).size + 1) := by omega
  obtain ⟨S, hS⟩ : ∃ S : World → Prop, S = fun W => W.cell? ⟨b, o, none⟩ = some k0a0 ∧ W.cell? ⟨b, o + 1, none⟩ = some k0a1 ∧ W.cell? ⟨b, o + 2, none⟩ = some k0a2 ∧ W.cell? ⟨b, o + 3, none⟩ = some k0a3 ∧ W.cell? ⟨b, o + 4, none⟩ = some k0a4 ∧ W.cell? ⟨b, o + 5, none⟩ = some k0a5 ∧ W.cell? ⟨b, o + 6, none⟩ = some k0a6 ∧ W.cell? ⟨b, o + 7, none⟩ = some k0a7 ∧ W.cell? ⟨b, o + 8, none⟩ = some k1a0 ∧ W.cell? ⟨b, o + 8 + 1, none⟩ = some k1a1 ∧ W.cell? ⟨b, o + 8 + 2, none⟩ = some k1a2 ∧ W.cell? ⟨b, o + 8 + 3, none⟩ = some k1a3 ∧ W.cell? ⟨b, o + 8 + 4, none⟩ = some k1a4 ∧ W.cell? ⟨b, o + 8 + 5, none⟩ = some k1a5 ∧ W.cell? ⟨b, o + 8 + 6, none⟩ = some k1a6 ∧ W.cell? ⟨b, o + 8 + 7, none⟩ = some k1a7 ∧ Below wa.heap.size wa W := ⟨_, rfl⟩
  have KS : ∀ W, Below wa.heap.size wa W → S W := fun W h => by rw [hS]; exact ⟨cellB h c00 hbl0, cellB h c01 hbl0, cellB h c02 hbl0, cellB h c03 hbl0, cellB h c04 hbl0, cellB h c05 hbl0, cellB h c06 hbl0, cellB h c07 hbl0, cellB h c10 hbl1, cellB h c11 hbl1, cellB h c12 hbl1, cellB h c13 hbl1, cellB h c14 hbl1, cellB h c15 hbl1, cellB h c16 hbl1, cellB h c17 hbl1, h⟩
  have BS : ∀ W, S W → Below wa.heap.size wa W := fun W h => by rw [hS] at h; exact h.2.2.2.2.2.2.2.2.2.2.2.2.2.2.2.2
  have C0 := Lib.hid (fun W (h : S W) => (IC0 W (BS W h)).mono (R' := fun e W' => e = .returned (.string (bs (inT x0))) ∧ S W') fun e W' ⟨h1, h2⟩ => ⟨h1, KS _ ((BS W h).trans (below_le' h2 (BS W h).size))⟩)
  have C1 := Lib.hid (fun W (h : S W) => (BC1 W (BS W h)).mono (R' := fun e W' => e = .returned (.string (bs x1.b)) ∧ S W') fun e W' ⟨h1, h2⟩ => ⟨h1, KS _ ((BS W h).trans (below_le' h2 (BS W h).size))⟩)
  have K0 : S wa.drew := KS _ ((Below.refl _ _).drew)
  have KA : S wa := KS _ (Below.refl _ _)
  have BSS := Lib.hid BS
  have HB := Lib.hid hb
  have HWA := Lib.hid hwa
  subst hA
  have i0 : 0 < sub.len := by omega
  have i1 : 1 < sub.len := by omega
  clear hm
  clear KS BS hb hN1 hwa hsh hnd hN ih HT BC0 IC0 NC0 CC0 BC1 IC1 NC1 CC1 hx0 hx1 u0 
  subst hS
  go_enter Tryz.func33, Tryz.ntmps33
  go_wp2_with fail
  rw [← HWA.out]
  go_region_held3 (fun W => W.cell? ⟨b, o, none⟩ = some k0a0 ∧ W.cell? ⟨b, o + 1, none⟩ = some k0a1 ∧ W.cell? ⟨b, o + 2, none⟩ = some k0a2 ∧ W.cell? ⟨b, o + 3, none⟩ = some k0a3 ∧ W.cell? ⟨b, o + 4, none⟩ = some k0a4 ∧ W.cell? ⟨b, o + 5, none⟩ = some k0a5 ∧ W.cell? ⟨b, o + 6, none⟩ = some k0a6 ∧ W.cell? ⟨b, o + 7, none⟩ = some k0a7 ∧ W.cell? ⟨b, o + 8, none⟩ = some k1a0 ∧ W.cell? ⟨b, o + 8 + 1, none⟩ = some k1a1 ∧ W.cell? ⟨b, o + 8 + 2, none⟩ = some k1a2 ∧ W.cell? ⟨b, o + 8 + 3, none⟩ = some k1a3 ∧ W.cell? ⟨b, o + 8 + 4, none⟩ = some k1a4 ∧ W.cell? ⟨b, o + 8 + 5, none⟩ = some k1a5 ∧ W.cell? ⟨b, o + 8 + 6, none⟩ = some k1a6 ∧ W.cell? ⟨b, o + 8 + 7, none⟩ = some k1a7 ∧ Below wa.heap.size wa W)
    (first | (with_reducible assumption) | (with_reducible exact K0) | (with_reducible exact KA))
    (first
      | (go_at_call 49; with_reducible refine (C0.out _ ?_).mono ?_; (with_reducible assumption); rintro e w10 ⟨rfl, hs10⟩)
      | (go_at_call 33; with_reducible refine (C1.out _ ?_).mono ?_; (with_reducible assumption); rintro e w11 ⟨rfl, hs11⟩))
  all_goals
    go_wp2_with fail
    go_ret
    exact ⟨rfl, HB.out.trans (below_le' (BSS.out _ (by with_reducible assumption)) HB.out.size)⟩
end Go.Proofs.YtgmnbdfbbcpciaaGreatDoor
