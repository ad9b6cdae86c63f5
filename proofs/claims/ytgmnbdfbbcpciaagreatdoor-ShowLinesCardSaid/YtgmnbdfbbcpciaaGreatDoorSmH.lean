/- Contracts of the functions that the statement reaches, and the plain mathematics beneath: several texts joined. -/
import Derived.Test.YtgmnbdfbbcpciaaGreatDoorSmF
import Derived.Test.YtgmnbdfbbcpciaaGreatDoorSmE
import Derived.Test.YtgmnbdfbbcpciaaGreatDoorSmG
import Derived.Test.YtgmnbdfbbcpciaaGreatDoorSmA
import Derived.Test.YtgmnbdfbbcpciaaGreatDoorSmB
import Derived.Test.YtgmnbdfbbcpciaaGreatDoorSmC
import Derived.Test.YtgmnbdfbbcpciaaGreatDoorSmD
namespace Go.Proofs.YtgmnbdfbbcpciaaGreatDoor
open Go.Lib

/-- What is right of a list is right of each of its nodes. -/
theorem walk_kid : ∀ (l : NL) (f : Nat → Nat × Bool) (j i : Nat), walkN l f j = none → i < l.len → ∀ (op ln : Int) (s : ByteArray) (k n : Int) (t : ByteArray) (v : VL) (sub : NL), l.drop i = .cons op ln s k n t v sub (l.drop (i + 1)) →
    ownN op s k n t v sub.len (f (j + i)).1 (f (j + i)).2 = 0 ∧ walkN sub (subRole op sub.len (f (j + i)).1 (f (j + i)).2) 0 = none
  | .nil, _, _, _, _, hi, _, _, _, _, _, _, _, _, _ => by simp [NL.len] at hi
  | .cons op0 ln0 s0 k0 n0 t0 v0 sub0 r, f, j, i, hw, hi, op, ln, s, k, n, t, v, sub, hd => by
    rw [walkN] at hw
    by_cases h0 : ownN op0 s0 k0 n0 t0 v0 sub0.len (f j).1 (f j).2 = 0
    · rw [if_neg (by omega)] at hw
      cases hs : walkN sub0 (subRole op0 sub0.len (f j).1 (f j).2) 0 with
      | some e => rw [hs] at hw; simp at hw
      | none =>
        rw [hs] at hw
        cases i with
        | zero =>
          simp only [NL.drop] at hd
          injection hd with e1 e2 e3 e4 e5 e6 e7 e8 _
          subst e1; subst e3; subst e4; subst e5; subst e6; subst e7; subst e8
          exact ⟨h0, hs⟩
        | succ i =>
          have h := walk_kid r f (j + 1) i hw (by rw [NL.len] at hi; omega) op ln s k n t v sub (by simpa only [NL.drop] using hd)
          rw [show j + 1 + i = j + (i + 1) from by omega] at h
          exact h
    · rw [if_pos h0] at hw; simp at hw

/-- One node where statements stand, by what it is there. -/
def itm (op : Int) (s : ByteArray) (k n : Int) (t : ByteArray) (v : VL) (sub : NL) (d : Nat) : STx :=
  ⟨nodeT op s k n t v (ntx sub), stmtT d op s.data.toList (stx sub d), ((stx sub (d + 1)).map (·.st)).flatten, exT d s.data.toList (stx sub d)⟩
theorem stx_len : ∀ (l : NL) (d : Nat), (stx l d).length = l.len
  | .nil, _ => rfl
  | .cons _ _ _ _ _ _ _ _ r, d => by rw [stx, List.length_cons, stx_len r d, NL.len]
theorem stx_drop : ∀ (i : Nat) (l : NL) (d : Nat), (stx l d).drop i = stx (l.drop i) d
  | 0, l, d => by rw [NL.drop]; rfl
  | i + 1, .nil, d => by simp [stx, NL.drop]
  | i + 1, .cons _ _ _ _ _ _ _ _ r, d => by rw [stx, List.drop_succ_cons, NL.drop]; exact stx_drop i r d
theorem stx_at {l : NL} {i : Nat} {op ln : Int} {s : ByteArray} {k n : Int} {t : ByteArray} {v : VL} {sub : NL} (d : Nat) (hd : l.drop i = .cons op ln s k n t v sub (l.drop (i + 1))) : (stx l d).getD i default = itm op s k n t v sub d := by
  have h := stx_drop i l d
  rw [hd, stx] at h
  have h2 : (stx l d)[i]? = ((stx l d).drop i)[0]? := by rw [List.getElem?_drop]; rfl
  rw [List.getD_eq_getElem?_getD, h2, h]; rfl

/-- How much of a text one node takes where it stands. -/
def wt (role : Nat) (x : STx) : Nat := if role = 7 then x.st.length else if role = 6 then x.bk.length + 40000 else if role = 8 then x.ex.length else x.x.b.length + x.x.cd.length + 40000
def wts (f : Nat → Nat × Bool) : List STx → Nat → Nat
  | [], _ => 0
  | x :: r, i => wt (f i).1 x + wts f r (i + 1)
theorem lineT_len (d : Nat) (s : List UInt8) : (lineT d s).length = 2 * d + s.length + 1 := by simp [lineT]; omega

theorem stmt_ops {op : Int} (h : standsP op 7 = true) : 40 ≤ op ∧ op ≤ 51 ∧ op ≠ 50 := by
  simp [standsP] at h; omega
theorem block_op {op : Int} (h : standsP op 6 = true) : op = 52 := by simpa [standsP] using h
theorem except_op {op : Int} (h : standsP op 8 = true) : op = 50 := by simpa [standsP] using h
/-- The roles under a statement. -/
theorem sub7 (op : Int) (m : Nat) (loop : Bool) (j : Nat) : (subRole op m 7 loop j).1 = (rolesP op m).1.getD j 0 := by
  unfold subRole; simp
theorem sub6 (op : Int) (m : Nat) (loop : Bool) (j : Nat) : (subRole op m 6 loop j).1 = (rolesP op m).1.getD j 0 := by
  unfold subRole; simp
theorem sub8 (op : Int) (m : Nat) (loop : Bool) (j : Nat) : (subRole op m 8 loop j).1 = (rolesP op m).1.getD j 0 := by
  unfold subRole; simp

/-- The conditions and Blocks of an If. -/
theorem ifs_len (f : Nat → Nat × Bool) (d : Nat) (hd : d ≤ 5000) : ∀ (L : List STx) (w : List UInt8) (i : Nat), w.length ≤ 10 → (∀ j, i ≤ j → j < i + L.length → (f j).1 = if (i + L.length) % 2 = 1 ∧ j = i + L.length - 1 then 6 else if j % 2 = 0 then 0 else 6) → i % 2 = 0 →
    (ifsT d w L).length ≤ wts f L i + 40000
  | [], w, i, hw, hf, hi => by
    show (lineT d [101, 110, 100, 105, 102]).length ≤ _
    rw [lineT_len]; simp; omega
  | [b], w, i, hw, hf, hi => by
    have h := hf i (Nat.le_refl _) (by simp)
    rw [if_pos (show (i + [b].length) % 2 = 1 ∧ i = i + [b].length - 1 from ⟨by show (i + 1) % 2 = 1; omega, by show i = i + 1 - 1; omega⟩)] at h
    show (lineT d [101, 108, 115, 101] ++ b.bk ++ lineT d [101, 110, 100, 105, 102]).length ≤ wt (f i).1 b + 0 + 40000
    unfold wt
    rw [h]
    simp only [List.length_append, lineT_len, List.length_cons, List.length_nil]
    simp; omega
  | c :: b :: r, w, i, hw, hf, hi => by
    have h1 := hf i (Nat.le_refl _) (by simp)
    have h2 := hf (i + 1) (by omega) (by simp)
    rw [if_neg (by simp), if_pos hi] at h1
    have h2' : (f (i + 1)).1 = 6 := by
      rw [h2]; split
      · rfl
      · rw [if_neg (by omega)]
    have ih := ifs_len f d hd r [101, 108, 115, 101, 105, 102] (i + 2) (by decide) (fun j hj1 hj2 => by
      have h := hf j (by omega) (by simp; omega)
      have e : i + (c :: b :: r).length = i + 2 + r.length := by simp; omega
      rw [e] at h; exact h) (by omega)
    show (lineT d (w ++ [32, 40] ++ c.x.b ++ [41]) ++ b.bk ++ ifsT d [101, 108, 115, 101, 105, 102] r).length ≤ wt (f i).1 c + (wt (f (i + 1)).1 b + wts f r (i + 2)) + 40000
    unfold wt
    rw [h1, h2']
    simp only [List.length_append, lineT_len, List.length_cons, List.length_nil]
    simp; omega
/-- A row of Excepts. -/
theorem exs_len (f : Nat → Nat × Bool) : ∀ (L : List STx) (i : Nat), (∀ j, i ≤ j → j < i + L.length → (f j).1 = 8) → ((L.map (·.ex)).flatten).length ≤ wts f L i
  | [], _, _ => Nat.zero_le _
  | x :: r, i, hf => by
    have h := hf i (Nat.le_refl _) (by simp)
    have ih := exs_len f r (i + 1) (fun j h1 h2 => hf j (by omega) (by simp at h2 ⊢; omega))
    show (x.ex ++ (r.map (·.ex)).flatten).length ≤ wt (f i).1 x + wts f r (i + 1)
    unfold wt
    rw [h, List.length_append]
    exact Nat.add_le_add (Nat.le_of_eq rfl) ih
/-- A row of statements. -/
theorem sts_len (f : Nat → Nat × Bool) : ∀ (L : List STx) (i : Nat), (∀ j, i ≤ j → j < i + L.length → (f j).1 = 7) → ((L.map (·.st)).flatten).length ≤ wts f L i
  | [], _, _ => Nat.zero_le _
  | x :: r, i, hf => by
    have h := hf i (Nat.le_refl _) (by simp)
    have ih := sts_len f r (i + 1) (fun j h1 h2 => hf j (by omega) (by simp at h2 ⊢; omega))
    show (x.st ++ (r.map (·.st)).flatten).length ≤ wt (f i).1 x + wts f r (i + 1)
    unfold wt
    rw [h, List.length_append]
    exact Nat.add_le_add (Nat.le_of_eq rfl) ih
end Go.Proofs.YtgmnbdfbbcpciaaGreatDoor
namespace Go.Proofs.YtgmnbdfbbcpciaaGreatDoor
open Go.Lib

/-- How much a node takes at most where it stands. -/
def bnd (role tot : Nat) : Nat := if role = 7 ∨ role = 8 then 10000000000 * (1 + tot) else if role = 6 then 10000000000 * tot + 40000 else 1000040000
/-- What a right list takes, by what its nodes take. -/
theorem wts_le (f : Nat → Nat × Bool) (d : Nat) : ∀ (l : NL) (j : Nat),
    (∀ i, i < l.len → ∀ (op ln : Int) (s : ByteArray) (k n : Int) (t : ByteArray) (v : VL) (sub : NL), l.drop i = .cons op ln s k n t v sub (l.drop (i + 1)) → wt (f (j + i)).1 (itm op s k n t v sub d) ≤ bnd (f (j + i)).1 sub.tot) →
    wts f (stx l d) j ≤ 10000000000 * l.tot
  | .nil, j, _ => Nat.zero_le _
  | .cons op ln s k n t v sub r, j, h => by
    have h0 := h 0 (by rw [NL.len]; omega) op ln s k n t v sub rfl
    have hr := wts_le f d r (j + 1) (fun i hi op ln s k n t v sub hd => by
      have := h (i + 1) (by rw [NL.len]; omega) op ln s k n t v sub (by rw [NL.drop, NL.drop]; exact hd)
      rw [show j + 1 + i = j + (i + 1) from by omega]; exact this)
    rw [stx]
    show wt (f j).1 (itm op s k n t v sub d) + wts f (stx r d) (j + 1) ≤ _
    have hb : bnd (f j).1 sub.tot ≤ 10000000000 * (1 + sub.tot) := by
      unfold bnd; split
      · exact Nat.le_refl _
      · split <;> omega
    rw [Nat.add_zero] at h0
    simp only [NL.tot]
    omega

theorem rng41 (m i : Nat) (hi : i < m) : (rolesP 41 m).1.getD i 0 = if m % 2 = 1 ∧ i = m - 1 then 6 else if i % 2 = 0 then 0 else 6 := by
  show ((List.range m).map (fun i => if m % 2 = 1 ∧ i = m - 1 then 6 else if i % 2 = 0 then 0 else 6)).getD i 0 = _
  rw [List.getD_eq_getElem?_getD, List.getElem?_map, List.getElem?_range hi]; rfl
theorem rng52 (m i : Nat) (hi : i < m) : (rolesP 52 m).1.getD i 0 = 7 := by
  show (List.replicate m 7).getD i 0 = 7
  rw [List.getD_eq_getElem?_getD, List.getElem?_replicate, if_pos hi]; rfl
theorem rng49 (m i : Nat) (hi : i + 1 < m) : (rolesP 49 m).1.getD (i + 1) 0 = 8 := by
  show ([6] ++ List.replicate (m - 1) 8).getD (i + 1) 0 = 8
  rw [List.getD_eq_getElem?_getD, List.singleton_append, List.getElem?_cons_succ, List.getElem?_replicate, if_pos (by omega)]; rfl

set_option maxRecDepth 100000 in
/-- A statement text, by what its nodes take. -/
theorem stmt_len {op : Int} {s : List UInt8} {L : List STx} {d : Nat} {f : Nat → Nat × Bool} (hd : d ≤ 5000) (hs : s.length ≤ 32) (hop : 40 ≤ op ∧ op ≤ 51 ∧ op ≠ 50) (hr : (rolesP op L.length).2 = true) (hf : ∀ j, (f j).1 = (rolesP op L.length).1.getD j 0) :
    (stmtT d op s L).length ≤ wts f L 0 + 200000 := by
  have hk : op = 40 ∨ op = 41 ∨ op = 42 ∨ op = 43 ∨ op = 44 ∨ op = 45 ∨ op = 46 ∨ op = 47 ∨ op = 48 ∨ op = 49 ∨ op = 51 := by omega
  rcases hk with rfl | rfl | rfl | rfl | rfl | rfl | rfl | rfl | rfl | rfl | rfl
  · obtain ⟨x, rfl⟩ := List.length_eq_one_iff.1 (show L.length = 1 by simpa [rolesP] using hr)
    have h0 : (f 0).1 = 0 := hf 0
    show (lineT d (x.x.b ++ [59])).length ≤ wt (f 0).1 x + 0 + 200000
    unfold wt; rw [h0]
    simp only [lineT_len, List.length_append, List.length_singleton]; simp; omega
  · have h2 : 2 ≤ L.length := by simpa [rolesP] using hr
    have h := ifs_len f d hd L [105, 102] 0 (by decide) (fun j h1 h3 => by
      rw [hf j, rng41 L.length j (by omega)]; simp) rfl
    show (ifsT d [105, 102] L).length ≤ _
    omega
  · obtain ⟨x, y, rfl⟩ := len2 (show L.length = 2 by simpa [rolesP] using hr)
    have h0 : (f 0).1 = 0 := hf 0
    have h1 : (f 1).1 = 6 := hf 1
    show (aroundT d ([102, 111, 114, 32] ++ s ++ [32, 105, 110, 32, 40] ++ x.x.b ++ [41]) y.bk [101, 110, 100, 102, 111, 114]).length ≤ wt (f 0).1 x + (wt (f 1).1 y + 0) + 200000
    unfold wt aroundT; rw [h0, h1]
    simp only [lineT_len, List.length_append, List.length_cons, List.length_nil]; simp; omega
  · obtain ⟨x, y, z, rfl⟩ := len3 (show L.length = 3 by simpa [rolesP] using hr)
    have h0 : (f 0).1 = 0 := hf 0
    have h1 : (f 1).1 = 0 := hf 1
    have h2 : (f 2).1 = 6 := hf 2
    show (aroundT d ([102, 111, 114, 32] ++ s ++ [32, 105, 110, 32, 91] ++ x.x.b ++ [46, 46] ++ y.x.b ++ [93]) z.bk [101, 110, 100, 102, 111, 114]).length ≤ wt (f 0).1 x + (wt (f 1).1 y + (wt (f 2).1 z + 0)) + 200000
    unfold wt aroundT; rw [h0, h1, h2]
    simp only [lineT_len, List.length_append, List.length_cons, List.length_nil]; simp; omega
  · obtain ⟨x, y, rfl⟩ := len2 (show L.length = 2 by simpa [rolesP] using hr)
    have h0 : (f 0).1 = 0 := hf 0
    have h1 : (f 1).1 = 6 := hf 1
    show (aroundT d ([119, 104, 105, 108, 101, 32, 40] ++ x.x.b ++ [41]) y.bk [101, 110, 100, 119, 104, 105, 108, 101]).length ≤ wt (f 0).1 x + (wt (f 1).1 y + 0) + 200000
    unfold wt aroundT; rw [h0, h1]
    simp only [lineT_len, List.length_append, List.length_cons, List.length_nil]; simp; omega
  · show (lineT d [98, 114, 101, 97, 107, 59]).length ≤ _
    rw [lineT_len]; simp; omega
  · show (lineT d [99, 111, 110, 116, 105, 110, 117, 101, 59]).length ≤ _
    rw [lineT_len]; simp; omega
  · have h1 : L.length ≤ 1 := by simpa [rolesP] using hr
    match L, h1 with
    | [], _ =>
      show (lineT d ([114, 101, 116, 117, 114, 110] ++ [] ++ [59])).length ≤ _
      rw [lineT_len]; simp; omega
    | [x], _ =>
      have h0 : (f 0).1 = 0 := hf 0
      show (lineT d ([114, 101, 116, 117, 114, 110] ++ 32 :: x.x.b ++ [59])).length ≤ wt (f 0).1 x + 0 + 200000
      unfold wt; rw [h0]
      simp only [lineT_len, List.length_append, List.length_cons, List.length_nil]; simp; omega
  · obtain ⟨x, y, rfl⟩ := len2 (show L.length = 2 by simpa [rolesP] using hr)
    have h0 : (f 0).1 = 0 := hf 0
    have h1 : (f 1).1 = 6 := hf 1
    show (aroundT d ([102, 111, 114, 107, 32, 40] ++ x.x.b ++ [41]) y.bk [101, 110, 100, 102, 111, 114, 107]).length ≤ wt (f 0).1 x + (wt (f 1).1 y + 0) + 200000
    unfold wt aroundT; rw [h0, h1]
    simp only [lineT_len, List.length_append, List.length_cons, List.length_nil]; simp; omega
  · have h2 : 2 ≤ L.length := by simpa [rolesP] using hr
    match L, h2, hf with
    | x :: r, h2, hf =>
      have h0 : (f 0).1 = 6 := hf 0
      have h := exs_len f r 1 (fun j h1 h3 => by
        obtain ⟨i, rfl⟩ : ∃ i, j = i + 1 := ⟨j - 1, by omega⟩
        rw [hf (i + 1)]
        exact rng49 _ i (by simp; omega))
      show (lineT d [116, 114, 121] ++ x.bk ++ (r.map (·.ex)).flatten ++ lineT d [101, 110, 100, 116, 114, 121]).length ≤ wt (f 0).1 x + wts f r 1 + 200000
      unfold wt; rw [h0]
      have e : (lineT d [116, 114, 121] ++ x.bk ++ (r.map (·.ex)).flatten ++ lineT d [101, 110, 100, 116, 114, 121]).length = (2 * d + 3 + 1) + x.bk.length + ((r.map (·.ex)).flatten).length + (2 * d + 6 + 1) := by
        rw [List.length_append, List.length_append, List.length_append, lineT_len, lineT_len]; rfl
      rw [e]; simp only [if_neg (show ¬ (6 = 7) by decide), if_pos]; omega
  · obtain ⟨x, y, rfl⟩ := len2 (show L.length = 2 by simpa [rolesP] using hr)
    have h0 : (f 0).1 = 6 := hf 0
    have h1 : (f 1).1 = 6 := hf 1
    show (lineT d [116, 114, 121] ++ x.bk ++ aroundT d [102, 105, 110, 97, 108, 108, 121] y.bk [101, 110, 100, 116, 114, 121]).length ≤ wt (f 0).1 x + (wt (f 1).1 y + 0) + 200000
    unfold wt aroundT; rw [h0, h1]
    simp only [lineT_len, List.length_append, List.length_cons, List.length_nil]; simp; omega
end Go.Proofs.YtgmnbdfbbcpciaaGreatDoor
namespace Go.Proofs.YtgmnbdfbbcpciaaGreatDoor
open Go.Lib

theorem one_walk {op ln : Int} {s : ByteArray} {k n : Int} {t : ByteArray} {v : VL} {sub : NL} {role : Nat} {loop : Bool} (ho : ownN op s k n t v sub.len role loop = 0) (hw : walkN sub (subRole op sub.len role loop) 0 = none) :
    walkN (.cons op ln s k n t v sub .nil) (fun _ => (role, loop)) 0 = none := by
  rw [walkN, if_neg (by show ¬ (ownN op s k n t v sub.len role loop ≠ 0); rw [ho]; decide)]
  show (match walkN sub (subRole op sub.len role loop) 0 with | some e => some e | none => walkN .nil (fun _ => (role, loop)) 1) = none
  rw [hw]; rfl
theorem own_name {op : Int} {s : ByteArray} {k n : Int} {t : ByteArray} {v : VL} {m role : Nat} {loop : Bool} (h : ownN op s k n t v m role loop = 0) : s.size ≤ 32 := by
  obtain ⟨-, -, -, h4, h5⟩ := ownN_zero h
  cases hn : (namedP op).1 with
  | true =>
    rcases h4 hn with h | h
    · exact (nameB_size h).2
    · omega
  | false => have := h5 hn; omega
theorem fit_kid {i : Nat} {l : NL} {op ln : Int} {s : ByteArray} {k n : Int} {t : ByteArray} {v : VL} {sub : NL} (hf : l.fit) (h64 : l.i64) (hd : l.drop i = .cons op ln s k n t v sub (l.drop (i + 1))) :
    (NL.cons op ln s k n t v sub .nil).fit ∧ (NL.cons op ln s k n t v sub .nil).i64 ∧ 1 + sub.tot ≤ l.tot := by
  have h1 : ∀ (i : Nat) (l : NL), l.fit → (l.drop i).fit := by
    intro i
    induction i with
    | zero => intro l h; rw [NL.drop]; exact h
    | succ i ih =>
      intro l h
      cases l with
      | nil => exact h
      | cons op ln s k n t v sub r => rw [NL.drop]; exact ih r h.2.2.2.2.2.2
  have h2 := h1 i l hf
  have h3 := NL.i64_drop i l h64
  have h4 : ∀ (i : Nat) (l : NL), (l.drop i).tot ≤ l.tot := by
    intro i
    induction i with
    | zero => intro l; rw [NL.drop]; exact Nat.le_refl _
    | succ i ih =>
      intro l
      cases l with
      | nil => exact Nat.le_refl _
      | cons op ln s k n t v sub r => have := ih r; simp only [NL.drop, NL.tot]; omega
  have h5 := h4 i l
  rw [hd] at h2 h3 h5
  simp only [NL.tot] at h5
  exact ⟨⟨h2.1, h2.2.1, h2.2.2.1, h2.2.2.2.1, h2.2.2.2.2.1, h2.2.2.2.2.2.1, trivial⟩, ⟨h3.1, h3.2.1, trivial⟩, by omega⟩

theorem item_len (N : Nat) : ∀ (op ln : Int) (s : ByteArray) (k n : Int) (t : ByteArray) (v : VL) (sub : NL) (role : Nat) (loop : Bool) (d : Nat), sub.tot < N → sub.tot ≤ 4096 → d + sub.tot ≤ 5000 → role ≤ 8 →
    (NL.cons op ln s k n t v sub .nil).fit → (NL.cons op ln s k n t v sub .nil).i64 → ownN op s k n t v sub.len role loop = 0 → walkN sub (subRole op sub.len role loop) 0 = none → wt role (itm op s k n t v sub d) ≤ bnd role sub.tot := by
  induction N with
  | zero => intro op ln s k n t v sub role loop d hN; omega
  | succ N ih =>
    intro op ln s k n t v sub role loop d hN h4 hd hr hfit h64 ho hw
    have hkids : ∀ d', d' + sub.tot ≤ 5001 → wts (subRole op sub.len role loop) (stx sub d') 0 ≤ 10000000000 * sub.tot := by
      intro d' hd'
      refine wts_le _ d' sub 0 (fun i hi op' ln' s' k' n' t' v' sub' hdr => ?_)
      rw [Nat.zero_add]
      obtain ⟨h1, h2⟩ := walk_kid sub _ 0 i hw hi op' ln' s' k' n' t' v' sub' hdr
      rw [Nat.zero_add] at h1 h2
      obtain ⟨h5, h6, h7⟩ := fit_kid hfit.2.2.2.2.2.1 h64.2.1 hdr
      exact ih op' ln' s' k' n' t' v' sub' _ _ d' (by omega) (by omega) (by omega) (sub_role_le8 _ _ _ _ _) h5 h6 h1 h2
    have hsz : s.data.toList.length = s.size := by rw [Array.length_toList]; rfl
    have hs32 := own_name ho
    obtain ⟨hst, hrl, -, -, -⟩ := ownN_zero ho
    have hk : role = 7 ∨ role = 6 ∨ role = 8 ∨ role ≤ 5 := by omega
    rcases hk with rfl | rfl | rfl | h5
    · have hop := stmt_ops hst
      have h := stmt_len (s := s.data.toList) (L := stx sub d) (f := subRole op sub.len 7 loop) (d := d) (by omega) (by omega) hop (by rw [stx_len]; exact hrl) (fun j => by rw [stx_len]; exact sub7 op sub.len loop j)
      have h2 := hkids d (by omega)
      show (stmtT d op s.data.toList (stx sub d)).length ≤ 10000000000 * (1 + sub.tot)
      omega
    · have hop := block_op hst
      subst hop
      have h := sts_len (subRole 52 sub.len 6 loop) (stx sub (d + 1)) 0 (fun j _ hj => by
        rw [stx_len] at hj
        rw [sub6]; exact rng52 _ _ (by omega))
      have h2 := hkids (d + 1) (by omega)
      show (((stx sub (d + 1)).map (·.st)).flatten).length + 40000 ≤ 10000000000 * sub.tot + 40000
      omega
    · have hop := except_op hst
      subst hop
      have h2 := hkids d (by omega)
      have hl : (stx sub d).length = 2 := by rw [stx_len]; simpa [rolesP] using hrl
      have hm : sub.len = 2 := by rw [← stx_len sub d]; exact hl
      have r0 : (subRole 50 sub.len 8 loop 0).1 = 5 := by rw [hm]; rfl
      have r1 : (subRole 50 sub.len 8 loop 1).1 = 6 := by rw [hm]; rfl
      obtain ⟨x, y, e⟩ := len2 hl
      rw [e] at h2
      have h3 : wts (subRole 50 sub.len 8 loop) [x, y] 0 = wt (subRole 50 sub.len 8 loop 0).1 x + (wt (subRole 50 sub.len 8 loop 1).1 y + 0) := rfl
      rw [h3, r0, r1] at h2
      unfold wt at h2
      simp only [if_neg (show ¬ (5 = 7) by decide), if_neg (show ¬ (5 = 6) by decide), if_neg (show ¬ (5 = 8) by decide), if_neg (show ¬ (6 = 7) by decide), if_pos] at h2
      show (exT d s.data.toList (stx sub d)).length ≤ 10000000000 * (1 + sub.tot)
      rw [e]
      show (lineT d ([101, 120, 99, 101, 112, 116, 32] ++ (if s.data.toList.length ≠ 0 then s.data.toList ++ [32] else []) ++ [40] ++ x.x.cd ++ [41]) ++ y.bk).length ≤ _
      have hif : (if s.data.toList.length ≠ 0 then s.data.toList ++ [32] else []).length ≤ 33 := by
        split
        · rw [List.length_append, List.length_singleton]; omega
        · exact Nat.zero_le _
      rw [List.length_append, lineT_len]
      simp only [List.length_append, List.length_cons, List.length_nil]
      omega
    · have hex := ex_of_walk _ (fun _ => (role, loop)) 0 hfit h64 (one_walk ho hw) (fun _ => h5)
      obtain ⟨a, b, ⟨h1, h2, h3⟩, -, h6⟩ := ex_z _ hex
      simp only [NL.tot] at h6
      have e : wt role (itm op s k n t v sub d) = (nodeT op s k n t v (ntx sub)).b.length + (nodeT op s k n t v (ntx sub)).cd.length + 40000 := by
        unfold wt; rw [if_neg (by omega), if_neg (by omega), if_neg (by omega)]; rfl
      rw [e]
      unfold bnd
      rw [if_neg (by omega), if_neg (by omega)]
      omega
/-- A right program's text is not too long. -/
theorem list_len (l : NL) (role : Nat) (loop : Bool) (d : Nat) (hr : role ≤ 8) (h4 : l.tot ≤ 4097) (hd : d + l.tot ≤ 5001) (hfit : l.fit) (h64 : l.i64) (hw : walkN l (fun _ => (role, loop)) 0 = none) : wts (fun _ => (role, loop)) (stx l d) 0 ≤ 10000000000 * l.tot := by
  refine wts_le _ d l 0 (fun i hi op' ln' s' k' n' t' v' sub' hdr => ?_)
  obtain ⟨h1, h2⟩ := walk_kid l _ 0 i hw hi op' ln' s' k' n' t' v' sub' hdr
  obtain ⟨h5, h6, h7⟩ := fit_kid hfit h64 hdr
  exact item_len (sub'.tot + 1) op' ln' s' k' n' t' v' sub' _ _ d (by omega) (by omega) (by omega) hr h5 h6 h1 h2
end Go.Proofs.YtgmnbdfbbcpciaaGreatDoor
namespace Go.Proofs.YtgmnbdfbbcpciaaGreatDoor
open Go.RowKit Go.Lib
set_option linter.unusedVariables false

theorem LnSt.row {w : World} {W : Nat} {acc : List UInt8} (h : LnSt w W acc) {b : Nat} (hr : rowAt w W b) : W < b ∧ b < w.heap.size := by
  obtain ⟨v, hW, ho⟩ := h
  obtain ⟨v', hc, hb⟩ := hr
  have h0 := cell_of_row w W 0 _ _ _ hW
  rw [h0] at hc
  have hc' : some v = some v' := by simpa using hc
  injection hc' with e
  subst e
  have := ho.lt b hb
  exact ⟨by omega, this.2⟩
theorem Keep.belowW {w w' : World} {W : Nat} {acc : List UInt8} (h : Keep w w' W) (hs : LnSt w W acc) : Below W w w' :=
  ⟨h.os, h.tape, h.output, h.size, fun b hb => h.block b (Nat.lt_trans hb hs.lt) (by omega) (fun hr => by have := (hs.row hr).1; omega)⟩
/-- A block that was made behind the writer's row is kept. -/
theorem Keep.far {w wa w' : World} {W : Nat} {acc : List UInt8} (h : Keep wa w' W) (hs : LnSt w W acc) (hb : Below w.heap.size w wa) {b : Nat} (h1 : w.heap.size ≤ b) (h2 : b < wa.heap.size) : w'.heap[b]? = wa.heap[b]? := by
  have hlt := hs.lt
  refine h.block b h2 (by omega) (fun ⟨v, hc, hv⟩ => ?_)
  rw [hb.cell (p := ⟨W, 0, none⟩) hlt] at hc
  have := (hs.row ⟨v, hc, hv⟩).2
  omega

/-- A node that stands somewhere, and is right there; its parts lie ahead of the writer. -/
structure SdIn (w : World) (W : Nat) (op ln : Int) (s : ByteArray) (k n : Int) (t : ByteArray) (v : VL) (va : Option Addr) (vc : Nat) (sub : NL) (sa : Option Addr) (sc : Nat) (role : Nat) (loop : Bool) (d : Nat) : Prop where
  own : ownN op s k n t v sub.len role loop = 0
  walk : walkN sub (subRole op sub.len role loop) 0 = none
  fit : (node1 op ln s k n t v sub).fit
  i64 : (node1 op ln s k n t v sub).i64
  tot : sub.tot ≤ 4096
  dep : d + sub.tot ≤ 5000
  hvc : v.len ≤ vc
  hsc : sub.len ≤ sc
  hv : RpL w (fun b => b < W) v va
  hsub : RpN w (fun b => b < W) sub sa
section
variable {w w' : World} {W : Nat} {op ln : Int} {s : ByteArray} {k n : Int} {t : ByteArray} {v : VL} {va : Option Addr} {vc : Nat} {sub : NL} {sa : Option Addr} {sc role : Nat} {loop : Bool} {d : Nat}
theorem SdIn.below (h : SdIn w W op ln s k n t v va vc sub sa sc role loop d) (hb : Below W w w') : SdIn w' W op ln s k n t v va vc sub sa sc role loop d :=
  ⟨h.own, h.walk, h.fit, h.i64, h.tot, h.dep, h.hvc, h.hsc, h.hv.keep (fun b hlt => hb.block b hlt) (fun b hlt => hlt), h.hsub.keep (fun b hlt => hb.block b hlt) (fun b hlt => hlt)⟩
/-- An expression among them. -/
theorem SdIn.nd (h : SdIn w W op ln s k n t v va vc sub sa sc role loop d) (hr : role ≤ 5) (hW : W ≤ w.heap.size) : NdIn w op ln s k n t v va vc sub sa sc :=
  ⟨ex_of_walk _ (fun _ => (role, loop)) 0 h.fit h.i64 (one_walk h.own h.walk) (fun _ => hr), h.tot, h.hvc, h.hsc, h.hv.wide (fun b hb => Nat.lt_of_lt_of_le hb hW), h.hsub.wide (fun b hb => Nat.lt_of_lt_of_le hb hW)⟩
end

theorem ShAt.belowW {w w' : World} {ea : Nat → Addr} {W : Nat} (h : ShAt w ea) (hb : Below W w w') (hW : 10 < W) : ShAt w' ea := by
  refine ⟨h.err.below hb (Nat.le_of_lt hW), ⟨?_, by have := hb.size; have := h.tx.room; omega, h.tx.mx.below hb (Nat.le_of_lt hW)⟩⟩
  have htab := h.tx.tab
  unfold TabIs World.var? at *
  rw [show Tryz.prog.globalNamed "internal/strconv.uint64pow10" = some 6 by kernel_rfl] at htab ⊢
  simp only [Option.bind_some] at htab ⊢
  rw [hb.block 6 (Nat.lt_trans (by decide) hW)]; exact htab

def Big (l : List UInt8) (tot : Nat) : Prop := l.length + 10000000000 * tot ≤ 100000000000000

def StmtC (N : Nat) : Prop := ∀ (op ln : Int) (s : ByteArray) (k n : Int) (t : ByteArray) (v : VL) (va : Option Addr) (vc : Nat) (sub : NL) (sa : Option Addr) (sc : Nat) (loop : Bool) (d W : Nat) (acc : List UInt8) (ea : Nat → Addr) (w : World),
  sub.tot < N → ShAt w ea → LnSt w W acc → 10 < W → Big acc (1 + sub.tot) → SdIn w W op ln s k n t v va vc sub sa sc 7 loop d →
  Calls Tryz.prog 19 #[.pointer (some ⟨W, 0, none⟩), .int .i64 (d : Int), .agg #[.int .i64 op, .int .i64 ln, .string s, .int .i64 k, .int .i64 n, .string t, .slice va v.len vc, .slice sa sub.len sc]] w
    fun e w' => e = .returned (.tuple #[]) ∧ Keep w w' W ∧ LnSt w' W (acc ++ stmtT d op s.data.toList (stx sub d))

/-- What a list of statements is as text, so many of them. -/
def stsT (l : NL) (d : Nat) : List UInt8 := ((stx l d).map (·.st)).flatten
theorem stsT_snoc {i : Nat} {l : NL} {d : Nat} {op ln : Int} {s : ByteArray} {k n : Int} {t : ByteArray} {v : VL} {sub : NL} (hd : l.drop i = .cons op ln s k n t v sub (l.drop (i + 1))) : stsT (l.take (i + 1)) d = stsT (l.take i) d ++ stmtT d op s.data.toList (stx sub d) := by
  unfold stsT
  rw [NL.take_succ i l op ln s k n t v sub hd, stx_app, List.map_append, List.flatten_append]
  congr 1
  simp [stx]
theorem stsT_split (i : Nat) (l : NL) (d : Nat) : stsT l d = stsT (l.take i) d ++ stsT (l.drop i) d := by
  unfold stsT
  rw [← List.flatten_append, ← List.map_append, ← stx_app, NL.take_app_drop]
theorem tot_split (i : Nat) (l : NL) : (l.take i).tot + (l.drop i).tot = l.tot := by rw [← NL.tot_app, NL.take_app_drop]
theorem walk_take : ∀ (i : Nat) (l : NL) (f : Nat → Nat × Bool) (j : Nat), walkN l f j = none → walkN (l.take i) f j = none := by
  intro i l f j h
  rw [← NL.take_app_drop i l, walkN_app] at h
  cases hq : walkN (l.take i) f j with
  | none => rfl
  | some e => rw [hq] at h; simp at h
theorem fit_take (i : Nat) (l : NL) (h : l.fit) : (l.take i).fit := by
  induction l generalizing i with
  | nil => cases i <;> exact trivial
  | cons op ln s k n t v sub r _ ih =>
    cases i with
    | zero => exact trivial
    | succ i => exact ⟨h.1, h.2.1, h.2.2.1, h.2.2.2.1, h.2.2.2.2.1, h.2.2.2.2.2.1, ih i h.2.2.2.2.2.2⟩
theorem i64_take (i : Nat) (l : NL) (h : l.i64) : (l.take i).i64 := by
  induction l generalizing i with
  | nil => cases i <;> exact trivial
  | cons op ln s k n t v sub r _ ih =>
    cases i with
    | zero => exact trivial
    | succ i => exact ⟨h.1, h.2.1, ih i h.2.2⟩
theorem stsT_len (l : NL) (loop : Bool) (d : Nat) (h4 : l.tot ≤ 4097) (hd : d + l.tot ≤ 5001) (hfit : l.fit) (h64 : l.i64) (hw : walkN l (fun _ => (7, loop)) 0 = none) : (stsT l d).length ≤ 10000000000 * l.tot :=
  Nat.le_trans (sts_len (fun _ => (7, loop)) (stx l d) 0 (fun _ _ _ => rfl)) (list_len l 7 loop d (by decide) h4 hd hfit h64 hw)

def BlockC (N : Nat) : Prop := ∀ (l : NL) (A : Option Addr) (c : Nat) (loop : Bool) (d W : Nat) (acc : List UInt8) (ea : Nat → Addr) (w : World),
  l.tot ≤ N → ShAt w ea → LnSt w W acc → 10 < W → Big acc l.tot → l.tot ≤ 4096 → d + l.tot ≤ 5000 → l.fit → l.i64 → l.len ≤ c → walkN l (fun _ => (7, loop)) 0 = none → RpN w (fun b => b < W) l A →
  Calls Tryz.prog 11 #[.pointer (some ⟨W, 0, none⟩), .int .i64 (d : Int), .slice A l.len c] w
    fun e w' => e = .returned (.tuple #[]) ∧ Keep w w' W ∧ LnSt w' W (acc ++ stsT l d)

set_option maxRecDepth 100000 in
set_option maxHeartbeats 2000000 in
theorem block_of {N : Nat} (ih : StmtC N) : BlockC N := by
  intro l A c loop d W acc ea w hN hsh hst hW hbig h4 hd hfit h64 hc hwalk hrep
  have hlt := hst.lt
  have hlen := NL.len_tot l
  have HRP := Lib.hid hrep
  have HSH := Lib.hid hsh
  have HST := Lib.hid hst
  have HBG := Lib.hid hbig
  clear hrep hsh hst hbig
  go_enter Tryz.func11, Tryz.ntmps11
  go_wp2_with fail
  go_loopg [10] l.len (fun kk v wr => ∃ (i : Nat), v = .int .i64 i ∧ i + kk = l.len ∧ Hid (Keep w wr W) ∧ Hid (LnSt wr W (acc ++ stsT (l.take i) d)))
  case atStart => exact ⟨0, rfl, by omega, Keep.of_below (Below.refl _ _) hlt, by show LnSt w W (acc ++ stsT (l.take 0) d); rw [NL.take]; simpa [stsT, stx] using HST.out⟩
  case round =>
    obtain ⟨i, rfl, hik, hkr, hsr⟩ := hrel
    have hbr := Lib.hid (hkr.out.belowW HST.out)
    by_cases hi : i < l.len
    · obtain ⟨g, rfl⟩ : ∃ g, gk = g + 1 := ⟨gk - 1, by omega⟩
      obtain ⟨b, o, op', ln', s', k', n', t', v', sub', va', vc', sa', sc', hA, hSb, hdr, c0, c1, c2, c3, c4, c5, c6, hvc', hv', c7, hsc', hs'⟩ := (HRP.out.below hbr.out (fun b hb => hb)).nth hi
      obtain ⟨w1, w2⟩ := walk_kid l _ 0 i hwalk hi op' ln' s' k' n' t' v' sub' hdr
      obtain ⟨w5, w6, w7⟩ := fit_kid hfit h64 hdr
      have hsn := stsT_snoc (d := d) hdr
      have htk := stsT_len (l.take i) loop d (by have := tot_split i l; omega) (by have := tot_split i l; omega) (fit_take i l hfit) (i64_take i l h64) (walk_take i l _ 0 hwalk)
      have hts := tot_split i l
      have htd : (l.drop i).tot = 1 + sub'.tot + (l.drop (i + 1)).tot := by rw [hdr]; rfl
      have hbg : Big (acc ++ stsT (l.take i) d) (1 + sub'.tot) := by
        have h := HBG.out
        unfold Big at h ⊢
        rw [List.length_append]; omega
      have hzr := hbr.out.size
      have hltr := hsr.out.lt
      obtain ⟨wx, hwx⟩ : ∃ wx, wx = wr.alloc (.cells #[.int .i64 op', .int .i64 ln', .string s', .int .i64 k', .int .i64 n', .string t', .slice va' v'.len vc', .slice sa' sub'.len sc'] 33) := ⟨_, rfl⟩
      have hbx : Below wr.heap.size wr wx := by rw [hwx]; exact (Below.refl _ _).alloc (Nat.le_refl _) _
      have hbxW := below_le' hbx (Nat.le_of_lt hltr)
      have hnb : NdB wx wr.heap.size (.int .i64 op') (.int .i64 ln') (.string s') (.int .i64 k') (.int .i64 n') (.string t') (.slice va' v'.len vc') (.slice sa' sub'.len sc') := by rw [hwx]; exact NdB.new _ _ _ _ _ _ _ _ _
      have y0 := hnb.c0; have y1 := hnb.c1; have y2 := hnb.c2; have y3 := hnb.c3; have y4 := hnb.c4; have y5 := hnb.c5; have y6 := hnb.c6; have y7 := hnb.c7
      rw [hwx] at y0 y1 y2 y3 y4 y5 y6 y7
      have hshx := (HSH.out.belowW hbr.out hW).below hbx
      have SC := Lib.hid (ih op' ln' s' k' n' t' v' va' vc' sub' sa' sc' loop d W (acc ++ stsT (l.take i) d) ea wx (by omega) hshx (hsr.out.below hbx) hW hbg
        ⟨w1, w2, w5, w6, by omega, by omega, hvc', hsc', hv'.keep (fun b hb => hbxW.block b hb) (fun b hb => hb), hs'.keep (fun b hb => hbxW.block b hb) (fun b hb => hb)⟩)
      rw [List.append_assoc, ← hsn] at SC
      have HB := Lib.hid (hkr.out.trans (Keep.of_below hbx hltr))
      have HWX := Lib.hid hwx
      subst hA
      clear hkr hbr hsr hv' hs' hdr w1 w2 w5 w6 w7 hsn htk hts htd hbg hbx hbxW hnb hwx hshx
      go_wp2_with fail
      rw [← HWX.out]
      refine SC.out.mono ?_
      rintro e w3 ⟨rfl, hb3, hst3⟩
      have HST3 := Lib.hid hst3
      have HB3 := Lib.hid (HB.out.trans hb3)
      clear hb3 hst3
      go_wp2_with fail
      go_roundg g
      case measure => omega
      case rel => exact ⟨i + 1, by go_num, by omega, HB3.out, HST3.out⟩
    · obtain rfl : i = l.len := by omega
      have HB1 := Lib.hid hkr.out
      have hs1 := hsr.out
      rw [NL.take_len] at hs1
      have HS1 := Lib.hid hs1
      clear hkr hbr hsr hs1
      go_wp2_with fail
      go_end0
      exact ⟨rfl, HB1.out, HS1.out⟩
end Go.Proofs.YtgmnbdfbbcpciaaGreatDoor
namespace Go.Proofs.YtgmnbdfbbcpciaaGreatDoor
open Go.RowKit Go.Lib
set_option linter.unusedVariables false

theorem walkN_congr : ∀ (l : NL) (f g : Nat → Nat × Bool) (i : Nat), (∀ j, i ≤ j → j < i + l.len → f j = g j) → walkN l f i = walkN l g i
  | .nil, _, _, _, _ => rfl
  | .cons op ln s k n t v sub r, f, g, i, h => by
    have h0 := h i (Nat.le_refl _) (by rw [NL.len]; omega)
    have hr := walkN_congr r f g (i + 1) (fun j h1 h2 => h j (by omega) (by rw [NL.len]; omega))
    rw [walkN, walkN, h0, hr]
/-- What is under a Block stands as statements do. -/
theorem block_walk {sub : NL} {loop : Bool} (h : walkN sub (subRole 52 sub.len 6 loop) 0 = none) : walkN sub (fun _ => (7, loop)) 0 = none := by
  rw [← h]
  refine walkN_congr sub _ _ 0 (fun j _ hj => ?_)
  have h1 : (subRole 52 sub.len 6 loop j).1 = 7 := by rw [sub6]; exact rng52 _ _ (by omega)
  have h2 : (subRole 52 sub.len 6 loop j).2 = loop := by
    unfold subRole
    show ((loop && true) || false) = loop
    simp
  rw [show subRole 52 sub.len 6 loop j = ((subRole 52 sub.len 6 loop j).1, (subRole 52 sub.len 6 loop j).2) from rfl, h1, h2]

/-- What a call of around is to show. -/
def AroundC (N : Nat) : Prop := ∀ (hd tl : ByteArray) (ln : Int) (s : ByteArray) (k n : Int) (t : ByteArray) (v : VL) (va : Option Addr) (vc : Nat) (sub : NL) (sa : Option Addr) (sc : Nat) (loop : Bool) (d W : Nat) (acc : List UInt8) (ea : Nat → Addr) (w : World),
  sub.tot ≤ N → ShAt w ea → LnSt w W acc → 10 < W → Big acc (1 + sub.tot) → hd.size ≤ 2000000000 → tl.size ≤ 100 → d + 1 + sub.tot ≤ 5000 → SdIn w W 52 ln s k n t v va vc sub sa sc 6 loop d →
  Calls Tryz.prog 35 #[.pointer (some ⟨W, 0, none⟩), .int .i64 (d : Int), .string hd, .agg #[.int .i64 52, .int .i64 ln, .string s, .int .i64 k, .int .i64 n, .string t, .slice va v.len vc, .slice sa sub.len sc], .string tl] w
    fun e w' => e = .returned (.tuple #[]) ∧ Keep w w' W ∧ LnSt w' W (acc ++ aroundT d hd.data.toList (stsT sub (d + 1)) tl.data.toList)

set_option maxRecDepth 100000 in
set_option maxHeartbeats 2000000 in
theorem around_of {N : Nat} (hB : BlockC N) : AroundC N := by
  intro hd tl ln s k n t v va vc sub sa sc loop d W acc ea w hN hsh hst hW hbig hhd htl hdd hin
  have hlt := hst.lt
  have hw7 := block_walk hin.walk
  have hstl := stsT_len sub loop (d + 1) (by have := hin.tot; omega) (by omega) hin.fit.2.2.2.2.2.1 hin.i64.2.1 hw7
  obtain ⟨wa, hwa⟩ : ∃ wa, wa = w.alloc (.cells #[.int .i64 52, .int .i64 ln, .string s, .int .i64 k, .int .i64 n, .string t, .slice va v.len vc, .slice sa sub.len sc] 33) := ⟨_, rfl⟩
  have hb : Below w.heap.size w wa := by rw [hwa]; exact (Below.refl _ _).alloc (Nat.le_refl _) _
  have hN1 : NdB wa w.heap.size (.int .i64 52) (.int .i64 ln) (.string s) (.int .i64 k) (.int .i64 n) (.string t) (.slice va v.len vc) (.slice sa sub.len sc) := by rw [hwa]; exact NdB.new _ _ _ _ _ _ _ _ _
  have hbW := below_le' hb (Nat.le_of_lt hlt)
  have hhl : hd.data.toList.length = hd.size := by rw [Array.length_toList]; rfl
  have hl1 : (acc ++ lineT d hd.data.toList).length ≤ acc.length + 3000000000 := by rw [List.length_append, lineT_len]; omega
  have hbg : acc.length + 10000000000 * (1 + sub.tot) ≤ 100000000000000 := hbig
  have hsta := hst.below hb
  have LC1 := Lib.hid (line_k W acc d hd wa hsta (by omega) hhd (by omega))
  have BC := Lib.hid (fun W' (hW' : Below W wa W') (hs' : LnSt W' W (acc ++ lineT d hd.data.toList)) => hB sub sa sc loop (d + 1) W (acc ++ lineT d hd.data.toList) ea W' hN ((hsh.below hb).belowW hW' hW) hs' hW (by unfold Big; omega) hin.tot (by omega) hin.fit.2.2.2.2.2.1 hin.i64.2.1 hin.hsc hw7 ((hin.below hbW).below hW').hsub)
  have LC2 := Lib.hid (fun W' (hs' : LnSt W' W ((acc ++ lineT d hd.data.toList) ++ stsT sub (d + 1))) => line_k W ((acc ++ lineT d hd.data.toList) ++ stsT sub (d + 1)) d tl W' hs' (by omega) (by omega) (by rw [List.length_append]; omega))
  rw [show (((d + 1 : Nat) : Int)) = (d : Int) + 1 from by omega] at BC
  have e1 : IntKind.i64.wrap ((d : Int) + 1) = (d : Int) + 1 := IntWalk.i64_in _ (by omega)
  have HB := Lib.hid hb
  have HST := Lib.hid hst
  have HSTA := Lib.hid hsta
  have HWA := Lib.hid hwa
  have HN := Lib.hid hN1
  have hzw : w.heap.size < wa.heap.size := by rw [hwa]; simp
  have HKA := Lib.hid (Keep.of_below hb hlt)
  clear hb hN1 hwa hsh hst hin hbW hsta hstl hw7 hhl hl1 hbg hbig
  go_enter Tryz.func35, Tryz.ntmps35
  go_wp2_with fail
  rw [← HWA.out]
  refine LC1.out.mono ?_
  rintro e w1 ⟨rfl, hk1, hs1⟩
  have HBW1 := Lib.hid (hk1.belowW HSTA.out)
  have hN1 : NdB w1 w.heap.size (.int .i64 52) (.int .i64 ln) (.string s) (.int .i64 k) (.int .i64 n) (.string t) (.slice va v.len vc) (.slice sa sub.len sc) := (hk1.far HST.out HB.out (Nat.le_refl _) hzw).trans HN.out
  have y7 := hN1.c7
  have HS1 := Lib.hid hs1
  have HK1 := Lib.hid (HKA.out.trans hk1)
  clear hk1 hs1 hN1
  go_wp2_with fail
  refine (BC.out w1 HBW1.out HS1.out).mono ?_
  rintro e w2 ⟨rfl, hk2, hs2⟩
  have HS2 := Lib.hid hs2
  have HK2 := Lib.hid (HK1.out.trans hk2)
  clear hk2 hs2 y7
  go_wp2_with fail
  refine (LC2.out w2 HS2.out).mono ?_
  rintro e w3 ⟨rfl, hk3, hs3⟩
  have HS3 := Lib.hid hs3
  have HK3 := Lib.hid (HK2.out.trans hk3)
  clear hk3 hs3
  go_wp2_with fail
  go_end0
  exact ⟨rfl, HK3.out, by
    have h := HS3.out
    unfold aroundT
    simpa [List.append_assoc] using h⟩
end Go.Proofs.YtgmnbdfbbcpciaaGreatDoor
namespace Go.Proofs.YtgmnbdfbbcpciaaGreatDoor
open Go.RowKit Go.Lib
set_option linter.unusedVariables false

set_option maxRecDepth 100000 in
set_option maxHeartbeats 4000000 in
theorem stmt_44 {N : Nat} (hA : AroundC N) (ln : Int) (s : ByteArray) (k n : Int) (t : ByteArray) (v : VL) (va : Option Addr) (vc : Nat) (sub : NL) (sa : Option Addr) (sc : Nat) (loop : Bool) (d W : Nat) (acc : List UInt8) (ea : Nat → Addr) (w : World)
    (hN : sub.tot ≤ N + 1) (hsh : ShAt w ea) (hst : LnSt w W acc) (hW : 10 < W) (hbig : Big acc (1 + sub.tot)) (hin : SdIn w W 44 ln s k n t v va vc sub sa sc 7 loop d) :
    Calls Tryz.prog 19 #[.pointer (some ⟨W, 0, none⟩), .int .i64 (d : Int), .agg #[.int .i64 44, .int .i64 ln, .string s, .int .i64 k, .int .i64 n, .string t, .slice va v.len vc, .slice sa sub.len sc]] w
      fun e w' => e = .returned (.tuple #[]) ∧ Keep w w' W ∧ LnSt w' W (acc ++ stmtT d 44 s.data.toList (stx sub d)) := by
  have hlt := hst.lt
  have hm : sub.len = 2 := by have h := (ownN_zero hin.own).2.1; simpa [rolesP] using h
  obtain ⟨wa, hwa⟩ : ∃ wa, wa = w.alloc (.cells #[.int .i64 44, .int .i64 ln, .string s, .int .i64 k, .int .i64 n, .string t, .slice va v.len vc, .slice sa 2 sc] 33) := ⟨_, rfl⟩
  have hb : Below w.heap.size w wa := by rw [hwa]; exact (Below.refl _ _).alloc (Nat.le_refl _) _
  have hN1 : NdB wa w.heap.size (.int .i64 44) (.int .i64 ln) (.string s) (.int .i64 k) (.int .i64 n) (.string t) (.slice va v.len vc) (.slice sa 2 sc) := by rw [hwa]; exact NdB.new _ _ _ _ _ _ _ _ _
  have v0 := hN1.c0; have v7 := hN1.c7
  rw [hwa] at v0 v7
  have hbW := below_le' hb (Nat.le_of_lt hlt)
  have hina := hin.below hbW
  have hsta := hst.below hb
  have hsha := hsh.below hb
  have hWa : W < wa.heap.size := hsta.lt
  obtain ⟨b, o, op0, ln0, s0, k0, n0, t0, v0', sub0, va0, vc0, sa0, sc0, hA0, hS0, hd0, a00, a01, a02, a03, a04, a05, a06, hvc0, hv0, a07, hsc0, hs0⟩ := hina.hsub.nth (i := 0) (by omega)
  obtain ⟨b', o', op1, ln1, s1, k1, n1, t1, v1', sub1, va1, vc1, sa1, sc1, hA1, hS1, hd1, a10, a11, a12, a13, a14, a15, a16, hvc1, hv1, a17, hsc1, hs1⟩ := hina.hsub.nth (i := 1) (by omega)
  rw [hA0] at hA1
  injection hA1 with hA1
  injection hA1 with e1 e2
  subst e1
  subst e2
  obtain ⟨p0, q0⟩ := walk_kid sub _ 0 0 hin.walk (by omega) op0 ln0 s0 k0 n0 t0 v0' sub0 hd0
  obtain ⟨p1, q1⟩ := walk_kid sub _ 0 1 hin.walk (by omega) op1 ln1 s1 k1 n1 t1 v1' sub1 hd1
  have r0 : (subRole 44 sub.len 7 loop (0 + 0)).1 = 0 := by rw [hm]; rfl
  have r1 : (subRole 44 sub.len 7 loop (0 + 1)).1 = 6 := by rw [hm]; rfl
  rw [r0] at p0 q0
  rw [r1] at p1 q1
  obtain ⟨f0, g0, m0⟩ := fit_kid hin.fit.2.2.2.2.2.1 hin.i64.2.1 hd0
  obtain ⟨f1, g1, m1⟩ := fit_kid hin.fit.2.2.2.2.2.1 hin.i64.2.1 hd1
  have ht4 := hin.tot
  have hdp := hin.dep
  have htot : sub.tot = (1 + sub0.tot) + ((1 + sub1.tot) + 0) := by
    have h0 : sub = .cons op0 ln0 s0 k0 n0 t0 v0' sub0 (sub.drop 1) := by
      have h := hd0
      rw [NL.drop] at h; exact h
    have h2 : sub.drop 2 = .nil := by
      have hl := NL.len_drop 2 sub
      cases hq : sub.drop 2 with
      | nil => rfl
      | cons => rw [hq] at hl; simp only [NL.len] at hl; omega
    rw [h0, hd1, h2]; rfl
  have sd0 : SdIn wa W op0 ln0 s0 k0 n0 t0 v0' va0 vc0 sub0 sa0 sc0 0 (subRole 44 sub.len 7 loop (0 + 0)).2 d := ⟨p0, q0, f0, g0, by omega, by omega, hvc0, hsc0, hv0, hs0⟩
  have in0 := sd0.nd (by decide) (Nat.le_of_lt hWa)
  have in1 : SdIn wa W op1 ln1 s1 k1 n1 t1 v1' va1 vc1 sub1 sa1 sc1 6 (subRole 44 sub.len 7 loop (0 + 1)).2 d := ⟨p1, q1, f1, g1, by omega, by omega, hvc1, hsc1, hv1, hs1⟩
  have hop1 : op1 = 52 := block_op (ownN_zero p1).1
  subst hop1
  have hx0 := stx_at d hd0
  have hx1 := stx_at d hd1
  obtain ⟨x0, hxx⟩ : ∃ x, x = nodeT op0 s0 k0 n0 t0 v0' (ntx sub0) := ⟨_, rfl⟩
  have hlen := (ex_len in0.ex in0.tot).1
  rw [← hxx, ← bs_size] at hlen
  have HT : stmtT d 44 s.data.toList (stx sub d) = aroundT d (⟨#[119, 104, 105, 108, 101, 32, 40]⟩ ++ bs x0.b ++ ⟨#[41]⟩ : ByteArray).data.toList (stsT sub1 (d + 1)) (⟨#[101, 110, 100, 119, 104, 105, 108, 101]⟩ : ByteArray).data.toList := by
    show aroundT d ([119, 104, 105, 108, 101, 32, 40] ++ ((stx sub d).getD 0 default).x.b ++ [41]) ((stx sub d).getD 1 default).bk [101, 110, 100, 119, 104, 105, 108, 101] = _
    rw [hx0, hx1]
    show aroundT d ([119, 104, 105, 108, 101, 32, 40] ++ (nodeT op0 s0 k0 n0 t0 v0' (ntx sub0)).b ++ [41]) (stsT sub1 (d + 1)) [101, 110, 100, 119, 104, 105, 108, 101] = _
    rw [← hxx]
    simp [bs]
  have hbg : Big acc (1 + sub1.tot) := by unfold Big at hbig ⊢; omega
  have hhs : (⟨#[119, 104, 105, 108, 101, 32, 40]⟩ ++ bs x0.b ++ ⟨#[41]⟩ : ByteArray).size ≤ 2000000000 := by
    rw [ByteArray.size_append, ByteArray.size_append]
    have e1 : (⟨#[119, 104, 105, 108, 101, 32, 40]⟩ : ByteArray).size ≤ 20 := by decide
    have e2 : (⟨#[41]⟩ : ByteArray).size = 1 := rfl
    omega
  obtain ⟨S, hS⟩ : ∃ S : World → Prop, S = fun W' => W'.cell? ⟨b, o, none⟩ = some (.int .i64 op0) ∧ W'.cell? ⟨b, o + 1, none⟩ = some (.int .i64 ln0) ∧ W'.cell? ⟨b, o + 2, none⟩ = some (.string s0) ∧ W'.cell? ⟨b, o + 3, none⟩ = some (.int .i64 k0) ∧ W'.cell? ⟨b, o + 4, none⟩ = some (.int .i64 n0) ∧ W'.cell? ⟨b, o + 5, none⟩ = some (.string t0) ∧ W'.cell? ⟨b, o + 6, none⟩ = some (.slice va0 v0'.len vc0) ∧ W'.cell? ⟨b, o + 7, none⟩ = some (.slice sa0 sub0.len sc0) ∧ W'.cell? ⟨b, o + 8, none⟩ = some (.int .i64 52) ∧ W'.cell? ⟨b, o + 8 + 1, none⟩ = some (.int .i64 ln1) ∧ W'.cell? ⟨b, o + 8 + 2, none⟩ = some (.string s1) ∧ W'.cell? ⟨b, o + 8 + 3, none⟩ = some (.int .i64 k1) ∧ W'.cell? ⟨b, o + 8 + 4, none⟩ = some (.int .i64 n1) ∧ W'.cell? ⟨b, o + 8 + 5, none⟩ = some (.string t1) ∧ W'.cell? ⟨b, o + 8 + 6, none⟩ = some (.slice va1 v1'.len vc1) ∧ W'.cell? ⟨b, o + 8 + 7, none⟩ = some (.slice sa1 sub1.len sc1) ∧ Below W wa W' := ⟨_, rfl⟩
  have KS : ∀ W', Below W wa W' → S W' := fun W' h => by rw [hS]; exact ⟨((h.cell (p := ⟨b, o, none⟩) hS0).trans a00), ((h.cell (p := ⟨b, o + 1, none⟩) hS0).trans a01), ((h.cell (p := ⟨b, o + 2, none⟩) hS0).trans a02), ((h.cell (p := ⟨b, o + 3, none⟩) hS0).trans a03), ((h.cell (p := ⟨b, o + 4, none⟩) hS0).trans a04), ((h.cell (p := ⟨b, o + 5, none⟩) hS0).trans a05), ((h.cell (p := ⟨b, o + 6, none⟩) hS0).trans a06), ((h.cell (p := ⟨b, o + 7, none⟩) hS0).trans a07), ((h.cell (p := ⟨b, o + 8, none⟩) hS0).trans a10), ((h.cell (p := ⟨b, o + 8 + 1, none⟩) hS0).trans a11), ((h.cell (p := ⟨b, o + 8 + 2, none⟩) hS0).trans a12), ((h.cell (p := ⟨b, o + 8 + 3, none⟩) hS0).trans a13), ((h.cell (p := ⟨b, o + 8 + 4, none⟩) hS0).trans a14), ((h.cell (p := ⟨b, o + 8 + 5, none⟩) hS0).trans a15), ((h.cell (p := ⟨b, o + 8 + 6, none⟩) hS0).trans a16), ((h.cell (p := ⟨b, o + 8 + 7, none⟩) hS0).trans a17), h⟩
  have BS : ∀ W', S W' → Below W wa W' := fun W' h => by rw [hS] at h; exact h.2.2.2.2.2.2.2.2.2.2.2.2.2.2.2.2
  have C0 := Lib.hid (fun W' (h : S W') (hl : LnSt W' W acc) => (bare_c (sub0.tot + 1) op0 ln0 s0 k0 n0 t0 v0' va0 vc0 sub0 sa0 sc0 ea W' (by omega) (hsha.belowW (BS W' h) hW) ((sd0.below (BS W' h)).nd (by decide) (Nat.le_of_lt hl.lt))).mono (R' := fun e W'' => e = .returned (.string (bs x0.b)) ∧ S W'' ∧ LnSt W'' W acc ∧ Keep W' W'' W) fun e W'' ⟨h1, h2⟩ => ⟨by rw [hxx]; exact h1, KS _ ((BS W' h).trans (below_le' h2 (Nat.le_of_lt hl.lt))), hl.below h2, Keep.of_below h2 hl.lt⟩)
  have CA := Lib.hid (fun W' (h : S W') (hl : LnSt W' W acc) => (hA (⟨#[119, 104, 105, 108, 101, 32, 40]⟩ ++ bs x0.b ++ ⟨#[41]⟩) ⟨#[101, 110, 100, 119, 104, 105, 108, 101]⟩ ln1 s1 k1 n1 t1 v1' va1 vc1 sub1 sa1 sc1 _ d W acc ea W' (by omega) (hsha.belowW (BS W' h) hW) hl hW hbg hhs (by decide) (by omega) (in1.below (BS W' h))).mono (R' := fun e W'' => e = .returned (.tuple #[]) ∧ S W'' ∧ Keep W' W'' W ∧ LnSt W'' W (acc ++ stmtT d 44 s.data.toList (stx sub d))) fun e W'' ⟨h1, h2, h3⟩ => ⟨h1, KS _ ((BS W' h).trans (h2.belowW hl)), h2, by rw [HT]; exact h3⟩)
  have hs1_ : ¬ (9223372036854775807 < 7 + (bs x0.b).size) := by omega
  have hs2_ : ¬ (9223372036854775807 < 7 + (bs x0.b).size + 1) := by omega
  have K0 : S wa.drew := KS _ ((Below.refl _ _).drew)
  have KA : S wa := KS _ (Below.refl _ _)
  have HSTA := Lib.hid hsta
  have HSTD := Lib.hid (show LnSt wa.drew W acc from hsta)
  have HKD := Lib.hid (show Keep w wa.drew W from Keep.of_below hb.drew hlt)
  have HWA := Lib.hid hwa
  rw [hm]
  subst hA0
  clear KS BS hb hN1 hwa hsh hst hsta hsha hin hina hbW hv0 hs0 hv1 hs1 hd0 hd1 p0 q0 p1 q1 r0 r1 f0 g0 f1 g1 m0 m1 htot sd0 in0 in1 hx0 hx1 hxx HT hbg hbig hdp ht4 hA hN hm
  subst hS
  go_enter Tryz.func19, Tryz.ntmps19
  go_wp2_with fail
  rw [← HWA.out]
  go_region_held3 (fun W' => W'.cell? ⟨b, o, none⟩ = some (.int .i64 op0) ∧ W'.cell? ⟨b, o + 1, none⟩ = some (.int .i64 ln0) ∧ W'.cell? ⟨b, o + 2, none⟩ = some (.string s0) ∧ W'.cell? ⟨b, o + 3, none⟩ = some (.int .i64 k0) ∧ W'.cell? ⟨b, o + 4, none⟩ = some (.int .i64 n0) ∧ W'.cell? ⟨b, o + 5, none⟩ = some (.string t0) ∧ W'.cell? ⟨b, o + 6, none⟩ = some (.slice va0 v0'.len vc0) ∧ W'.cell? ⟨b, o + 7, none⟩ = some (.slice sa0 sub0.len sc0) ∧ W'.cell? ⟨b, o + 8, none⟩ = some (.int .i64 52) ∧ W'.cell? ⟨b, o + 8 + 1, none⟩ = some (.int .i64 ln1) ∧ W'.cell? ⟨b, o + 8 + 2, none⟩ = some (.string s1) ∧ W'.cell? ⟨b, o + 8 + 3, none⟩ = some (.int .i64 k1) ∧ W'.cell? ⟨b, o + 8 + 4, none⟩ = some (.int .i64 n1) ∧ W'.cell? ⟨b, o + 8 + 5, none⟩ = some (.string t1) ∧ W'.cell? ⟨b, o + 8 + 6, none⟩ = some (.slice va1 v1'.len vc1) ∧ W'.cell? ⟨b, o + 8 + 7, none⟩ = some (.slice sa1 sub1.len sc1) ∧ Below W wa W')
    (first | (with_reducible assumption) | (with_reducible exact K0) | (with_reducible exact KA))
    (first
      | (go_at_call 33; with_reducible refine (C0.out _ ?_ ?_).mono ?_; (first | (with_reducible assumption) | (with_reducible exact K0) | (with_reducible exact KA)); (first | exact HSTD.out | exact HSTA.out); rintro e w10 ⟨rfl, hs10, hl10, hk10⟩)
      | (go_at_call 35; with_reducible refine (CA.out _ ?_ ?_).mono ?_; (with_reducible assumption); exact hl10; rintro e w20 ⟨rfl, hs20, hk20, hl20⟩))
  all_goals
    go_wp2_with fail
    go_end0
    exact ⟨rfl, HKD.out.trans (hk10.trans hk20), hl20⟩

set_option maxRecDepth 100000 in
set_option maxHeartbeats 4000000 in
theorem stmt_48 {N : Nat} (hA : AroundC N) (ln : Int) (s : ByteArray) (k n : Int) (t : ByteArray) (v : VL) (va : Option Addr) (vc : Nat) (sub : NL) (sa : Option Addr) (sc : Nat) (loop : Bool) (d W : Nat) (acc : List UInt8) (ea : Nat → Addr) (w : World)
    (hN : sub.tot ≤ N + 1) (hsh : ShAt w ea) (hst : LnSt w W acc) (hW : 10 < W) (hbig : Big acc (1 + sub.tot)) (hin : SdIn w W 48 ln s k n t v va vc sub sa sc 7 loop d) :
    Calls Tryz.prog 19 #[.pointer (some ⟨W, 0, none⟩), .int .i64 (d : Int), .agg #[.int .i64 48, .int .i64 ln, .string s, .int .i64 k, .int .i64 n, .string t, .slice va v.len vc, .slice sa sub.len sc]] w
      fun e w' => e = .returned (.tuple #[]) ∧ Keep w w' W ∧ LnSt w' W (acc ++ stmtT d 48 s.data.toList (stx sub d)) := by
  have hlt := hst.lt
  have hm : sub.len = 2 := by have h := (ownN_zero hin.own).2.1; simpa [rolesP] using h
  obtain ⟨wa, hwa⟩ : ∃ wa, wa = w.alloc (.cells #[.int .i64 48, .int .i64 ln, .string s, .int .i64 k, .int .i64 n, .string t, .slice va v.len vc, .slice sa 2 sc] 33) := ⟨_, rfl⟩
  have hb : Below w.heap.size w wa := by rw [hwa]; exact (Below.refl _ _).alloc (Nat.le_refl _) _
  have hN1 : NdB wa w.heap.size (.int .i64 48) (.int .i64 ln) (.string s) (.int .i64 k) (.int .i64 n) (.string t) (.slice va v.len vc) (.slice sa 2 sc) := by rw [hwa]; exact NdB.new _ _ _ _ _ _ _ _ _
  have v0 := hN1.c0; have v7 := hN1.c7
  rw [hwa] at v0 v7
  have hbW := below_le' hb (Nat.le_of_lt hlt)
  have hina := hin.below hbW
  have hsta := hst.below hb
  have hsha := hsh.below hb
  have hWa : W < wa.heap.size := hsta.lt
  obtain ⟨b, o, op0, ln0, s0, k0, n0, t0, v0', sub0, va0, vc0, sa0, sc0, hA0, hS0, hd0, a00, a01, a02, a03, a04, a05, a06, hvc0, hv0, a07, hsc0, hs0⟩ := hina.hsub.nth (i := 0) (by omega)
  obtain ⟨b', o', op1, ln1, s1, k1, n1, t1, v1', sub1, va1, vc1, sa1, sc1, hA1, hS1, hd1, a10, a11, a12, a13, a14, a15, a16, hvc1, hv1, a17, hsc1, hs1⟩ := hina.hsub.nth (i := 1) (by omega)
  rw [hA0] at hA1
  injection hA1 with hA1
  injection hA1 with e1 e2
  subst e1
  subst e2
  obtain ⟨p0, q0⟩ := walk_kid sub _ 0 0 hin.walk (by omega) op0 ln0 s0 k0 n0 t0 v0' sub0 hd0
  obtain ⟨p1, q1⟩ := walk_kid sub _ 0 1 hin.walk (by omega) op1 ln1 s1 k1 n1 t1 v1' sub1 hd1
  have r0 : (subRole 48 sub.len 7 loop (0 + 0)).1 = 0 := by rw [hm]; rfl
  have r1 : (subRole 48 sub.len 7 loop (0 + 1)).1 = 6 := by rw [hm]; rfl
  rw [r0] at p0 q0
  rw [r1] at p1 q1
  obtain ⟨f0, g0, m0⟩ := fit_kid hin.fit.2.2.2.2.2.1 hin.i64.2.1 hd0
  obtain ⟨f1, g1, m1⟩ := fit_kid hin.fit.2.2.2.2.2.1 hin.i64.2.1 hd1
  have ht4 := hin.tot
  have hdp := hin.dep
  have htot : sub.tot = (1 + sub0.tot) + ((1 + sub1.tot) + 0) := by
    have h0 : sub = .cons op0 ln0 s0 k0 n0 t0 v0' sub0 (sub.drop 1) := by
      have h := hd0
      rw [NL.drop] at h; exact h
    have h2 : sub.drop 2 = .nil := by
      have hl := NL.len_drop 2 sub
      cases hq : sub.drop 2 with
      | nil => rfl
      | cons => rw [hq] at hl; simp only [NL.len] at hl; omega
    rw [h0, hd1, h2]; rfl
  have sd0 : SdIn wa W op0 ln0 s0 k0 n0 t0 v0' va0 vc0 sub0 sa0 sc0 0 (subRole 48 sub.len 7 loop (0 + 0)).2 d := ⟨p0, q0, f0, g0, by omega, by omega, hvc0, hsc0, hv0, hs0⟩
  have in0 := sd0.nd (by decide) (Nat.le_of_lt hWa)
  have in1 : SdIn wa W op1 ln1 s1 k1 n1 t1 v1' va1 vc1 sub1 sa1 sc1 6 (subRole 48 sub.len 7 loop (0 + 1)).2 d := ⟨p1, q1, f1, g1, by omega, by omega, hvc1, hsc1, hv1, hs1⟩
  have hop1 : op1 = 52 := block_op (ownN_zero p1).1
  subst hop1
  have hx0 := stx_at d hd0
  have hx1 := stx_at d hd1
  obtain ⟨x0, hxx⟩ : ∃ x, x = nodeT op0 s0 k0 n0 t0 v0' (ntx sub0) := ⟨_, rfl⟩
  have hlen := (ex_len in0.ex in0.tot).1
  rw [← hxx, ← bs_size] at hlen
  have HT : stmtT d 48 s.data.toList (stx sub d) = aroundT d (⟨#[102, 111, 114, 107, 32, 40]⟩ ++ bs x0.b ++ ⟨#[41]⟩ : ByteArray).data.toList (stsT sub1 (d + 1)) (⟨#[101, 110, 100, 102, 111, 114, 107]⟩ : ByteArray).data.toList := by
    show aroundT d ([102, 111, 114, 107, 32, 40] ++ ((stx sub d).getD 0 default).x.b ++ [41]) ((stx sub d).getD 1 default).bk [101, 110, 100, 102, 111, 114, 107] = _
    rw [hx0, hx1]
    show aroundT d ([102, 111, 114, 107, 32, 40] ++ (nodeT op0 s0 k0 n0 t0 v0' (ntx sub0)).b ++ [41]) (stsT sub1 (d + 1)) [101, 110, 100, 102, 111, 114, 107] = _
    rw [← hxx]
    simp [bs]
  have hbg : Big acc (1 + sub1.tot) := by unfold Big at hbig ⊢; omega
  have hhs : (⟨#[102, 111, 114, 107, 32, 40]⟩ ++ bs x0.b ++ ⟨#[41]⟩ : ByteArray).size ≤ 2000000000 := by
    rw [ByteArray.size_append, ByteArray.size_append]
    have e1 : (⟨#[102, 111, 114, 107, 32, 40]⟩ : ByteArray).size ≤ 20 := by decide
    have e2 : (⟨#[41]⟩ : ByteArray).size = 1 := rfl
    omega
  obtain ⟨S, hS⟩ : ∃ S : World → Prop, S = fun W' => W'.cell? ⟨b, o, none⟩ = some (.int .i64 op0) ∧ W'.cell? ⟨b, o + 1, none⟩ = some (.int .i64 ln0) ∧ W'.cell? ⟨b, o + 2, none⟩ = some (.string s0) ∧ W'.cell? ⟨b, o + 3, none⟩ = some (.int .i64 k0) ∧ W'.cell? ⟨b, o + 4, none⟩ = some (.int .i64 n0) ∧ W'.cell? ⟨b, o + 5, none⟩ = some (.string t0) ∧ W'.cell? ⟨b, o + 6, none⟩ = some (.slice va0 v0'.len vc0) ∧ W'.cell? ⟨b, o + 7, none⟩ = some (.slice sa0 sub0.len sc0) ∧ W'.cell? ⟨b, o + 8, none⟩ = some (.int .i64 52) ∧ W'.cell? ⟨b, o + 8 + 1, none⟩ = some (.int .i64 ln1) ∧ W'.cell? ⟨b, o + 8 + 2, none⟩ = some (.string s1) ∧ W'.cell? ⟨b, o + 8 + 3, none⟩ = some (.int .i64 k1) ∧ W'.cell? ⟨b, o + 8 + 4, none⟩ = some (.int .i64 n1) ∧ W'.cell? ⟨b, o + 8 + 5, none⟩ = some (.string t1) ∧ W'.cell? ⟨b, o + 8 + 6, none⟩ = some (.slice va1 v1'.len vc1) ∧ W'.cell? ⟨b, o + 8 + 7, none⟩ = some (.slice sa1 sub1.len sc1) ∧ Below W wa W' := ⟨_, rfl⟩
  have KS : ∀ W', Below W wa W' → S W' := fun W' h => by rw [hS]; exact ⟨((h.cell (p := ⟨b, o, none⟩) hS0).trans a00), ((h.cell (p := ⟨b, o + 1, none⟩) hS0).trans a01), ((h.cell (p := ⟨b, o + 2, none⟩) hS0).trans a02), ((h.cell (p := ⟨b, o + 3, none⟩) hS0).trans a03), ((h.cell (p := ⟨b, o + 4, none⟩) hS0).trans a04), ((h.cell (p := ⟨b, o + 5, none⟩) hS0).trans a05), ((h.cell (p := ⟨b, o + 6, none⟩) hS0).trans a06), ((h.cell (p := ⟨b, o + 7, none⟩) hS0).trans a07), ((h.cell (p := ⟨b, o + 8, none⟩) hS0).trans a10), ((h.cell (p := ⟨b, o + 8 + 1, none⟩) hS0).trans a11), ((h.cell (p := ⟨b, o + 8 + 2, none⟩) hS0).trans a12), ((h.cell (p := ⟨b, o + 8 + 3, none⟩) hS0).trans a13), ((h.cell (p := ⟨b, o + 8 + 4, none⟩) hS0).trans a14), ((h.cell (p := ⟨b, o + 8 + 5, none⟩) hS0).trans a15), ((h.cell (p := ⟨b, o + 8 + 6, none⟩) hS0).trans a16), ((h.cell (p := ⟨b, o + 8 + 7, none⟩) hS0).trans a17), h⟩
  have BS : ∀ W', S W' → Below W wa W' := fun W' h => by rw [hS] at h; exact h.2.2.2.2.2.2.2.2.2.2.2.2.2.2.2.2
  have C0 := Lib.hid (fun W' (h : S W') (hl : LnSt W' W acc) => (bare_c (sub0.tot + 1) op0 ln0 s0 k0 n0 t0 v0' va0 vc0 sub0 sa0 sc0 ea W' (by omega) (hsha.belowW (BS W' h) hW) ((sd0.below (BS W' h)).nd (by decide) (Nat.le_of_lt hl.lt))).mono (R' := fun e W'' => e = .returned (.string (bs x0.b)) ∧ S W'' ∧ LnSt W'' W acc ∧ Keep W' W'' W) fun e W'' ⟨h1, h2⟩ => ⟨by rw [hxx]; exact h1, KS _ ((BS W' h).trans (below_le' h2 (Nat.le_of_lt hl.lt))), hl.below h2, Keep.of_below h2 hl.lt⟩)
  have CA := Lib.hid (fun W' (h : S W') (hl : LnSt W' W acc) => (hA (⟨#[102, 111, 114, 107, 32, 40]⟩ ++ bs x0.b ++ ⟨#[41]⟩) ⟨#[101, 110, 100, 102, 111, 114, 107]⟩ ln1 s1 k1 n1 t1 v1' va1 vc1 sub1 sa1 sc1 _ d W acc ea W' (by omega) (hsha.belowW (BS W' h) hW) hl hW hbg hhs (by decide) (by omega) (in1.below (BS W' h))).mono (R' := fun e W'' => e = .returned (.tuple #[]) ∧ S W'' ∧ Keep W' W'' W ∧ LnSt W'' W (acc ++ stmtT d 48 s.data.toList (stx sub d))) fun e W'' ⟨h1, h2, h3⟩ => ⟨h1, KS _ ((BS W' h).trans (h2.belowW hl)), h2, by rw [HT]; exact h3⟩)
  have hs1_ : ¬ (9223372036854775807 < 6 + (bs x0.b).size) := by omega
  have hs2_ : ¬ (9223372036854775807 < 6 + (bs x0.b).size + 1) := by omega
  have K0 : S wa.drew := KS _ ((Below.refl _ _).drew)
  have KA : S wa := KS _ (Below.refl _ _)
  have HSTA := Lib.hid hsta
  have HSTD := Lib.hid (show LnSt wa.drew W acc from hsta)
  have HKD := Lib.hid (show Keep w wa.drew W from Keep.of_below hb.drew hlt)
  have HWA := Lib.hid hwa
  rw [hm]
  subst hA0
  clear KS BS hb hN1 hwa hsh hst hsta hsha hin hina hbW hv0 hs0 hv1 hs1 hd0 hd1 p0 q0 p1 q1 r0 r1 f0 g0 f1 g1 m0 m1 htot sd0 in0 in1 hx0 hx1 hxx HT hbg hbig hdp ht4 hA hN hm
  subst hS
  go_enter Tryz.func19, Tryz.ntmps19
  go_wp2_with fail
  rw [← HWA.out]
  go_region_held3 (fun W' => W'.cell? ⟨b, o, none⟩ = some (.int .i64 op0) ∧ W'.cell? ⟨b, o + 1, none⟩ = some (.int .i64 ln0) ∧ W'.cell? ⟨b, o + 2, none⟩ = some (.string s0) ∧ W'.cell? ⟨b, o + 3, none⟩ = some (.int .i64 k0) ∧ W'.cell? ⟨b, o + 4, none⟩ = some (.int .i64 n0) ∧ W'.cell? ⟨b, o + 5, none⟩ = some (.string t0) ∧ W'.cell? ⟨b, o + 6, none⟩ = some (.slice va0 v0'.len vc0) ∧ W'.cell? ⟨b, o + 7, none⟩ = some (.slice sa0 sub0.len sc0) ∧ W'.cell? ⟨b, o + 8, none⟩ = some (.int .i64 52) ∧ W'.cell? ⟨b, o + 8 + 1, none⟩ = some (.int .i64 ln1) ∧ W'.cell? ⟨b, o + 8 + 2, none⟩ = some (.string s1) ∧ W'.cell? ⟨b, o + 8 + 3, none⟩ = some (.int .i64 k1) ∧ W'.cell? ⟨b, o + 8 + 4, none⟩ = some (.int .i64 n1) ∧ W'.cell? ⟨b, o + 8 + 5, none⟩ = some (.string t1) ∧ W'.cell? ⟨b, o + 8 + 6, none⟩ = some (.slice va1 v1'.len vc1) ∧ W'.cell? ⟨b, o + 8 + 7, none⟩ = some (.slice sa1 sub1.len sc1) ∧ Below W wa W')
    (first | (with_reducible assumption) | (with_reducible exact K0) | (with_reducible exact KA))
    (first
      | (go_at_call 33; with_reducible refine (C0.out _ ?_ ?_).mono ?_; (first | (with_reducible assumption) | (with_reducible exact K0) | (with_reducible exact KA)); (first | exact HSTD.out | exact HSTA.out); rintro e w10 ⟨rfl, hs10, hl10, hk10⟩)
      | (go_at_call 35; with_reducible refine (CA.out _ ?_ ?_).mono ?_; (with_reducible assumption); exact hl10; rintro e w20 ⟨rfl, hs20, hk20, hl20⟩))
  all_goals
    go_wp2_with fail
    go_end0
    exact ⟨rfl, HKD.out.trans (hk10.trans hk20), hl20⟩
end Go.Proofs.YtgmnbdfbbcpciaaGreatDoor
namespace Go.Proofs.YtgmnbdfbbcpciaaGreatDoor
open Go.RowKit Go.Lib
set_option linter.unusedVariables false

set_option maxRecDepth 100000 in
set_option maxHeartbeats 4000000 in
theorem stmt_42 {N : Nat} (hA : AroundC N) (ln : Int) (s : ByteArray) (k n : Int) (t : ByteArray) (v : VL) (va : Option Addr) (vc : Nat) (sub : NL) (sa : Option Addr) (sc : Nat) (loop : Bool) (d W : Nat) (acc : List UInt8) (ea : Nat → Addr) (w : World)
    (hN : sub.tot ≤ N + 1) (hsh : ShAt w ea) (hst : LnSt w W acc) (hW : 10 < W) (hbig : Big acc (1 + sub.tot)) (hin : SdIn w W 42 ln s k n t v va vc sub sa sc 7 loop d) :
    Calls Tryz.prog 19 #[.pointer (some ⟨W, 0, none⟩), .int .i64 (d : Int), .agg #[.int .i64 42, .int .i64 ln, .string s, .int .i64 k, .int .i64 n, .string t, .slice va v.len vc, .slice sa sub.len sc]] w
      fun e w' => e = .returned (.tuple #[]) ∧ Keep w w' W ∧ LnSt w' W (acc ++ stmtT d 42 s.data.toList (stx sub d)) := by
  have hlt := hst.lt
  have hss := own_name hin.own
  have hm : sub.len = 2 := by have h := (ownN_zero hin.own).2.1; simpa [rolesP] using h
  obtain ⟨wa, hwa⟩ : ∃ wa, wa = w.alloc (.cells #[.int .i64 42, .int .i64 ln, .string s, .int .i64 k, .int .i64 n, .string t, .slice va v.len vc, .slice sa 2 sc] 33) := ⟨_, rfl⟩
  have hb : Below w.heap.size w wa := by rw [hwa]; exact (Below.refl _ _).alloc (Nat.le_refl _) _
  have hN1 : NdB wa w.heap.size (.int .i64 42) (.int .i64 ln) (.string s) (.int .i64 k) (.int .i64 n) (.string t) (.slice va v.len vc) (.slice sa 2 sc) := by rw [hwa]; exact NdB.new _ _ _ _ _ _ _ _ _
  have z0 := hN1.c0; have z2 := hN1.c2; have z7 := hN1.c7
  rw [hwa] at z0 z2 z7
  have hbW := below_le' hb (Nat.le_of_lt hlt)
  have hina := hin.below hbW
  have hsta := hst.below hb
  have hsha := hsh.below hb
  have hWa : W < wa.heap.size := hsta.lt
  have hzw : w.heap.size < wa.heap.size := by rw [hwa]; simp
  obtain ⟨b, o, op0, ln0, s0, k0, n0, t0, v0', sub0, va0, vc0, sa0, sc0, hA0, hS0, hd0, a00, a01, a02, a03, a04, a05, a06, hvc0, hv0, a07, hsc0, hs0⟩ := hina.hsub.nth (i := 0) (by omega)
  obtain ⟨b1, o1, op1, ln1, s1, k1, n1, t1, v1', sub1, va1, vc1, sa1, sc1, hA1, hS1, hd1, a10, a11, a12, a13, a14, a15, a16, hvc1, hv1, a17, hsc1, hs1⟩ := hina.hsub.nth (i := 1) (by omega)
  rw [hA0] at hA1
  injection hA1 with hA1
  injection hA1 with e1a e1b
  subst e1a
  subst e1b
  obtain ⟨p0, q0⟩ := walk_kid sub _ 0 0 hin.walk (by omega) op0 ln0 s0 k0 n0 t0 v0' sub0 hd0
  have r0 : (subRole 42 sub.len 7 loop (0 + 0)).1 = 0 := by rw [hm]; rfl
  rw [r0] at p0 q0
  obtain ⟨f0, g0, m0⟩ := fit_kid hin.fit.2.2.2.2.2.1 hin.i64.2.1 hd0
  obtain ⟨p1, q1⟩ := walk_kid sub _ 0 1 hin.walk (by omega) op1 ln1 s1 k1 n1 t1 v1' sub1 hd1
  have r1 : (subRole 42 sub.len 7 loop (0 + 1)).1 = 6 := by rw [hm]; rfl
  rw [r1] at p1 q1
  obtain ⟨f1, g1, m1⟩ := fit_kid hin.fit.2.2.2.2.2.1 hin.i64.2.1 hd1
  have ht4 := hin.tot
  have hdp := hin.dep
  have htot : sub.tot = ((1 + sub0.tot) + ((1 + sub1.tot) + 0)) := by
    have h0 : sub = .cons op0 ln0 s0 k0 n0 t0 v0' sub0 (sub.drop 1) := by
      have h := hd0
      rw [NL.drop] at h; exact h
    have hl : sub.drop 2 = .nil := by
      have hl := NL.len_drop 2 sub
      cases hq : sub.drop 2 with
      | nil => rfl
      | cons => rw [hq] at hl; simp only [NL.len] at hl; omega
    rw [h0, hd1, hl]; rfl
  have sd0 : SdIn wa W op0 ln0 s0 k0 n0 t0 v0' va0 vc0 sub0 sa0 sc0 0 (subRole 42 sub.len 7 loop (0 + 0)).2 d := ⟨p0, q0, f0, g0, by omega, by omega, hvc0, hsc0, hv0, hs0⟩
  have in0 := sd0.nd (by decide) (Nat.le_of_lt hWa)
  have in1 : SdIn wa W op1 ln1 s1 k1 n1 t1 v1' va1 vc1 sub1 sa1 sc1 6 (subRole 42 sub.len 7 loop (0 + 1)).2 d := ⟨p1, q1, f1, g1, by omega, by omega, hvc1, hsc1, hv1, hs1⟩
  have hop : op1 = 52 := block_op (ownN_zero p1).1
  subst hop
  have hx0 := stx_at d hd0
  have hx1 := stx_at d hd1
  obtain ⟨x0, hxx0⟩ : ∃ x, x = nodeT op0 s0 k0 n0 t0 v0' (ntx sub0) := ⟨_, rfl⟩
  have hlen0 := (ex_len in0.ex in0.tot).1
  rw [← hxx0, ← bs_size] at hlen0
  have HT : stmtT d 42 s.data.toList (stx sub d) = aroundT d (⟨#[102, 111, 114, 32]⟩ ++ s ++ ⟨#[32, 105, 110, 32, 40]⟩ ++ bs x0.b ++ ⟨#[41]⟩ : ByteArray).data.toList (stsT sub1 (d + 1)) (⟨#[101, 110, 100, 102, 111, 114]⟩ : ByteArray).data.toList := by
    show aroundT d ([102, 111, 114, 32] ++ s.data.toList ++ [32, 105, 110, 32, 40] ++ ((stx sub d).getD 0 default).x.b ++ [41]) ((stx sub d).getD 1 default).bk [101, 110, 100, 102, 111, 114] = _
    rw [hx0, hx1]
    show aroundT d ([102, 111, 114, 32] ++ s.data.toList ++ [32, 105, 110, 32, 40] ++ (nodeT op0 s0 k0 n0 t0 v0' (ntx sub0)).b ++ [41]) (stsT sub1 (d + 1)) [101, 110, 100, 102, 111, 114] = _
    rw [← hxx0]
    simp [bs]
  have hbg : Big acc (1 + sub1.tot) := by unfold Big at hbig ⊢; omega
  have hhz : (⟨#[102, 111, 114, 32]⟩ ++ s ++ ⟨#[32, 105, 110, 32, 40]⟩ ++ bs x0.b ++ ⟨#[41]⟩ : ByteArray).size = 4 + s.size + 5 + (bs x0.b).size + 1 := by
    simp only [ByteArray.size_append]
    rfl
  have hhs : (⟨#[102, 111, 114, 32]⟩ ++ s ++ ⟨#[32, 105, 110, 32, 40]⟩ ++ bs x0.b ++ ⟨#[41]⟩ : ByteArray).size ≤ 2000000000 := by rw [hhz]; omega
  clear hhz
  obtain ⟨S, hS⟩ : ∃ S : World → Prop, S = fun W' => W'.cell? ⟨b, o, none⟩ = some (.int .i64 op0) ∧ W'.cell? ⟨b, o + 1, none⟩ = some (.int .i64 ln0) ∧ W'.cell? ⟨b, o + 2, none⟩ = some (.string s0) ∧ W'.cell? ⟨b, o + 3, none⟩ = some (.int .i64 k0) ∧ W'.cell? ⟨b, o + 4, none⟩ = some (.int .i64 n0) ∧ W'.cell? ⟨b, o + 5, none⟩ = some (.string t0) ∧ W'.cell? ⟨b, o + 6, none⟩ = some (.slice va0 v0'.len vc0) ∧ W'.cell? ⟨b, o + 7, none⟩ = some (.slice sa0 sub0.len sc0) ∧ W'.cell? ⟨b, o + 8, none⟩ = some (.int .i64 52) ∧ W'.cell? ⟨b, o + 8 + 1, none⟩ = some (.int .i64 ln1) ∧ W'.cell? ⟨b, o + 8 + 2, none⟩ = some (.string s1) ∧ W'.cell? ⟨b, o + 8 + 3, none⟩ = some (.int .i64 k1) ∧ W'.cell? ⟨b, o + 8 + 4, none⟩ = some (.int .i64 n1) ∧ W'.cell? ⟨b, o + 8 + 5, none⟩ = some (.string t1) ∧ W'.cell? ⟨b, o + 8 + 6, none⟩ = some (.slice va1 v1'.len vc1) ∧ W'.cell? ⟨b, o + 8 + 7, none⟩ = some (.slice sa1 sub1.len sc1) ∧ W'.cell? ⟨w.heap.size, 2, none⟩ = some (.string s) ∧ Below W wa W' ∧ Keep wa W' W := ⟨_, rfl⟩
  have KS : ∀ W', Below W wa W' → Keep wa W' W → S W' := fun W' h hk => by rw [hS]; exact ⟨((h.cell (p := ⟨b, o, none⟩) hS0).trans a00), ((h.cell (p := ⟨b, o + 1, none⟩) hS0).trans a01), ((h.cell (p := ⟨b, o + 2, none⟩) hS0).trans a02), ((h.cell (p := ⟨b, o + 3, none⟩) hS0).trans a03), ((h.cell (p := ⟨b, o + 4, none⟩) hS0).trans a04), ((h.cell (p := ⟨b, o + 5, none⟩) hS0).trans a05), ((h.cell (p := ⟨b, o + 6, none⟩) hS0).trans a06), ((h.cell (p := ⟨b, o + 7, none⟩) hS0).trans a07), ((h.cell (p := ⟨b, o + 8, none⟩) hS0).trans a10), ((h.cell (p := ⟨b, o + 8 + 1, none⟩) hS0).trans a11), ((h.cell (p := ⟨b, o + 8 + 2, none⟩) hS0).trans a12), ((h.cell (p := ⟨b, o + 8 + 3, none⟩) hS0).trans a13), ((h.cell (p := ⟨b, o + 8 + 4, none⟩) hS0).trans a14), ((h.cell (p := ⟨b, o + 8 + 5, none⟩) hS0).trans a15), ((h.cell (p := ⟨b, o + 8 + 6, none⟩) hS0).trans a16), ((h.cell (p := ⟨b, o + 8 + 7, none⟩) hS0).trans a17), (World.cell?_of_block (hk.far hst hb (Nat.le_refl _) hzw)).trans hN1.c2, h, hk⟩
  have BS : ∀ W', S W' → Below W wa W' := fun W' h => by rw [hS] at h; exact h.2.2.2.2.2.2.2.2.2.2.2.2.2.2.2.2.2.1
  have DS : ∀ W', S W' → Keep wa W' W := fun W' h => by rw [hS] at h; exact h.2.2.2.2.2.2.2.2.2.2.2.2.2.2.2.2.2.2
  have C0 := Lib.hid (fun W' (h : S W') (hl : LnSt W' W acc) => (bare_c (sub0.tot + 1) op0 ln0 s0 k0 n0 t0 v0' va0 vc0 sub0 sa0 sc0 ea W' (by omega) (hsha.belowW (BS W' h) hW) ((sd0.below (BS W' h)).nd (by decide) (Nat.le_of_lt hl.lt))).mono (R' := fun e W'' => e = .returned (.string (bs x0.b)) ∧ S W'' ∧ LnSt W'' W acc ∧ Keep W' W'' W) fun e W'' ⟨h1, h2⟩ => ⟨by rw [hxx0]; exact h1, KS _ ((BS W' h).trans (below_le' h2 (Nat.le_of_lt hl.lt))) ((DS W' h).trans (Keep.of_below h2 hl.lt)), hl.below h2, Keep.of_below h2 hl.lt⟩)
  have CA := Lib.hid (fun W' (h : S W') (hl : LnSt W' W acc) => (hA (⟨#[102, 111, 114, 32]⟩ ++ s ++ ⟨#[32, 105, 110, 32, 40]⟩ ++ bs x0.b ++ ⟨#[41]⟩) ⟨#[101, 110, 100, 102, 111, 114]⟩ ln1 s1 k1 n1 t1 v1' va1 vc1 sub1 sa1 sc1 _ d W acc ea W' (by omega) (hsha.belowW (BS W' h) hW) hl hW hbg hhs (by decide) (by omega) (in1.below (BS W' h))).mono (R' := fun e W'' => e = .returned (.tuple #[]) ∧ S W'' ∧ Keep W' W'' W ∧ LnSt W'' W (acc ++ stmtT d 42 s.data.toList (stx sub d))) fun e W'' ⟨h1, h2, h3⟩ => ⟨h1, KS _ ((BS W' h).trans (h2.belowW hl)) ((DS W' h).trans h2), h2, by rw [HT]; exact h3⟩)
  have hz1_ : ¬ (9223372036854775807 < 4 + s.size) := by omega
  have hz2_ : ¬ (9223372036854775807 < 4 + s.size + 5) := by omega
  have hz3_ : ¬ (9223372036854775807 < 4 + s.size + 5 + (bs x0.b).size) := by omega
  have hz4_ : ¬ (9223372036854775807 < 4 + s.size + 5 + (bs x0.b).size + 1) := by omega
  have K0 : S wa.drew := KS _ ((Below.refl _ _).drew) (Keep.of_below (Below.refl _ _).drew hWa)
  have KA : S wa := KS _ (Below.refl _ _) (Keep.of_below (Below.refl _ _) hWa)
  have HSTA := Lib.hid hsta
  have HSTD := Lib.hid (show LnSt wa.drew W acc from hsta)
  have HKD := Lib.hid (show Keep w wa.drew W from Keep.of_below hb.drew hlt)
  have HWA := Lib.hid hwa
  rw [hm]
  subst hA0
  clear KS BS DS hb hN1 hwa hsh hst hsta hsha hin hina hbW HT hbg hbig hdp ht4 hA hN hm htot hv0 hs0 hd0 p0 q0 r0 f0 g0 m0 in0 hx0 hv1 hs1 hd1 p1 q1 r1 f1 g1 m1 in1 hx1 sd0 hxx0
  subst hS
  go_enter Tryz.func19, Tryz.ntmps19
  go_wp2_with fail
  rw [← HWA.out]
  go_region_held3 (fun W' => W'.cell? ⟨b, o, none⟩ = some (.int .i64 op0) ∧ W'.cell? ⟨b, o + 1, none⟩ = some (.int .i64 ln0) ∧ W'.cell? ⟨b, o + 2, none⟩ = some (.string s0) ∧ W'.cell? ⟨b, o + 3, none⟩ = some (.int .i64 k0) ∧ W'.cell? ⟨b, o + 4, none⟩ = some (.int .i64 n0) ∧ W'.cell? ⟨b, o + 5, none⟩ = some (.string t0) ∧ W'.cell? ⟨b, o + 6, none⟩ = some (.slice va0 v0'.len vc0) ∧ W'.cell? ⟨b, o + 7, none⟩ = some (.slice sa0 sub0.len sc0) ∧ W'.cell? ⟨b, o + 8, none⟩ = some (.int .i64 52) ∧ W'.cell? ⟨b, o + 8 + 1, none⟩ = some (.int .i64 ln1) ∧ W'.cell? ⟨b, o + 8 + 2, none⟩ = some (.string s1) ∧ W'.cell? ⟨b, o + 8 + 3, none⟩ = some (.int .i64 k1) ∧ W'.cell? ⟨b, o + 8 + 4, none⟩ = some (.int .i64 n1) ∧ W'.cell? ⟨b, o + 8 + 5, none⟩ = some (.string t1) ∧ W'.cell? ⟨b, o + 8 + 6, none⟩ = some (.slice va1 v1'.len vc1) ∧ W'.cell? ⟨b, o + 8 + 7, none⟩ = some (.slice sa1 sub1.len sc1) ∧ W'.cell? ⟨w.heap.size, 2, none⟩ = some (.string s) ∧ Below W wa W' ∧ Keep wa W' W)
    (first | (with_reducible assumption) | (with_reducible exact K0) | (with_reducible exact KA))
    (first
      | (go_at_call 33; with_reducible refine (C0.out _ ?_ ?_).mono ?_; (first | (with_reducible assumption) | (with_reducible exact K0) | (with_reducible exact KA)); (first | exact HSTD.out | exact HSTA.out); rintro e w10 ⟨rfl, hs10, hl10, hk10⟩)
      | (go_at_call 35; with_reducible refine (CA.out _ ?_ ?_).mono ?_; (with_reducible assumption); exact hl10; rintro e w20 ⟨rfl, hs20, hk20, hl20⟩))
  all_goals
    go_wp2_with fail
    go_end0
    exact ⟨rfl, HKD.out.trans (hk10.trans hk20), hl20⟩
end Go.Proofs.YtgmnbdfbbcpciaaGreatDoor
namespace Go.Proofs.YtgmnbdfbbcpciaaGreatDoor
open Go.RowKit Go.Lib
set_option linter.unusedVariables false

set_option maxRecDepth 100000 in
set_option maxHeartbeats 4000000 in
theorem stmt_43 {N : Nat} (hA : AroundC N) (ln : Int) (s : ByteArray) (k n : Int) (t : ByteArray) (v : VL) (va : Option Addr) (vc : Nat) (sub : NL) (sa : Option Addr) (sc : Nat) (loop : Bool) (d W : Nat) (acc : List UInt8) (ea : Nat → Addr) (w : World)
    (hN : sub.tot ≤ N + 1) (hsh : ShAt w ea) (hst : LnSt w W acc) (hW : 10 < W) (hbig : Big acc (1 + sub.tot)) (hin : SdIn w W 43 ln s k n t v va vc sub sa sc 7 loop d) :
    Calls Tryz.prog 19 #[.pointer (some ⟨W, 0, none⟩), .int .i64 (d : Int), .agg #[.int .i64 43, .int .i64 ln, .string s, .int .i64 k, .int .i64 n, .string t, .slice va v.len vc, .slice sa sub.len sc]] w
      fun e w' => e = .returned (.tuple #[]) ∧ Keep w w' W ∧ LnSt w' W (acc ++ stmtT d 43 s.data.toList (stx sub d)) := by
  have hlt := hst.lt
  have hss := own_name hin.own
  have hm : sub.len = 3 := by have h := (ownN_zero hin.own).2.1; simpa [rolesP] using h
  obtain ⟨wa, hwa⟩ : ∃ wa, wa = w.alloc (.cells #[.int .i64 43, .int .i64 ln, .string s, .int .i64 k, .int .i64 n, .string t, .slice va v.len vc, .slice sa 3 sc] 33) := ⟨_, rfl⟩
  have hb : Below w.heap.size w wa := by rw [hwa]; exact (Below.refl _ _).alloc (Nat.le_refl _) _
  have hN1 : NdB wa w.heap.size (.int .i64 43) (.int .i64 ln) (.string s) (.int .i64 k) (.int .i64 n) (.string t) (.slice va v.len vc) (.slice sa 3 sc) := by rw [hwa]; exact NdB.new _ _ _ _ _ _ _ _ _
  have z0 := hN1.c0; have z2 := hN1.c2; have z7 := hN1.c7
  rw [hwa] at z0 z2 z7
  have hbW := below_le' hb (Nat.le_of_lt hlt)
  have hina := hin.below hbW
  have hsta := hst.below hb
  have hsha := hsh.below hb
  have hWa : W < wa.heap.size := hsta.lt
  have hzw : w.heap.size < wa.heap.size := by rw [hwa]; simp
  obtain ⟨b, o, op0, ln0, s0, k0, n0, t0, v0', sub0, va0, vc0, sa0, sc0, hA0, hS0, hd0, a00, a01, a02, a03, a04, a05, a06, hvc0, hv0, a07, hsc0, hs0⟩ := hina.hsub.nth (i := 0) (by omega)
  obtain ⟨b1, o1, op1, ln1, s1, k1, n1, t1, v1', sub1, va1, vc1, sa1, sc1, hA1, hS1, hd1, a10, a11, a12, a13, a14, a15, a16, hvc1, hv1, a17, hsc1, hs1⟩ := hina.hsub.nth (i := 1) (by omega)
  obtain ⟨b2, o2, op2, ln2, s2, k2, n2, t2, v2', sub2, va2, vc2, sa2, sc2, hA2, hS2, hd2, a20, a21, a22, a23, a24, a25, a26, hvc2, hv2, a27, hsc2, hs2⟩ := hina.hsub.nth (i := 2) (by omega)
  rw [hA0] at hA1
  injection hA1 with hA1
  injection hA1 with e1a e1b
  subst e1a
  subst e1b
  rw [hA0] at hA2
  injection hA2 with hA2
  injection hA2 with e2a e2b
  subst e2a
  subst e2b
  obtain ⟨p0, q0⟩ := walk_kid sub _ 0 0 hin.walk (by omega) op0 ln0 s0 k0 n0 t0 v0' sub0 hd0
  have r0 : (subRole 43 sub.len 7 loop (0 + 0)).1 = 0 := by rw [hm]; rfl
  rw [r0] at p0 q0
  obtain ⟨f0, g0, m0⟩ := fit_kid hin.fit.2.2.2.2.2.1 hin.i64.2.1 hd0
  obtain ⟨p1, q1⟩ := walk_kid sub _ 0 1 hin.walk (by omega) op1 ln1 s1 k1 n1 t1 v1' sub1 hd1
  have r1 : (subRole 43 sub.len 7 loop (0 + 1)).1 = 0 := by rw [hm]; rfl
  rw [r1] at p1 q1
  obtain ⟨f1, g1, m1⟩ := fit_kid hin.fit.2.2.2.2.2.1 hin.i64.2.1 hd1
  obtain ⟨p2, q2⟩ := walk_kid sub _ 0 2 hin.walk (by omega) op2 ln2 s2 k2 n2 t2 v2' sub2 hd2
  have r2 : (subRole 43 sub.len 7 loop (0 + 2)).1 = 6 := by rw [hm]; rfl
  rw [r2] at p2 q2
  obtain ⟨f2, g2, m2⟩ := fit_kid hin.fit.2.2.2.2.2.1 hin.i64.2.1 hd2
  have ht4 := hin.tot
  have hdp := hin.dep
  have htot : sub.tot = ((1 + sub0.tot) + ((1 + sub1.tot) + ((1 + sub2.tot) + 0))) := by
    have h0 : sub = .cons op0 ln0 s0 k0 n0 t0 v0' sub0 (sub.drop 1) := by
      have h := hd0
      rw [NL.drop] at h; exact h
    have hl : sub.drop 3 = .nil := by
      have hl := NL.len_drop 3 sub
      cases hq : sub.drop 3 with
      | nil => rfl
      | cons => rw [hq] at hl; simp only [NL.len] at hl; omega
    rw [h0, hd1, hd2, hl]; rfl
  have sd0 : SdIn wa W op0 ln0 s0 k0 n0 t0 v0' va0 vc0 sub0 sa0 sc0 0 (subRole 43 sub.len 7 loop (0 + 0)).2 d := ⟨p0, q0, f0, g0, by omega, by omega, hvc0, hsc0, hv0, hs0⟩
  have in0 := sd0.nd (by decide) (Nat.le_of_lt hWa)
  have sd1 : SdIn wa W op1 ln1 s1 k1 n1 t1 v1' va1 vc1 sub1 sa1 sc1 0 (subRole 43 sub.len 7 loop (0 + 1)).2 d := ⟨p1, q1, f1, g1, by omega, by omega, hvc1, hsc1, hv1, hs1⟩
  have in1 := sd1.nd (by decide) (Nat.le_of_lt hWa)
  have in2 : SdIn wa W op2 ln2 s2 k2 n2 t2 v2' va2 vc2 sub2 sa2 sc2 6 (subRole 43 sub.len 7 loop (0 + 2)).2 d := ⟨p2, q2, f2, g2, by omega, by omega, hvc2, hsc2, hv2, hs2⟩
  have hop : op2 = 52 := block_op (ownN_zero p2).1
  subst hop
  have hx0 := stx_at d hd0
  have hx1 := stx_at d hd1
  have hx2 := stx_at d hd2
  obtain ⟨x0, hxx0⟩ : ∃ x, x = nodeT op0 s0 k0 n0 t0 v0' (ntx sub0) := ⟨_, rfl⟩
  have hlen0 := (ex_len in0.ex in0.tot).1
  rw [← hxx0, ← bs_size] at hlen0
  obtain ⟨x1, hxx1⟩ : ∃ x, x = nodeT op1 s1 k1 n1 t1 v1' (ntx sub1) := ⟨_, rfl⟩
  have hlen1 := (ex_len in1.ex in1.tot).1
  rw [← hxx1, ← bs_size] at hlen1
  obtain ⟨hd_, hhd⟩ : ∃ h : ByteArray, h = ⟨#[102, 111, 114, 32]⟩ ++ s ++ ⟨#[32, 105, 110, 32, 91]⟩ ++ bs x0.b ++ ⟨#[46, 46]⟩ ++ bs x1.b ++ ⟨#[93]⟩ := ⟨_, rfl⟩
  have hhl : hd_.data.toList = [102, 111, 114, 32] ++ s.data.toList ++ [32, 105, 110, 32, 91] ++ x0.b ++ [46, 46] ++ x1.b ++ [93] := by rw [hhd]; simp [bs]
  have HT : stmtT d 43 s.data.toList (stx sub d) = aroundT d hd_.data.toList (stsT sub2 (d + 1)) (⟨#[101, 110, 100, 102, 111, 114]⟩ : ByteArray).data.toList := by
    show aroundT d ([102, 111, 114, 32] ++ s.data.toList ++ [32, 105, 110, 32, 91] ++ ((stx sub d).getD 0 default).x.b ++ [46, 46] ++ ((stx sub d).getD 1 default).x.b ++ [93]) ((stx sub d).getD 2 default).bk [101, 110, 100, 102, 111, 114] = _
    rw [hx0, hx1, hx2, hhl, hxx0, hxx1]
    rfl
  have hbg : Big acc (1 + sub2.tot) := by unfold Big at hbig ⊢; omega
  have hhs : hd_.size ≤ 2000000000 := by
    have h : hd_.data.toList.length = hd_.size := by rw [Array.length_toList]; rfl
    rw [← h, hhl]
    have h2 : s.data.toList.length = s.size := by rw [Array.length_toList]; rfl
    rw [bs_size] at hlen0 hlen1
    simp only [List.length_append, List.length_cons, List.length_nil]
    omega
  obtain ⟨tlb, htlb⟩ : ∃ t : ByteArray, t = ⟨#[101, 110, 100, 102, 111, 114]⟩ := ⟨_, rfl⟩
  have htls : tlb.size ≤ 100 := by rw [htlb]; decide
  rw [← htlb] at HT
  obtain ⟨S, hS⟩ : ∃ S : World → Prop, S = fun W' => W'.cell? ⟨b, o, none⟩ = some (.int .i64 op0) ∧ W'.cell? ⟨b, o + 1, none⟩ = some (.int .i64 ln0) ∧ W'.cell? ⟨b, o + 2, none⟩ = some (.string s0) ∧ W'.cell? ⟨b, o + 3, none⟩ = some (.int .i64 k0) ∧ W'.cell? ⟨b, o + 4, none⟩ = some (.int .i64 n0) ∧ W'.cell? ⟨b, o + 5, none⟩ = some (.string t0) ∧ W'.cell? ⟨b, o + 6, none⟩ = some (.slice va0 v0'.len vc0) ∧ W'.cell? ⟨b, o + 7, none⟩ = some (.slice sa0 sub0.len sc0) ∧ W'.cell? ⟨b, o + 8, none⟩ = some (.int .i64 op1) ∧ W'.cell? ⟨b, o + 8 + 1, none⟩ = some (.int .i64 ln1) ∧ W'.cell? ⟨b, o + 8 + 2, none⟩ = some (.string s1) ∧ W'.cell? ⟨b, o + 8 + 3, none⟩ = some (.int .i64 k1) ∧ W'.cell? ⟨b, o + 8 + 4, none⟩ = some (.int .i64 n1) ∧ W'.cell? ⟨b, o + 8 + 5, none⟩ = some (.string t1) ∧ W'.cell? ⟨b, o + 8 + 6, none⟩ = some (.slice va1 v1'.len vc1) ∧ W'.cell? ⟨b, o + 8 + 7, none⟩ = some (.slice sa1 sub1.len sc1) ∧ W'.cell? ⟨b, o + 16, none⟩ = some (.int .i64 52) ∧ W'.cell? ⟨b, o + 16 + 1, none⟩ = some (.int .i64 ln2) ∧ W'.cell? ⟨b, o + 16 + 2, none⟩ = some (.string s2) ∧ W'.cell? ⟨b, o + 16 + 3, none⟩ = some (.int .i64 k2) ∧ W'.cell? ⟨b, o + 16 + 4, none⟩ = some (.int .i64 n2) ∧ W'.cell? ⟨b, o + 16 + 5, none⟩ = some (.string t2) ∧ W'.cell? ⟨b, o + 16 + 6, none⟩ = some (.slice va2 v2'.len vc2) ∧ W'.cell? ⟨b, o + 16 + 7, none⟩ = some (.slice sa2 sub2.len sc2) ∧ W'.cell? ⟨w.heap.size, 2, none⟩ = some (.string s) ∧ Below W wa W' ∧ Keep wa W' W := ⟨_, rfl⟩
  have KS : ∀ W', Below W wa W' → Keep wa W' W → S W' := fun W' h hk => by rw [hS]; exact ⟨((h.cell (p := ⟨b, o, none⟩) hS0).trans a00), ((h.cell (p := ⟨b, o + 1, none⟩) hS0).trans a01), ((h.cell (p := ⟨b, o + 2, none⟩) hS0).trans a02), ((h.cell (p := ⟨b, o + 3, none⟩) hS0).trans a03), ((h.cell (p := ⟨b, o + 4, none⟩) hS0).trans a04), ((h.cell (p := ⟨b, o + 5, none⟩) hS0).trans a05), ((h.cell (p := ⟨b, o + 6, none⟩) hS0).trans a06), ((h.cell (p := ⟨b, o + 7, none⟩) hS0).trans a07), ((h.cell (p := ⟨b, o + 8, none⟩) hS0).trans a10), ((h.cell (p := ⟨b, o + 8 + 1, none⟩) hS0).trans a11), ((h.cell (p := ⟨b, o + 8 + 2, none⟩) hS0).trans a12), ((h.cell (p := ⟨b, o + 8 + 3, none⟩) hS0).trans a13), ((h.cell (p := ⟨b, o + 8 + 4, none⟩) hS0).trans a14), ((h.cell (p := ⟨b, o + 8 + 5, none⟩) hS0).trans a15), ((h.cell (p := ⟨b, o + 8 + 6, none⟩) hS0).trans a16), ((h.cell (p := ⟨b, o + 8 + 7, none⟩) hS0).trans a17), ((h.cell (p := ⟨b, o + 16, none⟩) hS0).trans a20), ((h.cell (p := ⟨b, o + 16 + 1, none⟩) hS0).trans a21), ((h.cell (p := ⟨b, o + 16 + 2, none⟩) hS0).trans a22), ((h.cell (p := ⟨b, o + 16 + 3, none⟩) hS0).trans a23), ((h.cell (p := ⟨b, o + 16 + 4, none⟩) hS0).trans a24), ((h.cell (p := ⟨b, o + 16 + 5, none⟩) hS0).trans a25), ((h.cell (p := ⟨b, o + 16 + 6, none⟩) hS0).trans a26), ((h.cell (p := ⟨b, o + 16 + 7, none⟩) hS0).trans a27), (World.cell?_of_block (hk.far hst hb (Nat.le_refl _) hzw)).trans hN1.c2, h, hk⟩
  have BS : ∀ W', S W' → Below W wa W' := fun W' h => by rw [hS] at h; exact h.2.2.2.2.2.2.2.2.2.2.2.2.2.2.2.2.2.2.2.2.2.2.2.2.2.1
  have DS : ∀ W', S W' → Keep wa W' W := fun W' h => by rw [hS] at h; exact h.2.2.2.2.2.2.2.2.2.2.2.2.2.2.2.2.2.2.2.2.2.2.2.2.2.2
  have C0 := Lib.hid (fun W' (h : S W') (hl : LnSt W' W acc) => (bare_c (sub0.tot + 1) op0 ln0 s0 k0 n0 t0 v0' va0 vc0 sub0 sa0 sc0 ea W' (by omega) (hsha.belowW (BS W' h) hW) ((sd0.below (BS W' h)).nd (by decide) (Nat.le_of_lt hl.lt))).mono (R' := fun e W'' => e = .returned (.string (bs x0.b)) ∧ S W'' ∧ LnSt W'' W acc ∧ Keep W' W'' W) fun e W'' ⟨h1, h2⟩ => ⟨by rw [hxx0]; exact h1, KS _ ((BS W' h).trans (below_le' h2 (Nat.le_of_lt hl.lt))) ((DS W' h).trans (Keep.of_below h2 hl.lt)), hl.below h2, Keep.of_below h2 hl.lt⟩)
  have C1 := Lib.hid (fun W' (h : S W') (hl : LnSt W' W acc) => (bare_c (sub1.tot + 1) op1 ln1 s1 k1 n1 t1 v1' va1 vc1 sub1 sa1 sc1 ea W' (by omega) (hsha.belowW (BS W' h) hW) ((sd1.below (BS W' h)).nd (by decide) (Nat.le_of_lt hl.lt))).mono (R' := fun e W'' => e = .returned (.string (bs x1.b)) ∧ S W'' ∧ LnSt W'' W acc ∧ Keep W' W'' W) fun e W'' ⟨h1, h2⟩ => ⟨by rw [hxx1]; exact h1, KS _ ((BS W' h).trans (below_le' h2 (Nat.le_of_lt hl.lt))) ((DS W' h).trans (Keep.of_below h2 hl.lt)), hl.below h2, Keep.of_below h2 hl.lt⟩)
  have CA := Lib.hid (fun W' (h : S W') (hl : LnSt W' W acc) => (hA hd_ tlb ln2 s2 k2 n2 t2 v2' va2 vc2 sub2 sa2 sc2 _ d W acc ea W' (by omega) (hsha.belowW (BS W' h) hW) hl hW hbg hhs htls (by omega) (in2.below (BS W' h))).mono (R' := fun e W'' => e = .returned (.tuple #[]) ∧ S W'' ∧ Keep W' W'' W ∧ LnSt W'' W (acc ++ stmtT d 43 s.data.toList (stx sub d))) fun e W'' ⟨h1, h2, h3⟩ => ⟨h1, KS _ ((BS W' h).trans (h2.belowW hl)) ((DS W' h).trans h2), h2, by rw [HT]; exact h3⟩)
  rw [hhd, htlb] at CA
  have hz1_ : ¬ (9223372036854775807 < 4 + s.size) := by omega
  have hz2_ : ¬ (9223372036854775807 < 4 + s.size + 5) := by omega
  have hz3_ : ¬ (9223372036854775807 < 4 + s.size + 5 + (bs x0.b).size) := by omega
  have hz4_ : ¬ (9223372036854775807 < 4 + s.size + 5 + (bs x0.b).size + 2) := by omega
  have hz5_ : ¬ (9223372036854775807 < 4 + s.size + 5 + (bs x0.b).size + 2 + (bs x1.b).size) := by omega
  have hz6_ : ¬ (9223372036854775807 < 4 + s.size + 5 + (bs x0.b).size + 2 + (bs x1.b).size + 1) := by omega
  have K0 : S wa.drew := KS _ ((Below.refl _ _).drew) (Keep.of_below (Below.refl _ _).drew hWa)
  have KA : S wa := KS _ (Below.refl _ _) (Keep.of_below (Below.refl _ _) hWa)
  have HSTA := Lib.hid hsta
  have HSTD := Lib.hid (show LnSt wa.drew W acc from hsta)
  have HKD := Lib.hid (show Keep w wa.drew W from Keep.of_below hb.drew hlt)
  have HWA := Lib.hid hwa
  rw [hm]
  subst hA0
  clear hhd hhl htlb htls hhs
  clear KS BS DS hb hN1 hwa hsh hst hsta hsha hin hina hbW HT hbg hbig hdp ht4 hA hN hm htot hv0 hs0 hd0 p0 q0 r0 f0 g0 m0 in0 hx0 hv1 hs1 hd1 p1 q1 r1 f1 g1 m1 in1 hx1 hv2 hs2 hd2 p2 q2 r2 f2 g2 m2 in2 hx2 sd0 hxx0 sd1 hxx1
  subst hS
  go_enter Tryz.func19, Tryz.ntmps19
  go_wp2_with fail
  rw [← HWA.out]
  go_region_held3 (fun W' => W'.cell? ⟨b, o, none⟩ = some (.int .i64 op0) ∧ W'.cell? ⟨b, o + 1, none⟩ = some (.int .i64 ln0) ∧ W'.cell? ⟨b, o + 2, none⟩ = some (.string s0) ∧ W'.cell? ⟨b, o + 3, none⟩ = some (.int .i64 k0) ∧ W'.cell? ⟨b, o + 4, none⟩ = some (.int .i64 n0) ∧ W'.cell? ⟨b, o + 5, none⟩ = some (.string t0) ∧ W'.cell? ⟨b, o + 6, none⟩ = some (.slice va0 v0'.len vc0) ∧ W'.cell? ⟨b, o + 7, none⟩ = some (.slice sa0 sub0.len sc0) ∧ W'.cell? ⟨b, o + 8, none⟩ = some (.int .i64 op1) ∧ W'.cell? ⟨b, o + 8 + 1, none⟩ = some (.int .i64 ln1) ∧ W'.cell? ⟨b, o + 8 + 2, none⟩ = some (.string s1) ∧ W'.cell? ⟨b, o + 8 + 3, none⟩ = some (.int .i64 k1) ∧ W'.cell? ⟨b, o + 8 + 4, none⟩ = some (.int .i64 n1) ∧ W'.cell? ⟨b, o + 8 + 5, none⟩ = some (.string t1) ∧ W'.cell? ⟨b, o + 8 + 6, none⟩ = some (.slice va1 v1'.len vc1) ∧ W'.cell? ⟨b, o + 8 + 7, none⟩ = some (.slice sa1 sub1.len sc1) ∧ W'.cell? ⟨b, o + 16, none⟩ = some (.int .i64 52) ∧ W'.cell? ⟨b, o + 16 + 1, none⟩ = some (.int .i64 ln2) ∧ W'.cell? ⟨b, o + 16 + 2, none⟩ = some (.string s2) ∧ W'.cell? ⟨b, o + 16 + 3, none⟩ = some (.int .i64 k2) ∧ W'.cell? ⟨b, o + 16 + 4, none⟩ = some (.int .i64 n2) ∧ W'.cell? ⟨b, o + 16 + 5, none⟩ = some (.string t2) ∧ W'.cell? ⟨b, o + 16 + 6, none⟩ = some (.slice va2 v2'.len vc2) ∧ W'.cell? ⟨b, o + 16 + 7, none⟩ = some (.slice sa2 sub2.len sc2) ∧ W'.cell? ⟨w.heap.size, 2, none⟩ = some (.string s) ∧ Below W wa W' ∧ Keep wa W' W)
    (first | (with_reducible assumption) | (with_reducible exact K0) | (with_reducible exact KA))
    (first
      | (go_at_call 33; with_reducible refine (C0.out _ ?_ ?_).mono ?_; (first | (with_reducible assumption) | (with_reducible exact K0) | (with_reducible exact KA)); (first | exact HSTD.out | exact HSTA.out); rintro e w10 ⟨rfl, hs10, hl10, hk10⟩)
      | (go_at_call 33; with_reducible refine (C1.out _ ?_ ?_).mono ?_; (first | (with_reducible assumption) | (with_reducible exact K0) | (with_reducible exact KA)); exact hl10; rintro e w11 ⟨rfl, hs11, hl11, hk11⟩)
      | (go_at_call 35; with_reducible refine (CA.out _ ?_ ?_).mono ?_; (with_reducible assumption); exact hl11; rintro e w20 ⟨rfl, hs20, hk20, hl20⟩))
  all_goals
    go_wp2_with fail
    go_end0
    exact ⟨rfl, HKD.out.trans (hk10.trans (hk11.trans hk20)), hl20⟩
end Go.Proofs.YtgmnbdfbbcpciaaGreatDoor
namespace Go.Proofs.YtgmnbdfbbcpciaaGreatDoor
open Go.RowKit Go.Lib
set_option linter.unusedVariables false

set_option maxRecDepth 100000 in
set_option maxHeartbeats 4000000 in
theorem stmt_40 (ln : Int) (s : ByteArray) (k n : Int) (t : ByteArray) (v : VL) (va : Option Addr) (vc : Nat) (sub : NL) (sa : Option Addr) (sc : Nat) (loop : Bool) (d W : Nat) (acc : List UInt8) (ea : Nat → Addr) (w : World)
    (hsh : ShAt w ea) (hst : LnSt w W acc) (hW : 10 < W) (hbig : Big acc (1 + sub.tot)) (hin : SdIn w W 40 ln s k n t v va vc sub sa sc 7 loop d) :
    Calls Tryz.prog 19 #[.pointer (some ⟨W, 0, none⟩), .int .i64 (d : Int), .agg #[.int .i64 40, .int .i64 ln, .string s, .int .i64 k, .int .i64 n, .string t, .slice va v.len vc, .slice sa sub.len sc]] w
      fun e w' => e = .returned (.tuple #[]) ∧ Keep w w' W ∧ LnSt w' W (acc ++ stmtT d 40 s.data.toList (stx sub d)) := by
  have hlt := hst.lt
  have hm : sub.len = 1 := by have h := (ownN_zero hin.own).2.1; simpa [rolesP] using h
  obtain ⟨wa, hwa⟩ : ∃ wa, wa = w.alloc (.cells #[.int .i64 40, .int .i64 ln, .string s, .int .i64 k, .int .i64 n, .string t, .slice va v.len vc, .slice sa 1 sc] 33) := ⟨_, rfl⟩
  have hb : Below w.heap.size w wa := by rw [hwa]; exact (Below.refl _ _).alloc (Nat.le_refl _) _
  have hN1 : NdB wa w.heap.size (.int .i64 40) (.int .i64 ln) (.string s) (.int .i64 k) (.int .i64 n) (.string t) (.slice va v.len vc) (.slice sa 1 sc) := by rw [hwa]; exact NdB.new _ _ _ _ _ _ _ _ _
  have v0 := hN1.c0; have v7 := hN1.c7
  rw [hwa] at v0 v7
  have hbW := below_le' hb (Nat.le_of_lt hlt)
  have hina := hin.below hbW
  have hsta := hst.below hb
  have hWa : W < wa.heap.size := hsta.lt
  obtain ⟨b, o, op', ln', s', k', n', t', v', sub', va', vc', sa', sc', hA, hSb, hd', c0, c1, c2, c3, c4, c5, c6, hvc', hv', c7, hsc', hs'⟩ := hina.hsub.nth (i := 0) (by omega)
  obtain ⟨p0, q0⟩ := walk_kid sub _ 0 0 hin.walk (by omega) op' ln' s' k' n' t' v' sub' hd'
  have r0 : (subRole 40 sub.len 7 loop (0 + 0)).1 ≤ 5 := by rw [hm]; first | exact (show (0:Nat) ≤ 5 by decide) | exact (show (1:Nat) ≤ 5 by decide) | exact (show (2:Nat) ≤ 5 by decide)
  obtain ⟨f0, g0, m0⟩ := fit_kid hin.fit.2.2.2.2.2.1 hin.i64.2.1 hd'
  have ht4 := hin.tot
  have hdp := hin.dep
  have sd0 : SdIn wa W op' ln' s' k' n' t' v' va' vc' sub' sa' sc' (subRole 40 sub.len 7 loop (0 + 0)).1 (subRole 40 sub.len 7 loop (0 + 0)).2 d := ⟨p0, q0, f0, g0, by omega, by omega, hvc', hsc', hv', hs'⟩
  have in0 := sd0.nd r0 (Nat.le_of_lt hWa)
  have hx0 := stx_at d hd'
  obtain ⟨x, hxx⟩ : ∃ x, x = nodeT op' s' k' n' t' v' (ntx sub') := ⟨_, rfl⟩
  have hlen := (ex_len in0.ex in0.tot).1
  rw [← hxx, ← bs_size] at hlen
  have HT : stmtT d 40 s.data.toList (stx sub d) = lineT d (bs x.b ++ ⟨#[59]⟩ : ByteArray).data.toList := by
    show lineT d (((stx sub d).getD 0 default).x.b ++ [59]) = _
    rw [hx0]
    show lineT d ((nodeT op' s' k' n' t' v' (ntx sub')).b ++ [59]) = _
    rw [← hxx]
    simp [bs]
  have hbg : acc.length ≤ 100000000000000 := by unfold Big at hbig; omega
  have BC := Lib.hid (bare_c (sub'.tot + 1) op' ln' s' k' n' t' v' va' vc' sub' sa' sc' ea wa (by omega) (hsh.below hb) in0)
  rw [← hxx] at BC
  rw [HT]
  rw [show o + 0 * 8 = o from by omega] at c0 c1 c2 c3 c4 c5 c6 c7
  have HLC := Lib.hid (fun W' (hW' : LnSt W' W acc) => line_k W acc d (bs x.b ++ ⟨#[59]⟩) W' hW' (by omega) (by rw [ByteArray.size_append]; show (bs x.b).size + 1 ≤ _; omega) hbg)
  have HST := Lib.hid hsta
  have HK := Lib.hid (Keep.of_below hb hlt)
  have HWA := Lib.hid hwa
  rw [hm]
  subst hA
  rw [hwa] at c0 c1 c2 c3 c4 c5 c6 c7
  clear hb hN1 hwa hsh hst hin hina hsta hbW hv' hs' hd' hx0 hxx p0 q0 r0 f0 g0 m0 sd0 in0 HT hbig hm
  go_enter Tryz.func19, Tryz.ntmps19
  go_wp2_with fail
  rw [← HWA.out]
  refine BC.out.mono ?_
  rintro e w2 ⟨rfl, hb2⟩
  have HST2 := Lib.hid (HST.out.below hb2)
  have HK2 := Lib.hid (HK.out.trans (Keep.of_below hb2 hWa))
  clear hb2 c0 c1 c2 c3 c4 c5 c6 c7 v0 v7
  go_wp2_with fail
  refine (HLC.out w2 HST2.out).mono ?_
  rintro e w3 ⟨rfl, hk3, hst3⟩
  have HST3 := Lib.hid hst3
  have HK3 := Lib.hid (HK2.out.trans hk3)
  clear hk3 hst3
  go_wp2_with fail
  go_end0
  exact ⟨rfl, HK3.out, HST3.out⟩

set_option maxRecDepth 100000 in
set_option maxHeartbeats 2000000 in
theorem stmt_45 (ln : Int) (s : ByteArray) (k n : Int) (t : ByteArray) (v : VL) (va : Option Addr) (vc : Nat) (sub : NL) (sa : Option Addr) (sc : Nat) (loop : Bool) (d W : Nat) (acc : List UInt8) (ea : Nat → Addr) (w : World)
    (hst : LnSt w W acc) (hbig : Big acc (1 + sub.tot)) (hin : SdIn w W 45 ln s k n t v va vc sub sa sc 7 loop d) :
    Calls Tryz.prog 19 #[.pointer (some ⟨W, 0, none⟩), .int .i64 (d : Int), .agg #[.int .i64 45, .int .i64 ln, .string s, .int .i64 k, .int .i64 n, .string t, .slice va v.len vc, .slice sa sub.len sc]] w
      fun e w' => e = .returned (.tuple #[]) ∧ Keep w w' W ∧ LnSt w' W (acc ++ stmtT d 45 s.data.toList (stx sub d)) := by
  have hlt := hst.lt
  obtain ⟨wa, hwa⟩ : ∃ wa, wa = w.alloc (.cells #[.int .i64 45, .int .i64 ln, .string s, .int .i64 k, .int .i64 n, .string t, .slice va v.len vc, .slice sa sub.len sc] 33) := ⟨_, rfl⟩
  have hb : Below w.heap.size w wa := by rw [hwa]; exact (Below.refl _ _).alloc (Nat.le_refl _) _
  have hN1 : NdB wa w.heap.size (.int .i64 45) (.int .i64 ln) (.string s) (.int .i64 k) (.int .i64 n) (.string t) (.slice va v.len vc) (.slice sa sub.len sc) := by rw [hwa]; exact NdB.new _ _ _ _ _ _ _ _ _
  have v0 := hN1.c0; have v7 := hN1.c7
  rw [hwa] at v0 v7
  have hdp := hin.dep
  have hbg : acc.length ≤ 100000000000000 := by unfold Big at hbig; omega
  have HLC := Lib.hid (line_k W acc d ⟨#[98, 114, 101, 97, 107, 59]⟩ wa (hst.below hb) (by omega) (by decide) hbg)
  have HK := Lib.hid (Keep.of_below hb hlt)
  have HWA := Lib.hid hwa
  clear hb hN1 hwa hst hin hbig
  go_enter Tryz.func19, Tryz.ntmps19
  go_wp2_with fail
  rw [← HWA.out]
  refine HLC.out.mono ?_
  rintro e w3 ⟨rfl, hk3, hst3⟩
  have HST3 := Lib.hid hst3
  have HK3 := Lib.hid (HK.out.trans hk3)
  clear hk3 hst3
  go_wp2_with fail
  go_end0
  exact ⟨rfl, HK3.out, HST3.out⟩

set_option maxRecDepth 100000 in
set_option maxHeartbeats 2000000 in
theorem stmt_46 (ln : Int) (s : ByteArray) (k n : Int) (t : ByteArray) (v : VL) (va : Option Addr) (vc : Nat) (sub : NL) (sa : Option Addr) (sc : Nat) (loop : Bool) (d W : Nat) (acc : List UInt8) (ea : Nat → Addr) (w : World)
    (hst : LnSt w W acc) (hbig : Big acc (1 + sub.tot)) (hin : SdIn w W 46 ln s k n t v va vc sub sa sc 7 loop d) :
    Calls Tryz.prog 19 #[.pointer (some ⟨W, 0, none⟩), .int .i64 (d : Int), .agg #[.int .i64 46, .int .i64 ln, .string s, .int .i64 k, .int .i64 n, .string t, .slice va v.len vc, .slice sa sub.len sc]] w
      fun e w' => e = .returned (.tuple #[]) ∧ Keep w w' W ∧ LnSt w' W (acc ++ stmtT d 46 s.data.toList (stx sub d)) := by
  have hlt := hst.lt
  obtain ⟨wa, hwa⟩ : ∃ wa, wa = w.alloc (.cells #[.int .i64 46, .int .i64 ln, .string s, .int .i64 k, .int .i64 n, .string t, .slice va v.len vc, .slice sa sub.len sc] 33) := ⟨_, rfl⟩
  have hb : Below w.heap.size w wa := by rw [hwa]; exact (Below.refl _ _).alloc (Nat.le_refl _) _
  have hN1 : NdB wa w.heap.size (.int .i64 46) (.int .i64 ln) (.string s) (.int .i64 k) (.int .i64 n) (.string t) (.slice va v.len vc) (.slice sa sub.len sc) := by rw [hwa]; exact NdB.new _ _ _ _ _ _ _ _ _
  have v0 := hN1.c0; have v7 := hN1.c7
  rw [hwa] at v0 v7
  have hdp := hin.dep
  have hbg : acc.length ≤ 100000000000000 := by unfold Big at hbig; omega
  have HLC := Lib.hid (line_k W acc d ⟨#[99, 111, 110, 116, 105, 110, 117, 101, 59]⟩ wa (hst.below hb) (by omega) (by decide) hbg)
  have HK := Lib.hid (Keep.of_below hb hlt)
  have HWA := Lib.hid hwa
  clear hb hN1 hwa hst hin hbig
  go_enter Tryz.func19, Tryz.ntmps19
  go_wp2_with fail
  rw [← HWA.out]
  refine HLC.out.mono ?_
  rintro e w3 ⟨rfl, hk3, hst3⟩
  have HST3 := Lib.hid hst3
  have HK3 := Lib.hid (HK.out.trans hk3)
  clear hk3 hst3
  go_wp2_with fail
  go_end0
  exact ⟨rfl, HK3.out, HST3.out⟩
end Go.Proofs.YtgmnbdfbbcpciaaGreatDoor
namespace Go.Proofs.YtgmnbdfbbcpciaaGreatDoor
open Go.RowKit Go.Lib
set_option linter.unusedVariables false

theorem stx_length : ∀ (l : NL) (d : Nat), (stx l d).length = l.len
  | .nil, _ => rfl
  | .cons _ _ _ _ _ _ _ _ r, d => by rw [stx, List.length_cons, stx_length r d, NL.len]; try omega

set_option maxRecDepth 100000 in
set_option maxHeartbeats 4000000 in
theorem stmt_47a (ln : Int) (s : ByteArray) (k n : Int) (t : ByteArray) (v : VL) (va : Option Addr) (vc : Nat) (sub : NL) (sa : Option Addr) (sc : Nat) (loop : Bool) (d W : Nat) (acc : List UInt8) (ea : Nat → Addr) (w : World)
    (hsh : ShAt w ea) (hst : LnSt w W acc) (hW : 10 < W) (hbig : Big acc (1 + sub.tot)) (hin : SdIn w W 47 ln s k n t v va vc sub sa sc 7 loop d) (hm : sub.len = 1) :
    Calls Tryz.prog 19 #[.pointer (some ⟨W, 0, none⟩), .int .i64 (d : Int), .agg #[.int .i64 47, .int .i64 ln, .string s, .int .i64 k, .int .i64 n, .string t, .slice va v.len vc, .slice sa sub.len sc]] w
      fun e w' => e = .returned (.tuple #[]) ∧ Keep w w' W ∧ LnSt w' W (acc ++ stmtT d 47 s.data.toList (stx sub d)) := by
  have hlt := hst.lt
  obtain ⟨wa, hwa⟩ : ∃ wa, wa = w.alloc (.cells #[.int .i64 47, .int .i64 ln, .string s, .int .i64 k, .int .i64 n, .string t, .slice va v.len vc, .slice sa 1 sc] 33) := ⟨_, rfl⟩
  have hb : Below w.heap.size w wa := by rw [hwa]; exact (Below.refl _ _).alloc (Nat.le_refl _) _
  have hN1 : NdB wa w.heap.size (.int .i64 47) (.int .i64 ln) (.string s) (.int .i64 k) (.int .i64 n) (.string t) (.slice va v.len vc) (.slice sa 1 sc) := by rw [hwa]; exact NdB.new _ _ _ _ _ _ _ _ _
  have v0 := hN1.c0; have v7 := hN1.c7
  rw [hwa] at v0 v7
  have hbW := below_le' hb (Nat.le_of_lt hlt)
  have hina := hin.below hbW
  have hsta := hst.below hb
  have hWa : W < wa.heap.size := hsta.lt
  obtain ⟨b, o, op', ln', s', k', n', t', v', sub', va', vc', sa', sc', hA, hSb, hd', c0, c1, c2, c3, c4, c5, c6, hvc', hv', c7, hsc', hs'⟩ := hina.hsub.nth (i := 0) (by omega)
  obtain ⟨p0, q0⟩ := walk_kid sub _ 0 0 hin.walk (by omega) op' ln' s' k' n' t' v' sub' hd'
  have r0 : (subRole 47 sub.len 7 loop (0 + 0)).1 ≤ 5 := by rw [hm]; first | exact (show (0:Nat) ≤ 5 by decide) | exact (show (1:Nat) ≤ 5 by decide) | exact (show (2:Nat) ≤ 5 by decide)
  obtain ⟨f0, g0, m0⟩ := fit_kid hin.fit.2.2.2.2.2.1 hin.i64.2.1 hd'
  have ht4 := hin.tot
  have hdp := hin.dep
  have sd0 : SdIn wa W op' ln' s' k' n' t' v' va' vc' sub' sa' sc' (subRole 47 sub.len 7 loop (0 + 0)).1 (subRole 47 sub.len 7 loop (0 + 0)).2 d := ⟨p0, q0, f0, g0, by omega, by omega, hvc', hsc', hv', hs'⟩
  have in0 := sd0.nd r0 (Nat.le_of_lt hWa)
  have hx0 := stx_at d hd'
  obtain ⟨x, hxx⟩ : ∃ x, x = nodeT op' s' k' n' t' v' (ntx sub') := ⟨_, rfl⟩
  have hlen := (ex_len in0.ex in0.tot).1
  rw [← hxx, ← bs_size] at hlen
  have HT : stmtT d 47 s.data.toList (stx sub d) = lineT d (⟨#[114, 101, 116, 117, 114, 110]⟩ ++ (⟨#[32]⟩ ++ bs x.b) ++ ⟨#[59]⟩ : ByteArray).data.toList := by
    show lineT d ([114, 101, 116, 117, 114, 110] ++ (if 0 < (stx sub d).length then 32 :: ((stx sub d).getD 0 default).x.b else []) ++ [59]) = _
    rw [hx0, stx_length, hm, if_pos (by decide)]
    show lineT d ([114, 101, 116, 117, 114, 110] ++ 32 :: (nodeT op' s' k' n' t' v' (ntx sub')).b ++ [59]) = _
    rw [← hxx]
    simp [bs]
  have hbg : acc.length ≤ 100000000000000 := by unfold Big at hbig; omega
  have BC := Lib.hid (bare_c (sub'.tot + 1) op' ln' s' k' n' t' v' va' vc' sub' sa' sc' ea wa (by omega) (hsh.below hb) in0)
  rw [← hxx] at BC
  rw [HT]
  rw [show o + 0 * 8 = o from by omega] at c0 c1 c2 c3 c4 c5 c6 c7
  have HLC := Lib.hid (fun W' (hW' : LnSt W' W acc) => line_k W acc d (⟨#[114, 101, 116, 117, 114, 110]⟩ ++ (⟨#[32]⟩ ++ bs x.b) ++ ⟨#[59]⟩) W' hW' (by omega) (by simp only [ByteArray.size_append]; show 6 + (1 + (bs x.b).size) + 1 ≤ _; omega) hbg)
  have HST := Lib.hid hsta
  have HK := Lib.hid (Keep.of_below hb hlt)
  have hz1_ : ¬ (9223372036854775807 < 1 + (bs x.b).size) := by omega
  have hz2_ : ¬ (9223372036854775807 < 6 + (1 + (bs x.b).size)) := by omega
  have hz3_ : ¬ (9223372036854775807 < 6 + (1 + (bs x.b).size) + 1) := by omega
  have HWA := Lib.hid hwa
  rw [hm]
  subst hA
  rw [hwa] at c0 c1 c2 c3 c4 c5 c6 c7
  clear hb hN1 hwa hsh hst hin hina hsta hbW hv' hs' hd' hx0 hxx p0 q0 r0 f0 g0 m0 sd0 in0 HT hbig hm
  go_enter Tryz.func19, Tryz.ntmps19
  go_wp2_with fail
  rw [← HWA.out]
  refine BC.out.mono ?_
  rintro e w2 ⟨rfl, hb2⟩
  have HST2 := Lib.hid (HST.out.below hb2)
  have HK2 := Lib.hid (HK.out.trans (Keep.of_below hb2 hWa))
  clear hb2 c0 c1 c2 c3 c4 c5 c6 c7 v0 v7
  go_wp2_with fail
  refine (HLC.out w2 HST2.out).mono ?_
  rintro e w3 ⟨rfl, hk3, hst3⟩
  have HST3 := Lib.hid hst3
  have HK3 := Lib.hid (HK2.out.trans hk3)
  clear hk3 hst3
  go_wp2_with fail
  go_end0
  exact ⟨rfl, HK3.out, HST3.out⟩

set_option maxRecDepth 100000 in
set_option maxHeartbeats 2000000 in
theorem stmt_47b (ln : Int) (s : ByteArray) (k n : Int) (t : ByteArray) (v : VL) (va : Option Addr) (vc : Nat) (sub : NL) (sa : Option Addr) (sc : Nat) (loop : Bool) (d W : Nat) (acc : List UInt8) (ea : Nat → Addr) (w : World)
    (hst : LnSt w W acc) (hbig : Big acc (1 + sub.tot)) (hin : SdIn w W 47 ln s k n t v va vc sub sa sc 7 loop d) (hm : sub.len = 0) :
    Calls Tryz.prog 19 #[.pointer (some ⟨W, 0, none⟩), .int .i64 (d : Int), .agg #[.int .i64 47, .int .i64 ln, .string s, .int .i64 k, .int .i64 n, .string t, .slice va v.len vc, .slice sa sub.len sc]] w
      fun e w' => e = .returned (.tuple #[]) ∧ Keep w w' W ∧ LnSt w' W (acc ++ stmtT d 47 s.data.toList (stx sub d)) := by
  have hlt := hst.lt
  obtain ⟨wa, hwa⟩ : ∃ wa, wa = w.alloc (.cells #[.int .i64 47, .int .i64 ln, .string s, .int .i64 k, .int .i64 n, .string t, .slice va v.len vc, .slice sa 0 sc] 33) := ⟨_, rfl⟩
  have hb : Below w.heap.size w wa := by rw [hwa]; exact (Below.refl _ _).alloc (Nat.le_refl _) _
  have hN1 : NdB wa w.heap.size (.int .i64 47) (.int .i64 ln) (.string s) (.int .i64 k) (.int .i64 n) (.string t) (.slice va v.len vc) (.slice sa 0 sc) := by rw [hwa]; exact NdB.new _ _ _ _ _ _ _ _ _
  have v0 := hN1.c0; have v7 := hN1.c7
  rw [hwa] at v0 v7
  have hdp := hin.dep
  have hbg : acc.length ≤ 100000000000000 := by unfold Big at hbig; omega
  have HLC := Lib.hid (line_k W acc d ⟨#[114, 101, 116, 117, 114, 110, 59]⟩ wa (hst.below hb) (by omega) (by decide) hbg)
  have HK := Lib.hid (Keep.of_below hb hlt)
  have HT : stmtT d 47 s.data.toList (stx sub d) = lineT d [114, 101, 116, 117, 114, 110, 59] := by
    show lineT d ([114, 101, 116, 117, 114, 110] ++ (if 0 < (stx sub d).length then 32 :: ((stx sub d).getD 0 default).x.b else []) ++ [59]) = _
    rw [stx_length, hm, if_neg (by decide)]
    rfl
  rw [HT, hm]
  have HWA := Lib.hid hwa
  clear HT hm hb hN1 hwa hst hin hbig
  go_enter Tryz.func19, Tryz.ntmps19
  go_wp2_with fail
  rw [← HWA.out]
  refine HLC.out.mono ?_
  rintro e w3 ⟨rfl, hk3, hst3⟩
  have HST3 := Lib.hid hst3
  have HK3 := Lib.hid (HK.out.trans hk3)
  clear hk3 hst3
  go_wp2_with fail
  go_end0
  exact ⟨rfl, HK3.out, HST3.out⟩


theorem stmt_47 (ln : Int) (s : ByteArray) (k n : Int) (t : ByteArray) (v : VL) (va : Option Addr) (vc : Nat) (sub : NL) (sa : Option Addr) (sc : Nat) (loop : Bool) (d W : Nat) (acc : List UInt8) (ea : Nat → Addr) (w : World)
    (hsh : ShAt w ea) (hst : LnSt w W acc) (hW : 10 < W) (hbig : Big acc (1 + sub.tot)) (hin : SdIn w W 47 ln s k n t v va vc sub sa sc 7 loop d) :
    Calls Tryz.prog 19 #[.pointer (some ⟨W, 0, none⟩), .int .i64 (d : Int), .agg #[.int .i64 47, .int .i64 ln, .string s, .int .i64 k, .int .i64 n, .string t, .slice va v.len vc, .slice sa sub.len sc]] w
      fun e w' => e = .returned (.tuple #[]) ∧ Keep w w' W ∧ LnSt w' W (acc ++ stmtT d 47 s.data.toList (stx sub d)) := by
  have hm : sub.len = 0 ∨ sub.len = 1 := by
    have h := (ownN_zero hin.own).2.1
    simp [rolesP] at h
    omega
  rcases hm with hm | hm
  · exact stmt_47b ln s k n t v va vc sub sa sc loop d W acc ea w hst hbig hin hm
  · exact stmt_47a ln s k n t v va vc sub sa sc loop d W acc ea w hsh hst hW hbig hin hm
end Go.Proofs.YtgmnbdfbbcpciaaGreatDoor
