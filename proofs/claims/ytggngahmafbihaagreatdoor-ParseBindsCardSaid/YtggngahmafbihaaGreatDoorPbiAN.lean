/- Contracts of the functions that the statement reaches, and the plain mathematics beneath: several texts joined. -/
import Derived.Test.YtggngahmafbihaaGreatDoorPbiAC
import Derived.Test.YtggngahmafbihaaGreatDoorPbiAH
import Derived.Test.YtggngahmafbihaaGreatDoorPbiAG
namespace Go.Proofs.YtggngahmafbihaaGreatDoor

/-- What a whole text is: words that are none; a fault; an expression. -/
inductive ExR where
  | lex (c : Nat) (line : Int)
  | bad (e : Option Int)
  | good (n : NL)
  | out
def exprR (F : Nat) (s : List UInt8) : ExR := match allW ⟨s.toArray⟩ with
  | .inl (c, ln) => .lex c ln
  | .inr l => match prsR l F .expr ⟨0, 0, none⟩ with
    | none => .out
    | some (n, p) =>
      let p := if p.pos < l.length then failS l p else p
      match p.err with
      | some e => .bad e
      | none => .good n
def ExR.two : ExR → ExR → Bool
  | .good a, .good b => sameN a b
  | _, _ => false
def ExR.op : ExR → Int
  | .good a => a.op
  | _ => 0
def sgL : List (List UInt8) := [[124, 124], [38, 38], [61, 61], [60], [105, 110], [43], [45], [42], [47], [37]]
def lvL : List Nat := [1, 2, 3, 3, 3, 4, 4, 5, 5, 5]
def ExR.fault : ExR → Bool
  | .bad (some _) => true
  | _ => false
def ExR.wrong (ln : Int) : ExR → Bool
  | .good a => match walkN a (fun _ => (7, false)) 0 with
    | some (l, _) => decide (l = ln) && !rightN a 7
    | none => false
  | _ => false
end Go.Proofs.YtggngahmafbihaaGreatDoor
namespace Go.Proofs.YtggngahmafbihaaGreatDoor

theorem roles_le8 (op : Int) (m : Nat) : ∀ x ∈ (rolesP op m).1, x ≤ 8 := by
  intro x hx
  by_cases hk : (1 ≤ op ∧ op ≤ 29) ∨ (40 ≤ op ∧ op ≤ 52)
  · have hk2 : op = 1 ∨ op = 2 ∨ op = 3 ∨ op = 4 ∨ (5 ≤ op ∧ op ≤ 18) ∨ op = 19 ∨ op = 20 ∨ op = 21 ∨ op = 22 ∨ op = 23 ∨ op = 24 ∨ op = 25 ∨ op = 26 ∨ op = 27 ∨ op = 28 ∨ op = 29 ∨ op = 40 ∨ op = 41 ∨ op = 42 ∨ op = 43 ∨ op = 44 ∨ op = 45 ∨ op = 46 ∨ op = 47 ∨ op = 48 ∨ op = 49 ∨ op = 50 ∨ op = 51 ∨ op = 52 := by omega
    rcases hk2 with rfl | rfl | rfl | rfl | hb | rfl | rfl | rfl | rfl | rfl | rfl | rfl | rfl | rfl | rfl | rfl | rfl | rfl | rfl | rfl | rfl | rfl | rfl | rfl | rfl | rfl | rfl | rfl | rfl
    · have e : x ∈ ([] : List Nat) := hx
      simp at e
    · have e : x ∈ ([] : List Nat) := hx
      simp at e
    · have e : x ∈ ([0] : List Nat) := hx
      simp at e; omega
    · have e : x ∈ ([0] : List Nat) := hx
      simp at e; omega
    · have e : (rolesP op m).1 = [0, 0] := by unfold rolesP; rw [if_neg (by omega), if_neg (by omega), if_pos (by omega)]
      rw [e] at hx
      simp at hx; omega
    · have e : x ∈ ([0, 0, 0] : List Nat) := hx
      simp at e; omega
    · have e : x ∈ ([0, 0] : List Nat) := hx
      simp at e; omega
    · have e : x ∈ ([0, 0, 0] : List Nat) := hx
      simp at e; omega
    · have e : x ∈ ([0, 0] : List Nat) := hx
      simp at e; omega
    · have e : x ∈ [0, 0] ++ List.replicate (m - 2) 1 := hx
      simp only [List.mem_append, List.mem_replicate, List.mem_cons, List.not_mem_nil, or_false] at e; omega
    · have e : x ∈ List.replicate m 1 := hx
      rw [List.mem_replicate] at e; omega
    · have e : x ∈ List.replicate m 1 := hx
      rw [List.mem_replicate] at e; omega
    · have e : x ∈ ([0] : List Nat) := hx
      simp at e; omega
    · have e : x ∈ ([2, 0] : List Nat) := hx
      simp at e; omega
    · have e : x ∈ (List.replicate (m - 2) 3 ++ (if 1 < m then [4] else [])) ++ [0] := hx
      split at e <;> simp only [List.mem_append, List.mem_replicate, List.mem_cons, List.not_mem_nil, or_false] at e <;> omega
    · have e : x ∈ [0, 5, 0].take (Nat.min m 3) := hx
      have e := List.mem_of_mem_take e
      simp at e; omega
    · have e : x ∈ ([0] : List Nat) := hx
      simp at e; omega
    · have e : x ∈ (List.range m).map (fun i => if m % 2 = 1 ∧ i = m - 1 then 6 else if i % 2 = 0 then 0 else 6) := hx
      rw [List.mem_map] at e
      obtain ⟨a, _, rfl⟩ := e
      split
      · omega
      · split <;> omega
    · have e : x ∈ ([0, 6] : List Nat) := hx
      simp at e; omega
    · have e : x ∈ ([0, 0, 6] : List Nat) := hx
      simp at e; omega
    · have e : x ∈ ([0, 6] : List Nat) := hx
      simp at e; omega
    · have e : x ∈ ([] : List Nat) := hx
      simp at e
    · have e : x ∈ ([] : List Nat) := hx
      simp at e
    · have e : x ∈ List.replicate m 0 := hx
      rw [List.mem_replicate] at e; omega
    · have e : x ∈ ([0, 6] : List Nat) := hx
      simp at e; omega
    · have e : x ∈ [6] ++ List.replicate (m - 1) 8 := hx
      simp only [List.mem_append, List.mem_replicate, List.mem_cons, List.not_mem_nil, or_false] at e; omega
    · have e : x ∈ ([5, 6] : List Nat) := hx
      simp at e; omega
    · have e : x ∈ ([6, 6] : List Nat) := hx
      simp at e; omega
    · have e : x ∈ List.replicate m 7 := hx
      rw [List.mem_replicate] at e; omega
  · have e : (rolesP op m).1 = [] := by
      unfold rolesP
      iterate 17 rw [if_neg (by omega)]
    rw [e] at hx; cases hx
theorem sub_role_le8 (op : Int) (m role : Nat) (loop : Bool) (j : Nat) : (subRole op m role loop j).1 ≤ 8 := by
  have h1 : (rolesP op m).1.getD j 0 ≤ 8 := by
    rw [List.getD_eq_getElem?_getD]
    cases e : (rolesP op m).1[j]? with
    | none => exact Nat.zero_le _
    | some x => exact roles_le8 op m x (List.mem_of_getElem? e)
  unfold subRole
  simp only
  split
  · omega
  · split
    · omega
    · split
      · omega
      · exact h1
end Go.Proofs.YtggngahmafbihaaGreatDoor
namespace Go.Proofs.YtggngahmafbihaaGreatDoor
open Go.RowKit Go.Lib
set_option linter.unusedVariables false

def CountC (N : Nat) : Prop := ∀ (l : NL) (A : Option Addr) (c : Nat) (n : Int) (w : World), l.tot < N → l.fit → l.len ≤ 140737488351232 → l.len ≤ c → RpN w (fun b => b < w.heap.size) l A → 0 ≤ n → n ≤ 4096 →
  Calls Tryz.prog 103 #[.slice A l.len c, .int .i64 n] w fun e w' => e = .returned (.int .i64 (countN l n)) ∧ Below w.heap.size w w'

set_option maxRecDepth 100000 in
set_option maxHeartbeats 1000000 in
theorem count_step (N : Nat) (ih : ∀ N', N' < N → CountC N') : CountC N := by
  intro l A c n w hN hfit hlen hc hrep hn0 hn1
  have HRP := Lib.hid hrep
  clear hrep
  go_enter Tryz.func103, Tryz.ntmps103
  go_wp2_with fail
  go_loopg [1, 9] l.len (fun kk m v wr => ∃ (i : Nat) (x : Int), m = .int .i64 x ∧ v = .int .i64 i ∧ i + kk = l.len ∧ 0 ≤ x ∧ x ≤ 4096 ∧ Below w.heap.size w wr ∧ Hid (countN (l.drop i) x = countN l n))
  case atStart => exact ⟨0, n, rfl, rfl, by omega, hn0, hn1, Below.refl _ _, by show countN (l.drop 0) _ = _; rw [NL.drop]⟩
  case round =>
    obtain ⟨i, x, rfl, rfl, hik, hx0, hx1, hbr, hcn⟩ := hrel
    by_cases hi : i < l.len
    · obtain ⟨g, rfl⟩ : ∃ g, gk = g + 1 := ⟨gk - 1, by omega⟩
      obtain ⟨b, o, op, ln, s, k, nn, t, v, sub, va, vc, sa, sc, hA, hSb, hd, c0, c1, c2, c3, c4, c5, c6, hvc, hv, c7, hsc, hs⟩ := (HRP.out.below hbr (fun b hb => hb)).nth hi
      have hfd := NL.fit_drop i l hfit
      have htd := NL.tot_drop i l
      rw [hd] at hfd htd
      simp only [NL.tot] at htd
      obtain ⟨-, -, -, -, hf5, hf6, -⟩ := hfd
      obtain ⟨wx, hwx⟩ : ∃ wx, wx = wr.alloc (.cells #[.int .i64 op, .int .i64 ln, .string s, .int .i64 k, .int .i64 nn, .string t, .slice va v.len vc, .slice sa sub.len sc] 31) := ⟨_, rfl⟩
      have hbx : Below wr.heap.size wr wx := by rw [hwx]; exact (Below.refl _ _).alloc (Nat.le_refl _) _
      have hnb : NdB wx wr.heap.size (.int .i64 op) (.int .i64 ln) (.string s) (.int .i64 k) (.int .i64 nn) (.string t) (.slice va v.len vc) (.slice sa sub.len sc) := by rw [hwx]; exact NdB.new _ _ _ _ _ _ _ _ _
      have y7 := hnb.c7
      rw [hwx] at y7
      have HST := Lib.hid hcn
      rw [hd, countN] at HST
      have HBR := Lib.hid (hbr.trans (below_le' hbx hbr.size))
      have HW := Lib.hid hwx
      subst hA
      by_cases hm : (4096 : Int) < x + 1
      · have hdd : decide (x + 1 > 4096) = true := by simp; omega
        rw [if_pos hm] at HST
        clear hbr hcn hs hv hwx hbx hnb
        go_wp2_with fail
        rw [← HW.out]
        go_ret
        exact ⟨ret_val (by rw [← HST.out]; rfl), HBR.out⟩
      · rw [if_neg hm] at HST
        have hr := countN_range sub (x + 1) (by omega) (by omega)
        have IHC := Lib.hid (ih (sub.tot + 1) (by omega) sub sa sc (x + 1) wx (by omega) hf6 hf5 hsc (hs.keep (fun b hb => hbx.block b (by have := hbr.size; omega)) (fun b hb => by have := hbr.size; have := hbx.size; omega)) (by omega) (by omega))
        obtain ⟨r, hrr⟩ : ∃ r, r = countN sub (x + 1) := ⟨_, rfl⟩
        rw [← hrr] at IHC HST hr
        clear hbr hcn hs hv hwx hbx hnb hrr
        go_wp2_with fail
        rw [← HW.out]
        refine IHC.out.mono ?_
        rintro e w2 ⟨rfl, hb2⟩
        have HB2 := Lib.hid (HBR.out.trans (below_le' hb2 HBR.out.size))
        clear hb2 y7 c0 c1 c2 c3 c4 c5 c6 c7
        by_cases hm2 : (4096 : Int) < r
        · rw [if_pos hm2] at HST
          go_wp2_with fail
          go_ret
          exact ⟨ret_val (by rw [← HST.out]; rfl), HB2.out⟩
        · rw [if_neg hm2] at HST
          go_wp2_with fail
          go_roundg g
          case measure => omega
          case rel => exact ⟨i + 1, r, rfl, by go_num, by omega, hr.1, by omega, HB2.out, HST.out⟩
    · obtain rfl : i = l.len := by omega
      rw [NL.drop_len] at hcn
      have HN := Lib.hid hcn
      have HBR := Lib.hid hbr
      clear hcn hbr
      go_wp2_with fail
      go_ret
      exact ⟨ret_val (by rw [← HN.out]; rfl), HBR.out⟩

theorem count_c (N : Nat) : CountC N := by
  induction N using Nat.strongRecOn with
  | _ N ih => exact count_step N ih

/-- How deep the first so many are. -/
theorem deep_take_succ {i : Nat} {l : NL} {op ln : Int} {s : ByteArray} {k n : Int} {t : ByteArray} {v : VL} {sub : NL} (hd : l.drop i = .cons op ln s k n t v sub (l.drop (i + 1))) : (l.take (i + 1)).deep = Nat.max (l.take i).deep (1 + sub.deep) := by
  rw [NL.take_succ i l op ln s k n t v sub hd, NL.deep_app]
  simp only [NL.deep]
  congr 1
  exact Nat.max_eq_left (Nat.zero_le _)
def DeepC (N : Nat) : Prop := ∀ (l : NL) (A : Option Addr) (c : Nat) (w : World), l.tot < N → l.tot ≤ 4096 → l.fit → l.len ≤ 140737488351232 → l.len ≤ c → RpN w (fun b => b < w.heap.size) l A →
  Calls Tryz.prog 104 #[.slice A l.len c] w fun e w' => e = .returned (.int .i64 l.deep) ∧ Below w.heap.size w w'

set_option maxRecDepth 100000 in
set_option maxHeartbeats 1000000 in
theorem deep_step (N : Nat) (ih : ∀ N', N' < N → DeepC N') : DeepC N := by
  intro l A c w hN h4 hfit hlen hc hrep
  have HRP := Lib.hid hrep
  clear hrep
  go_enter Tryz.func104, Tryz.ntmps104
  go_wp2_with fail
  go_loopg [3, 8] l.len (fun kk m v wr => ∃ (i : Nat) (x : Nat), m = .int .i64 x ∧ v = .int .i64 i ∧ i + kk = l.len ∧ x ≤ 4096 ∧ Below w.heap.size w wr ∧ Hid (x = (l.take i).deep))
  case atStart => exact ⟨0, 0, rfl, rfl, by omega, by omega, Below.refl _ _, by show 0 = (l.take 0).deep; rw [NL.take]; rfl⟩
  case round =>
    obtain ⟨i, x, rfl, rfl, hik, hx1, hbr, hcn⟩ := hrel
    by_cases hi : i < l.len
    · obtain ⟨g, rfl⟩ : ∃ g, gk = g + 1 := ⟨gk - 1, by omega⟩
      obtain ⟨b, o, op, ln, s, k, nn, t, v, sub, va, vc, sa, sc, hA, hSb, hd, c0, c1, c2, c3, c4, c5, c6, hvc, hv, c7, hsc, hs⟩ := (HRP.out.below hbr (fun b hb => hb)).nth hi
      have hfd := NL.fit_drop i l hfit
      have htd := NL.tot_drop i l
      rw [hd] at hfd htd
      simp only [NL.tot] at htd
      obtain ⟨-, -, -, -, hf5, hf6, -⟩ := hfd
      obtain ⟨wx, hwx⟩ : ∃ wx, wx = wr.alloc (.cells #[.int .i64 op, .int .i64 ln, .string s, .int .i64 k, .int .i64 nn, .string t, .slice va v.len vc, .slice sa sub.len sc] 31) := ⟨_, rfl⟩
      have hbx : Below wr.heap.size wr wx := by rw [hwx]; exact (Below.refl _ _).alloc (Nat.le_refl _) _
      have hnb : NdB wx wr.heap.size (.int .i64 op) (.int .i64 ln) (.string s) (.int .i64 k) (.int .i64 nn) (.string t) (.slice va v.len vc) (.slice sa sub.len sc) := by rw [hwx]; exact NdB.new _ _ _ _ _ _ _ _ _
      have y7 := hnb.c7
      rw [hwx] at y7
      have HST := Lib.hid (deep_take_succ hd)
      have hds := NL.deep_tot sub
      have HBR := Lib.hid (hbr.trans (below_le' hbx hbr.size))
      have HW := Lib.hid hwx
      have IHC := Lib.hid (ih (sub.tot + 1) (by omega) sub sa sc wx (by omega) (by omega) hf6 hf5 hsc (hs.keep (fun b hb => hbx.block b (by have := hbr.size; omega)) (fun b hb => by have := hbr.size; have := hbx.size; omega)))
      obtain ⟨d, hdd⟩ : ∃ d, d = sub.deep := ⟨_, rfl⟩
      rw [← hdd] at IHC HST hds
      have HX := Lib.hid hcn
      subst hA
      clear hbr hcn hs hv hwx hbx hnb hdd
      have e1 : IntKind.i64.wrap (1 + (d : Int)) = 1 + (d : Int) := IntWalk.i64_in _ (by omega)
      go_wp2_with fail
      rw [← HW.out]
      refine IHC.out.mono ?_
      rintro e w2 ⟨rfl, hb2⟩
      have HB2 := Lib.hid (HBR.out.trans (below_le' hb2 HBR.out.size))
      clear hb2 y7 c0 c1 c2 c3 c4 c5 c6 c7
      by_cases hm2 : x < 1 + d
      · have q1 : (x : Int) < 1 + (d : Int) := by omega
        go_wp2_with fail
        go_roundg g
        case measure => omega
        case rel => exact ⟨i + 1, 1 + d, by go_num, by go_num, by omega, by omega, HB2.out, by show 1 + d = _; rw [HST.out, ← HX.out]; exact (Nat.max_eq_right (by omega)).symm⟩
      · have q1 : 1 + (d : Int) ≤ (x : Int) := by omega
        go_wp2_with fail
        go_roundg g
        case measure => omega
        case rel => exact ⟨i + 1, x, by go_num, by go_num, by omega, hx1, HB2.out, by show x = _; rw [HST.out, ← HX.out]; exact (Nat.max_eq_left (by omega)).symm⟩
    · obtain rfl : i = l.len := by omega
      rw [NL.take_len] at hcn
      have HN := Lib.hid hcn
      have HBR := Lib.hid hbr
      clear hcn hbr
      go_wp2_with fail
      go_ret
      exact ⟨ret_val (by rw [← HN.out.out]; rfl), HBR.out⟩

theorem deep_c (N : Nat) : DeepC N := by
  induction N using Nat.strongRecOn with
  | _ N ih => exact deep_step N ih
end Go.Proofs.YtggngahmafbihaaGreatDoor
