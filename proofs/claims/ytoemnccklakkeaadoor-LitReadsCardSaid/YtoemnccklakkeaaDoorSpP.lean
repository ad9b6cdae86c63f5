/-
  LitSpoilt, plain: what is said is of printable signs; what is read has numbers of 64 bits.
-/
import Derived.Test.YtoemnccklakkeaaDoorBkC
import Derived.Test.YtoemnccklakkeaaDoorSmA
import Derived.Test.YtoemnccklakkeaaDoorNbW
namespace Go.Proofs.YtoemnccklakkeaaDoor
open Go.RowKit Go.Lib
set_option linter.unusedVariables false

theorem prB_app {a b : List UInt8} (h1 : prB a = true) (h2 : prB b = true) : prB (a ++ b) = true := by unfold prB at h1 h2 ⊢; rw [List.all_append, h1, h2]; rfl
theorem prB_cons {c : UInt8} {b : List UInt8} (h1 : prC c = true) (h2 : prB b = true) : prB (c :: b) = true := by unfold prB at h2 ⊢; rw [List.all_cons, h1, h2]; rfl
theorem prB_digits {l : List UInt8} (h : ∀ c ∈ l, isDg c = true) : prB l = true := by
  unfold prB
  rw [List.all_eq_true]
  intro c hc
  have := isDg_iff.1 (h c hc)
  exact decide_eq_true (by omega)
theorem itoa_print (v : Int) : prB (itoa v) = true := by
  by_cases hv : v < 0
  · obtain ⟨u, rfl⟩ : ∃ u : Nat, v = -(u : Int) := ⟨v.natAbs, by omega⟩
    rw [itoa_neg u (by omega)]
    exact prB_cons (by decide) (prB_digits (canon_dec u).1.2.1)
  · obtain ⟨u, rfl⟩ : ∃ u : Nat, v = (u : Int) := ⟨v.toNat, by omega⟩
    rw [itoa_nonneg]
    exact prB_digits (canon_dec u).1.2.1
theorem escL_print : ∀ l : List UInt8, prB l = true → prB (escL l) = true
  | [], _ => rfl
  | c :: r, h => by
    have hc : prC c = true ∧ prB r = true := by unfold prB at h ⊢; rw [List.all_cons, Bool.and_eq_true] at h; exact h
    rw [escL]
    split
    · exact prB_cons (by decide) (prB_cons hc.1 (escL_print r hc.2))
    · exact prB_cons hc.1 (escL_print r hc.2)
theorem nm_print : ∀ c : Fin 15, prB (nmAt c.val).data.toList = true := by decide +kernel
theorem join_print (l : List (List UInt8)) (h : ∀ x ∈ l, prB x = true) : prB (join l [44, 32]) = true := by
  cases l with
  | nil => rfl
  | cons a t =>
    rw [join_cons]
    refine prB_app (h a (by simp)) ?_
    have : ∀ t : List (List UInt8), (∀ x ∈ t, prB x = true) → prB (joinTail [44, 32] t) = true := by
      intro t
      induction t with
      | nil => intro _; rfl
      | cons x r ih =>
        intro h
        have e : joinTail [44, 32] (x :: r) = [44, 32] ++ x ++ joinTail [44, 32] r := by simp [joinTail]
        rw [e]
        exact prB_app (prB_app (by decide) (h x (by simp))) (ih (fun y hy => h y (by simp [hy])))
    exact this t (fun x hx => h x (by simp [hx]))
theorem txt1_print {k n : Int} {s : ByteArray} {len : Nat} {l : List (List UInt8)} (h : ownE k n s len = 0) (hl : ∀ x ∈ l, prB x = true) : prB (txt1 k n s l) = true := by
  rcases own_ok h with ⟨rfl, _⟩ | ⟨rfl, _⟩ | ⟨rfl, _, _, hp⟩ | ⟨rfl, h0, h1, _⟩ | ⟨rfl, _⟩
  · exact itoa_print n
  · exact prB_cons (by decide) (itoa_print n)
  · exact prB_cons (by decide) (prB_app (escL_print _ hp) (by decide))
  · obtain ⟨j, rfl⟩ : ∃ j : Nat, n = j := ⟨n.toNat, by omega⟩
    have hj : j < 15 := by omega
    show prB (nmS (j : Int)).data.toList = true
    rw [nmS_at j hj]
    exact nm_print ⟨j, hj⟩
  · exact prB_cons (by decide) (prB_app (join_print l hl) (by decide))
theorem txtL_print : ∀ (l : VL) (d : Int), OkL l d → ∀ x ∈ txtL l, prB x = true
  | .nil, _, _, x, hx => by cases hx
  | .cons k n s sub rest, d, h, x, hx => by
    rw [txtL] at hx
    rcases List.mem_cons.1 hx with rfl | hx
    · exact txt1_print h.1 (txtL_print sub (d + 1) h.2.2.1)
    · exact txtL_print rest d h.2.2.2 x hx

theorem numLoop_range (s : ByteArray) (low high : Int) (neg : Bool) (lim : Int) (hl : lim ≤ 9223372036854775808) (hn : neg = false → high ≤ lim) : ∀ (f i : Nat) (a j : Nat) (v : Int), (a : Int) ≤ lim → numLoop s low high neg f i (-(a : Int)) = (j, true, v) → (neg = true → lim = 9223372036854775808) → v ≤ 0 ∧ -lim ≤ v
  | 0, i, a, j, v, ha, h, _ => by
    unfold numLoop at h
    simp only [Prod.mk.injEq, true_and] at h
    omega
  | f + 1, i, a, j, v, ha, h, hng => by
    cases hd : digB (pk s i) with
    | false =>
      rw [numLoop_end _ _ _ _ _ _ _ hd] at h
      simp only [Prod.mk.injEq, true_and] at h
      omega
    | true =>
      have hr := digB_range hd
      have hg1 := dg1_eq (pk s i)
      by_cases hg : -(a : Int) < -922337203685477580 ∨ 10 * -(a : Int) < -9223372036854775808 + ((pk s i).toNat - 48 : Int) ∨ (neg = true ∧ 10 * -(a : Int) - ((pk s i).toNat - 48 : Int) < low) ∨ (neg = false ∧ 10 * -(a : Int) - ((pk s i).toNat - 48 : Int) < -high)
      · rw [numLoop_bad _ _ _ _ _ _ _ hd hg] at h
        simp at h
      · rw [numLoop_step _ _ _ _ _ _ _ hd hg, show 10 * -(a : Int) - (((pk s i).toNat : Int) - 48) = -((a * 10 + dg1 (pk s i) : Nat) : Int) by omega] at h
        refine numLoop_range s low high neg lim hl hn f (i + 1) _ j v ?_ h hng
        cases neg with
        | true => have := hng rfl; omega
        | false => have := hn rfl; simp only [true_and] at hg; omega
theorem numSp_range {s : ByteArray} {low high : Int} {i j : Nat} {v : Int} (hh : 0 ≤ high ∧ high ≤ 9223372036854775807) (h : numSp s low high i = (j, true, v)) : -9223372036854775808 ≤ v ∧ v ≤ 9223372036854775807 := by
  unfold numSp at h
  by_cases h45 : pk s i = 45
  · rw [if_pos h45] at h
    split at h
    · simp at h
    · have := numLoop_range s low high true 9223372036854775808 (by omega) (fun h => by cases h) (s.size + 1) (i + 1) 0 j v (by omega) h (fun _ => rfl)
      omega
  · rw [if_neg h45] at h
    split at h
    · simp only [Prod.mk.injEq, true_and] at h; omega
    · split at h
      · simp at h
      · obtain ⟨q, hq⟩ : ∃ q, q = numLoop s low high false (s.size + 1) i 0 := ⟨_, rfl⟩
        rw [← hq] at h
        obtain ⟨j', ok, v'⟩ := q
        unfold negR at h
        simp only [Prod.mk.injEq] at h
        obtain ⟨rfl, rfl, rfl⟩ := h
        have := numLoop_range s low high false high (by omega) (fun _ => Int.le_refl _) (s.size + 1) i 0 j' v' (by omega) hq.symm (fun h => by cases h)
        rw [if_pos rfl]; omega
theorem i64_app : ∀ a b : VL, a.i64 → b.i64 → (a.app b).i64
  | .nil, b, _, h => h
  | .cons _ _ _ _ r, b, h, h2 => ⟨h.1, h.2.1, h.2.2.1, i64_app r b h.2.2.2 h2⟩
mutual
theorem valSp_i64 (s : ByteArray) : ∀ (f i : Nat), (valSp s f i).2.1 = true → (valSp s f i).2.2.i64
  | 0, i, h => by rw [valSp] at h; cases h
  | f + 1, i, h => by
    rw [valSp] at h ⊢
    by_cases h35 : pk s i = 35
    · rw [if_pos h35] at h ⊢
      have := numSp_range (s := s) (low := -2147483648) (high := 2147483647) (i := i + 1) (j := (numSp s (-2147483648) 2147483647 (i + 1)).1) (v := (numSp s (-2147483648) 2147483647 (i + 1)).2.2) (by omega) (Prod.ext rfl (Prod.ext h rfl))
      exact ⟨this.1, this.2, trivial, trivial⟩
    rw [if_neg h35] at h ⊢
    by_cases hn : pk s i = 45 ∨ digB (pk s i) = true
    · rw [if_pos hn] at h ⊢
      have := numSp_range (s := s) (low := -9223372036854775808) (high := 9223372036854775807) (i := i) (j := (numSp s (-9223372036854775808) 9223372036854775807 i).1) (v := (numSp s (-9223372036854775808) 9223372036854775807 i).2.2) (by omega) (Prod.ext rfl (Prod.ext h rfl))
      exact ⟨this.1, this.2, trivial, trivial⟩
    rw [if_neg hn] at h ⊢
    by_cases h34 : pk s i = 34
    · rw [if_pos h34]; exact ⟨by decide, by decide, trivial, trivial⟩
    rw [if_neg h34] at h ⊢
    by_cases h123 : pk s i = 123
    · rw [if_pos h123] at h ⊢
      by_cases h125 : pk s (i + 1) = 125
      · rw [if_pos h125]; exact ⟨by decide, by decide, trivial, trivial⟩
      · rw [if_neg h125] at h ⊢
        exact ⟨by decide, by decide, lstSp_i64 s f (i + 1) .nil trivial h, trivial⟩
    · rw [if_neg h123] at h ⊢
      have := (codeSp_inv (s := s) (i := i) (j := (codeSp s i).1) (c := (codeSp s i).2.2) (Prod.ext rfl (Prod.ext h rfl))).2
      exact ⟨by omega, by omega, trivial, trivial⟩
theorem lstSp_i64 (s : ByteArray) : ∀ (f i : Nat) (acc : VL), acc.i64 → (lstSp s f i acc).2.1 = true → (lstSp s f i acc).2.2.i64
  | 0, i, acc, _, h => by rw [lstSp] at h; cases h
  | f + 1, i, acc, ha, h => by
    rw [lstSp] at h ⊢
    by_cases hok : (valSp s f i).2.1 = false
    · rw [if_pos hok] at h; cases h
    rw [if_neg hok] at h ⊢
    have hv := i64_app acc _ ha (valSp_i64 s f i (by simpa using hok))
    by_cases h44 : pk s (valSp s f i).1 = 44
    · rw [if_pos h44] at h ⊢
      by_cases h32 : pk s ((valSp s f i).1 + 1) = 32
      · rw [if_pos h32] at h ⊢
        exact lstSp_i64 s f _ _ hv h
      · rw [if_neg h32] at h; cases h
    · rw [if_neg h44] at h ⊢
      by_cases h125 : pk s (valSp s f i).1 = 125
      · rw [if_pos h125]; exact hv
      · rw [if_neg h125] at h; cases h
end

/-- A text with a sign that is none is not read. -/
theorem read_sign {ea : Nat → Addr} {s : ByteArray} {w w' : World} {e : Ending} (h1 : (1 : UInt8) ∈ s.data.toList) (h : RdOut ea s w e w') :
    ∃ (k n : Int) (t : ByteArray) (A : Option Addr) (L C : Nat) (T : TypeId) (V : Value), e = .returned (.tuple #[.agg #[.int .i64 k, .int .i64 n, .string t, .slice A L C], .iface T V]) ∧ Below w.heap.size w w' := by
  obtain ⟨hb, ⟨hbad, A, _, _, rfl⟩ | ⟨hgood, k, n, t, sub, hv, ⟨hne, rfl⟩ | ⟨h0, sa, sc, _, _, rfl⟩⟩⟩ := h
  · exact ⟨_, _, _, _, _, _, _, _, rfl, hb⟩
  · exact ⟨_, _, _, _, _, _, _, _, by unfold errV; rw [if_neg hne], hb⟩
  · exfalso
    have ht := rdV_inv hgood hv
    have hok := walk1_ok h0
    have hp := txt1_print (OkL_one hok).1 (txtL_print sub _ (OkL_one hok).2)
    rw [← ht] at hp
    unfold prB at hp
    rw [List.all_eq_true] at hp
    exact absurd (hp 1 h1) (by decide)
/-- What is read, opened: an error, or the value whose text it is. -/
theorem read_text {ea : Nat → Addr} {s : ByteArray} {w w' : World} {e : Ending} (hs : s.size ≤ 1000000000) (h : RdOut ea s w e w') :
    Below w.heap.size w w' ∧ ((∃ (k n : Int) (t : ByteArray) (A : Option Addr) (L C : Nat) (ev : Value), e = .returned (.tuple #[.agg #[.int .i64 k, .int .i64 n, .string t, .slice A L C], ev]) ∧ (∃ p : Addr, ev = .iface 66 (.pointer (some p)) ∨ ev = .iface 142 (.pointer (some p)))) ∨
      ∃ (k n : Int) (t : ByteArray) (sub : VL) (sa : Option Addr) (sc : Nat), e = .returned (.tuple #[.agg #[.int .i64 k, .int .i64 n, .string t, .slice sa sub.len sc], .nilIface]) ∧ sub.len ≤ sc ∧ RpL w' (fun b => w.heap.size ≤ b ∧ b < w'.heap.size) sub sa ∧
        (walk1 k n t sub 1 4096).1 = 0 ∧ s.data.toList = txt1 k n t (txtL sub) ∧ (val1 k n t sub).fit ∧ (val1 k n t sub).i64) := by
  obtain ⟨hb, ⟨hbad, A, _, _, rfl⟩ | ⟨hgood, k, n, t, sub, hv, ⟨hne, rfl⟩ | ⟨h0, sa, sc, hsc, hrep, rfl⟩⟩⟩ := h
  · exact ⟨hb, .inl ⟨_, _, _, _, _, _, _, rfl, _, .inl rfl⟩⟩
  · exact ⟨hb, .inl ⟨_, _, _, _, _, _, _, rfl, ea (walk1 k n t sub 1 4096).1, .inr (by unfold errV; rw [if_neg hne])⟩⟩
  · have hg : (rdV s).2.1 = true ∧ s.size ≤ (rdV s).1 := Classical.not_not.1 hgood
    have hfit := valSp_fit s hs (2 * s.size + 2) 0 (Nat.zero_le _)
    have h64 := valSp_i64 s (2 * s.size + 2) 0 hg.1
    rw [show (valSp s (2 * s.size + 2) 0).2.2 = val1 k n t sub from hv] at hfit h64
    exact ⟨hb, .inr ⟨k, n, t, sub, sa, sc, rfl, hsc, hrep, h0, rdV_inv hgood hv, hfit, h64⟩⟩
end Go.Proofs.YtoemnccklakkeaaDoor
