/-
  What was read is just the text of what it is read as: plain.
-/
import Derived.Test.YtoemnccklakkeaaDoorBkB
namespace Go.Proofs.YtoemnccklakkeaaDoor
open Go.RowKit Go.Lib
set_option linter.unusedVariables false

theorem drop_pk {s : ByteArray} {i : Nat} (h : i < s.size) : s.data.toList.drop i = pk s i :: s.data.toList.drop (i + 1) := by
  have hl : i < s.data.toList.length := by rw [Array.length_toList]; exact h
  rw [List.drop_eq_getElem_cons hl]
  unfold pk
  rw [List.getD_eq_getElem?_getD, List.getElem?_eq_getElem hl]; rfl

theorem numLoop_inv (s : ByteArray) (low high : Int) (neg : Bool) : ∀ (f i a j : Nat) (v : Int), numLoop s low high neg f i (-(a : Int)) = (j, true, v) →
    ∃ l : List UInt8, (∀ c ∈ l, isDg c = true) ∧ s.data.toList.drop i = l ++ s.data.toList.drop j ∧ v = -(dval a l : Int) ∧ j = i + l.length ∧ (digB (pk s i) = true → 0 < f → l ≠ [])
  | 0, i, a, j, v, h => by
    unfold numLoop at h
    simp only [Prod.mk.injEq, true_and] at h
    obtain ⟨rfl, rfl⟩ := h
    exact ⟨[], by simp, rfl, by rw [dval_nil], rfl, fun _ h => absurd h (Nat.lt_irrefl _)⟩
  | f + 1, i, a, j, v, h => by
    cases hd : digB (pk s i) with
    | false =>
      rw [numLoop_end _ _ _ _ _ _ _ hd] at h
      simp only [Prod.mk.injEq, true_and] at h
      obtain ⟨rfl, rfl⟩ := h
      exact ⟨[], by simp, rfl, by rw [dval_nil], rfl, fun h => by cases h⟩
    | true =>
      have hi := digB_in hd
      have hr := digB_range hd
      have hg1 := dg1_eq (pk s i)
      by_cases hg : -(a : Int) < -922337203685477580 ∨ 10 * -(a : Int) < -9223372036854775808 + ((pk s i).toNat - 48 : Int) ∨ (neg = true ∧ 10 * -(a : Int) - ((pk s i).toNat - 48 : Int) < low) ∨ (neg = false ∧ 10 * -(a : Int) - ((pk s i).toNat - 48 : Int) < -high)
      · rw [numLoop_bad _ _ _ _ _ _ _ hd hg] at h
        simp at h
      · rw [numLoop_step _ _ _ _ _ _ _ hd hg, show 10 * -(a : Int) - (((pk s i).toNat : Int) - 48) = -((a * 10 + dg1 (pk s i) : Nat) : Int) by omega] at h
        obtain ⟨l, h1, h2, h3, h4, _⟩ := numLoop_inv s low high neg f (i + 1) _ j v h
        refine ⟨pk s i :: l, ?_, ?_, ?_, ?_, fun _ _ h => by cases h⟩
        · intro c hc
          rcases List.mem_cons.1 hc with rfl | hc
          · rw [← digB_isDg]; exact hd
          · exact h1 c hc
        · rw [drop_pk hi, h2]; rfl
        · rw [dval_cons]; exact h3
        · rw [List.length_cons]; omega

theorem numSp_inv {s : ByteArray} {low high : Int} {i j : Nat} {v : Int} (h : numSp s low high i = (j, true, v)) : s.data.toList.drop i = itoa v ++ s.data.toList.drop j := by
  unfold numSp at h
  by_cases h45 : pk s i = 45
  · rw [if_pos h45] at h
    by_cases hb : digB (pk s (i + 1)) = false ∨ pk s (i + 1) = 48
    · rw [if_pos hb] at h; simp at h
    · rw [if_neg hb] at h
      have hd : digB (pk s (i + 1)) = true := by
        cases hq : digB (pk s (i + 1)) with
        | true => rfl
        | false => exact absurd (.inl hq) hb
      have hi : i < s.size := pk_lt (by rw [h45]; decide)
      obtain ⟨l, h1, h2, h3, h4, h5⟩ := numLoop_inv s low high true (s.size + 1) (i + 1) 0 j v h
      have hne := h5 hd (by omega)
      have hhead : l.head? = some (pk s (i + 1)) := by
        have hi2 := digB_in hd
        rw [drop_pk hi2] at h2
        cases l with
        | nil => exact absurd rfl hne
        | cons c t => injection h2 with h2 _; rw [h2]; rfl
      have hcan : Canon l := ⟨hne, h1, fun e => by rw [hhead] at e; injection e with e; exact absurd (.inr e) hb⟩
      have hpos : 1 ≤ dval 0 l := by
        cases l with
        | nil => exact absurd rfl hne
        | cons c t =>
          have hc := isDg_iff.1 (h1 c (by simp))
          have hc48 : c.toNat ≠ 48 := fun e => by
            have e2 : c = 48 := UInt8.toNat_inj.1 e
            simp only [List.head?_cons, Option.some.injEq] at hhead
            exact hb (.inr (by rw [← hhead, e2]))
          rw [dval_cons, dg1_eq]
          have := dval_ge t (0 * 10 + (c.toNat - 48))
          omega
      rw [drop_pk hi, h45, h2, h3, itoa_neg _ hpos, dec_of_canon _ l rfl hcan]; rfl
  · rw [if_neg h45] at h
    by_cases h48 : pk s i = 48
    · rw [if_pos h48] at h
      simp only [Prod.mk.injEq, true_and] at h
      obtain ⟨rfl, rfl⟩ := h
      have hi : i < s.size := pk_lt (by rw [h48]; decide)
      rw [drop_pk hi, h48, show itoa 0 = [48] by rw [show (0 : Int) = ((0 : Nat) : Int) from rfl, itoa_nonneg, decDigits_one (by omega)]; rfl]; rfl
    · rw [if_neg h48] at h
      by_cases hdd : digB (pk s i) = false
      · rw [if_pos hdd] at h; simp at h
      · rw [if_neg hdd] at h
        have hd : digB (pk s i) = true := by simpa using hdd
        obtain ⟨q, hq⟩ : ∃ q, q = numLoop s low high false (s.size + 1) i 0 := ⟨_, rfl⟩
        rw [← hq] at h
        obtain ⟨j', ok, v'⟩ := q
        unfold negR at h
        simp only [Prod.mk.injEq] at h
        obtain ⟨rfl, rfl, rfl⟩ := h
        obtain ⟨l, h1, h2, h3, h4, h5⟩ := numLoop_inv s low high false (s.size + 1) i 0 j' v' hq.symm
        have hne := h5 hd (by omega)
        have hhead : l.head? = some (pk s i) := by
          have hi2 := digB_in hd
          rw [drop_pk hi2] at h2
          cases l with
          | nil => exact absurd rfl hne
          | cons c t => injection h2 with h2 _; rw [h2]; rfl
        have hcan : Canon l := ⟨hne, h1, fun e => by rw [hhead] at e; injection e with e; exact absurd e h48⟩
        rw [if_pos rfl, h2, h3, Int.neg_neg, itoa_nonneg, dec_of_canon _ l rfl hcan]

theorem strLoop_inv (s : ByteArray) : ∀ (f i : Nat) (acc : List UInt8) (j : Nat) (l' : List UInt8), strLoop s f i acc = (j, true, l') → ∃ l, l' = acc ++ l ∧ prB l = true ∧ s.data.toList.drop i = escL l ++ s.data.toList.drop j
  | 0, i, acc, j, l', h => by
    unfold strLoop at h
    simp only [Prod.mk.injEq, true_and] at h
    obtain ⟨rfl, rfl⟩ := h
    exact ⟨[], by simp, rfl, rfl⟩
  | f + 1, i, acc, j, l', h => by
    by_cases h34 : pk s i = 34
    · rw [strLoop_end _ _ _ _ h34] at h
      simp only [Prod.mk.injEq, true_and] at h
      obtain ⟨rfl, rfl⟩ := h
      exact ⟨[], by simp, rfl, rfl⟩
    by_cases h92 : pk s i = 92
    · by_cases hy : pk s (i + 1) = 34 ∨ pk s (i + 1) = 92
      · rw [strLoop_esc _ _ _ _ h92 hy] at h
        obtain ⟨l, h1, h2, h3⟩ := strLoop_inv s f (i + 2) _ j l' h
        have hi : i < s.size := pk_lt (by rw [h92]; decide)
        have hi2 : i + 1 < s.size := pk_lt (by rcases hy with e | e <;> rw [e] <;> decide)
        refine ⟨pk s (i + 1) :: l, by rw [h1, List.append_assoc]; rfl, ?_, ?_⟩
        · unfold prB at h2 ⊢
          rw [List.all_cons, h2, Bool.and_true]
          rcases hy with e | e <;> rw [e] <;> decide
        · rw [drop_pk hi, drop_pk hi2, h92, h3, escL, if_pos hy]; rfl
      · rw [strLoop_esc_bad _ _ _ _ h92 hy] at h; simp at h
    cases hp : prC (pk s i) with
    | false => rw [strLoop_bad _ _ _ _ h34 h92 hp] at h; simp at h
    | true =>
      rw [strLoop_next _ _ _ _ h34 h92 hp] at h
      obtain ⟨l, h1, h2, h3⟩ := strLoop_inv s f (i + 1) _ j l' h
      have hi : i < s.size := pk_lt (fun e => by rw [e] at hp; exact absurd hp (by decide))
      refine ⟨pk s i :: l, by rw [h1, List.append_assoc]; rfl, ?_, ?_⟩
      · unfold prB at h2 ⊢
        rw [List.all_cons, h2, Bool.and_true]; exact hp
      · rw [drop_pk hi, h3, escL, if_neg (by rintro (e | e); exact h34 e; exact h92 e)]; rfl
theorem strSp_inv {s : ByteArray} {i j : Nat} {l : List UInt8} (hi : i < s.size) (h34 : pk s i = 34) (h : strSp s i = (j, true, l)) : s.data.toList.drop i = quoL l ++ s.data.toList.drop j ∧ prB l = true := by
  unfold strSp at h
  obtain ⟨q, hq⟩ : ∃ q, q = strLoop s (s.size + 1) (i + 1) [] := ⟨_, rfl⟩
  have hpl := (strLoop_place s (s.size + 1) (i + 1) [] (by omega)).2.2 (by omega) (by omega)
  rw [← hq] at h hpl
  obtain ⟨j', ok, l'⟩ := q
  simp only [Prod.mk.injEq] at h
  obtain ⟨h1, rfl, rfl⟩ := h
  rw [if_pos rfl] at h1
  subst h1
  have hend := hpl rfl
  obtain ⟨l2, h2, h3, h4⟩ := strLoop_inv s _ _ _ j' l' hq.symm
  rw [List.nil_append] at h2
  subst h2
  have hj : j' < s.size := pk_lt (by rw [hend]; decide)
  refine ⟨?_, h3⟩
  rw [drop_pk hi, h34, h4, drop_pk hj, hend, quoL]
  simp

theorem codeTo_inv (s : ByteArray) (i : Nat) : ∀ c, c ≤ 15 → (codeTo s i c).2.1 = -1 ∨ ∃ a, a < c ∧ NmAt s i (nmAt a) 0
  | 0, _ => .inl rfl
  | c + 1, h => by
    by_cases hm : NmAt s i (nmAt c) 0
    · exact .inr ⟨c, by omega, hm⟩
    · rcases codeTo_inv s i c (by omega) with h1 | ⟨a, h1, h2⟩
      · left
        rw [codeTo, codeStep, if_neg (fun hc => hm ((cp_iff _ _ _).1 hc.1))]; exact h1
      · exact .inr ⟨a, by omega, h2⟩
theorem drop_nm {s : ByteArray} {i : Nat} {n : ByteArray} (h : NmAt s i n 0) : s.data.toList.drop i = n.data.toList ++ s.data.toList.drop (i + n.size) := by
  have hn : n.data.toList.length = n.size := by rw [Array.length_toList]; rfl
  have hs : s.data.toList.length = s.size := by rw [Array.length_toList]; rfl
  apply List.ext_getElem?
  intro j
  by_cases hj : j < n.size
  · obtain ⟨h1, h2⟩ := h j (Nat.zero_le _) hj
    rw [List.getElem?_append_left (by omega), List.getElem?_drop, List.getElem?_eq_getElem (by omega), List.getElem?_eq_getElem (by omega)]
    unfold pk at h2
    rw [List.getD_eq_getElem?_getD, List.getD_eq_getElem?_getD, List.getElem?_eq_getElem (by omega), List.getElem?_eq_getElem (by omega)] at h2
    exact congrArg some h2
  · rw [List.getElem?_append_right (by omega), List.getElem?_drop, List.getElem?_drop]
    congr 1; omega
theorem codeSp_inv {s : ByteArray} {i j : Nat} {c : Int} (h : codeSp s i = (j, true, c)) : s.data.toList.drop i = (nmS c).data.toList ++ s.data.toList.drop j ∧ 0 ≤ c ∧ c ≤ 14 := by
  rcases codeTo_inv s i 15 (Nat.le_refl _) with h1 | ⟨a, ha, hm⟩
  · unfold codeSp at h
    simp only [h1] at h
    rw [if_pos (by decide)] at h
    simp at h
  · rw [codeSp_of ha hm] at h
    simp only [Prod.mk.injEq, true_and] at h
    obtain ⟨rfl, rfl⟩ := h
    rw [nmS_at a ha]
    exact ⟨drop_nm hm, by omega, by omega⟩

mutual
/-- What was read at a place is just the text of what it is read as. -/
theorem valSp_inv (s : ByteArray) : ∀ (f i j : Nat) (v : VL), valSp s f i = (j, true, v) → ∃ k n t sub, v = val1 k n t sub ∧ s.data.toList.drop i = txt1 k n t (txtL sub) ++ s.data.toList.drop j
  | 0, i, j, v, h => by rw [valSp] at h; simp at h
  | f + 1, i, j, v, h => by
    rw [valSp] at h
    by_cases h35 : pk s i = 35
    · rw [if_pos h35] at h
      simp only [Prod.mk.injEq] at h
      obtain ⟨h1, h2, rfl⟩ := h
      have hi : i < s.size := pk_lt (by rw [h35]; decide)
      have := numSp_inv (s := s) (low := -2147483648) (high := 2147483647) (i := i + 1) (j := j) (v := (numSp s (-2147483648) 2147483647 (i + 1)).2.2) (Prod.ext h1 (Prod.ext h2 rfl))
      exact ⟨_, _, _, _, rfl, by rw [drop_pk hi, h35, this]; rfl⟩
    rw [if_neg h35] at h
    by_cases hn : pk s i = 45 ∨ digB (pk s i) = true
    · rw [if_pos hn] at h
      simp only [Prod.mk.injEq] at h
      obtain ⟨h1, h2, rfl⟩ := h
      have := numSp_inv (s := s) (low := -9223372036854775808) (high := 9223372036854775807) (i := i) (j := j) (v := (numSp s (-9223372036854775808) 9223372036854775807 i).2.2) (Prod.ext h1 (Prod.ext h2 rfl))
      exact ⟨_, _, _, _, rfl, this⟩
    rw [if_neg hn] at h
    by_cases h34 : pk s i = 34
    · rw [if_pos h34] at h
      simp only [Prod.mk.injEq] at h
      obtain ⟨h1, h2, rfl⟩ := h
      have hi : i < s.size := pk_lt (by rw [h34]; decide)
      have := (strSp_inv hi h34 (Prod.ext h1 (Prod.ext h2 rfl))).1
      exact ⟨_, _, _, _, rfl, this⟩
    rw [if_neg h34] at h
    by_cases h123 : pk s i = 123
    · rw [if_pos h123] at h
      have hi : i < s.size := pk_lt (by rw [h123]; decide)
      by_cases h125 : pk s (i + 1) = 125
      · rw [if_pos h125] at h
        simp only [Prod.mk.injEq, true_and] at h
        obtain ⟨rfl, rfl⟩ := h
        have hi2 : i + 1 < s.size := pk_lt (by rw [h125]; decide)
        exact ⟨_, _, _, _, rfl, by rw [drop_pk hi, drop_pk hi2, h123, h125]; rfl⟩
      · rw [if_neg h125] at h
        simp only [Prod.mk.injEq] at h
        obtain ⟨h1, h2, rfl⟩ := h
        obtain ⟨l, h3, h4⟩ := lstSp_inv s f (i + 1) j .nil _ (Prod.ext h1 (Prod.ext h2 rfl))
        refine ⟨_, _, _, _, rfl, ?_⟩
        rw [show (lstSp s f (i + 1) VL.nil).2.2 = l from h3, drop_pk hi, h123, h4]
        show _ = (123 :: (join (txtL l) [44, 32] ++ [125])) ++ _
        simp
    · rw [if_neg h123] at h
      simp only [Prod.mk.injEq] at h
      obtain ⟨h1, h2, rfl⟩ := h
      have := (codeSp_inv (s := s) (i := i) (j := j) (c := (codeSp s i).2.2) (Prod.ext h1 (Prod.ext h2 rfl))).1
      exact ⟨_, _, _, _, rfl, this⟩
theorem lstSp_inv (s : ByteArray) : ∀ (f i j : Nat) (acc v : VL), lstSp s f i acc = (j, true, v) → ∃ l : VL, v = acc.app l ∧ s.data.toList.drop i = join (txtL l) [44, 32] ++ 125 :: s.data.toList.drop j
  | 0, i, j, acc, v, h => by rw [lstSp] at h; simp at h
  | f + 1, i, j, acc, v, h => by
    rw [lstSp] at h
    by_cases hok : (valSp s f i).2.1 = false
    · rw [if_pos hok] at h; simp at h
    rw [if_neg hok] at h
    have hok' : (valSp s f i).2.1 = true := by simpa using hok
    obtain ⟨k, n, t, sub, h1, h2⟩ := valSp_inv s f i (valSp s f i).1 (valSp s f i).2.2 (Prod.ext rfl (Prod.ext hok' rfl))
    rw [h1] at h
    by_cases h44 : pk s (valSp s f i).1 = 44
    · rw [if_pos h44] at h
      have hi : (valSp s f i).1 < s.size := pk_lt (by rw [h44]; decide)
      by_cases h32 : pk s ((valSp s f i).1 + 1) = 32
      · rw [if_pos h32] at h
        have hi2 : (valSp s f i).1 + 1 < s.size := pk_lt (by rw [h32]; decide)
        obtain ⟨l, h3, h4⟩ := lstSp_inv s f _ j _ v h
        refine ⟨.cons k n t sub l, by rw [h3, VL.app_assoc]; rfl, ?_⟩
        rw [h2, drop_pk hi, drop_pk hi2, h44, h32, h4, txtL, join_cons]
        cases l with
        | nil =>
          exfalso
          have hlen : lstSp s f ((valSp s f i).1 + 2) (acc.app (val1 k n t sub)) = (j, true, v) := h
          exact lstSp_ne s f _ _ j v hlen (by rw [h3, VL.app_nil])
        | cons k2 n2 t2 sub2 rest2 =>
          have hj : joinTail [44, 32] (txtL (.cons k2 n2 t2 sub2 rest2)) = 44 :: 32 :: join (txtL (.cons k2 n2 t2 sub2 rest2)) [44, 32] := by
            rw [txtL, join_cons]; simp [joinTail]
          rw [hj]; simp
      · rw [if_neg h32] at h; simp at h
    · rw [if_neg h44] at h
      by_cases h125 : pk s (valSp s f i).1 = 125
      · rw [if_pos h125] at h
        simp only [Prod.mk.injEq, true_and] at h
        obtain ⟨rfl, rfl⟩ := h
        have hi : (valSp s f i).1 < s.size := pk_lt (by rw [h125]; decide)
        refine ⟨val1 k n t sub, rfl, ?_⟩
        rw [h2, drop_pk hi, h125]
        simp [val1, txtL, join_one]
      · rw [if_neg h125] at h; simp at h
/-- A list that goes on has one item more. -/
theorem lstSp_ne (s : ByteArray) : ∀ (f i : Nat) (acc : VL) (j : Nat) (v : VL), lstSp s f i acc = (j, true, v) → v ≠ acc
  | 0, i, acc, j, v, h => by rw [lstSp] at h; simp at h
  | f + 1, i, acc, j, v, h => by
    rw [lstSp] at h
    by_cases hok : (valSp s f i).2.1 = false
    · rw [if_pos hok] at h; simp at h
    rw [if_neg hok] at h
    have hok' : (valSp s f i).2.1 = true := by simpa using hok
    obtain ⟨k, n, t, sub, h1⟩ := valSp_one s f i hok'
    rw [h1] at h
    have hgrow : ∀ l : VL, v = (acc.app (val1 k n t sub)).app l → v ≠ acc := fun l e e2 => by
      have := congrArg VL.len (e.symm.trans e2)
      rw [VL.len_app, VL.len_app] at this
      have h1 : (val1 k n t sub).len = 1 := rfl
      omega
    by_cases h44 : pk s (valSp s f i).1 = 44
    · rw [if_pos h44] at h
      by_cases h32 : pk s ((valSp s f i).1 + 1) = 32
      · rw [if_pos h32] at h
        obtain ⟨l, h3, _⟩ := lstSp_inv s f _ j _ v h
        exact hgrow l h3
      · rw [if_neg h32] at h; simp at h
    · rw [if_neg h44] at h
      by_cases h125 : pk s (valSp s f i).1 = 125
      · rw [if_pos h125] at h
        simp only [Prod.mk.injEq, true_and] at h
        exact hgrow .nil (by rw [VL.app_nil]; exact h.2.symm)
      · rw [if_neg h125] at h; simp at h
end

/-- The text of a value that is read is the text. -/
theorem rdV_inv {s : ByteArray} {k n : Int} {t : ByteArray} {sub : VL} (hgood : ¬ rdBad s) (hv : (rdV s).2.2 = val1 k n t sub) : s.data.toList = txt1 k n t (txtL sub) := by
  have hg : (rdV s).2.1 = true ∧ s.size ≤ (rdV s).1 := Classical.not_not.1 hgood
  obtain ⟨k', n', t', sub', h1, h2⟩ := valSp_inv s (2 * s.size + 2) 0 (rdV s).1 (rdV s).2.2 (Prod.ext rfl (Prod.ext hg.1 rfl))
  rw [h1] at hv
  injection hv with e1 e2 e3 e4 _
  subst e1; subst e2; subst e3; subst e4
  rw [List.drop_zero, List.drop_eq_nil_of_le (by rw [Array.length_toList]; exact hg.2), List.append_nil] at h2
  exact h2
end Go.Proofs.YtoemnccklakkeaaDoor
