/-
  Reading back what was said, plain: values and lists.
-/
import Derived.Test.YtoemnccklakkeaaDoorBkA
namespace Go.Proofs.YtoemnccklakkeaaDoor
open Go.RowKit Go.Lib
set_option linter.unusedVariables false

theorem drop_add {l a r : List UInt8} {i : Nat} (h : l.drop i = a ++ r) : l.drop (i + a.length) = r := by
  rw [← List.drop_drop, h, List.drop_left]
/-- What a list's items are read as. -/
def LstBack (s : ByteArray) (l : VL) : Prop := ∀ (d : Int) (f i : Nat) (acc : VL) (r : List UInt8), l ≠ .nil → OkL l d → l.i64 → s.data.toList.drop i = join (txtL l) [44, 32] ++ 125 :: r → 2 * (s.size - i) + 3 ≤ f → lstSp s f i acc = (i + (join (txtL l) [44, 32]).length + 1, true, acc.app l)
/-- What a value is read as. -/
def ValBack (s : ByteArray) (k n : Int) (t : ByteArray) (sub : VL) : Prop := ∀ (d : Int) (f i : Nat) (r : List UInt8), OkL (val1 k n t sub) d → (val1 k n t sub).i64 → s.data.toList.drop i = txt1 k n t (txtL sub) ++ r → NoDg r → 2 * (s.size - i) + 2 ≤ f → valSp s f i = (i + (txt1 k n t (txtL sub)).length, true, val1 k n t sub)

theorem itoa_head (v : Int) : ∃ c t, itoa v = c :: t ∧ (c = 45 ∨ digB c = true) := by
  by_cases hv : v < 0
  · obtain ⟨u, rfl⟩ : ∃ u : Nat, v = -(u : Int) := ⟨v.natAbs, by omega⟩
    rw [itoa_neg u (by omega)]; exact ⟨_, _, rfl, .inl rfl⟩
  · obtain ⟨u, rfl⟩ : ∃ u : Nat, v = (u : Int) := ⟨v.toNat, by omega⟩
    rw [itoa_nonneg]
    obtain ⟨⟨hne, hd, _⟩, _⟩ := canon_dec u
    cases hq : decDigits u with
    | nil => exact absurd hq hne
    | cons c t => exact ⟨c, t, rfl, .inr (by rw [digB_isDg]; exact hd c (by rw [hq]; simp))⟩
theorem nm_head : ∀ c : Fin 15, (nmAt c.val).data.toList.head? = some 69 := by decide +kernel
theorem bytes_empty {t : ByteArray} (h : t.data.toList = []) : t = ByteArray.empty := by
  rcases t with ⟨⟨l⟩⟩
  cases l with
  | nil => rfl
  | cons a r => cases h
theorem bytes_back (t : ByteArray) : (⟨t.data.toList.toArray⟩ : ByteArray) = t := by cases t; simp

theorem val_back {s : ByteArray} {k n : Int} {t : ByteArray} {sub : VL} (ih : LstBack s sub) : ValBack s k n t sub := by
  intro d f i r hok h64 hd hr hf
  have hs : s.data.toList.length = s.size := by rw [Array.length_toList]; rfl
  obtain ⟨g, rfl⟩ : ∃ g, f = g + 1 := ⟨f - 1, by omega⟩
  obtain ⟨hown, hsub⟩ := OkL_one hok
  rw [valSp]
  rcases own_ok hown with ⟨rfl, e1, e2⟩ | ⟨rfl, g0, g1, e1, e2⟩ | ⟨rfl, rfl, e2, hp⟩ | ⟨rfl, g0, g1, e1, e2⟩ | ⟨rfl, rfl, e1⟩
  · have e3 := bytes_empty e1
    have e4 : sub = .nil := by cases sub with | nil => rfl | cons _ _ _ _ _ => exact absurd e2 (Nat.succ_ne_zero _)
    subst e3; subst e4
    have hd' : s.data.toList.drop i = itoa n ++ r := hd
    have sp := numSp_itoa s 9223372036854775808 9223372036854775807 (by omega) (by omega) n r hr i hd'
    rw [if_pos ⟨by have := h64.1; omega, by have := h64.2.1; omega⟩] at sp
    obtain ⟨c, tl, hc, hcd⟩ := itoa_head n
    rw [hc] at hd'
    obtain ⟨k1, _⟩ := pk_drop hd'
    have n35 : ¬ pk s i = 35 := by
      rw [k1]; rintro rfl
      rcases hcd with h | h
      · cases h
      · exact absurd h (by decide)
    rw [if_neg n35, if_pos (by rw [k1]; exact hcd), show (-9223372036854775808 : Int) = -((9223372036854775808 : Nat) : Int) from rfl, show (9223372036854775807 : Int) = ((9223372036854775807 : Nat) : Int) from rfl, sp]
    rfl
  · have e3 := bytes_empty e1
    have e4 : sub = .nil := by cases sub with | nil => rfl | cons _ _ _ _ _ => exact absurd e2 (Nat.succ_ne_zero _)
    subst e3; subst e4
    have hd' : s.data.toList.drop i = 35 :: (itoa n ++ r) := hd
    obtain ⟨k1, d1⟩ := pk_drop hd'
    have sp := numSp_itoa s 2147483648 2147483647 (by omega) (by omega) n r hr (i + 1) d1
    rw [if_pos ⟨by omega, by omega⟩] at sp
    rw [if_pos k1, show (-2147483648 : Int) = -((2147483648 : Nat) : Int) from rfl, show (2147483647 : Int) = ((2147483647 : Nat) : Int) from rfl, sp]
    show (i + 1 + (itoa n).length, true, _) = (i + (35 :: itoa n).length, true, _)
    rw [List.length_cons, Nat.add_assoc, Nat.add_comm 1]
  · have e4 : sub = .nil := by cases sub with | nil => rfl | cons _ _ _ _ _ => exact absurd e2 (Nat.succ_ne_zero _)
    subst e4
    have hd' : s.data.toList.drop i = quoL t.data.toList ++ r := hd
    have sp := strSp_back s r t.data.toList i hp hd'
    have k1 := (pk_drop (show s.data.toList.drop i = 34 :: (escL t.data.toList ++ [34] ++ r) from hd')).1
    rw [if_neg (by rw [k1]; decide), if_neg (by rw [k1]; decide), if_pos k1, sp]
    simp only [bytes_back]; rfl
  · have e3 := bytes_empty e1
    have e4 : sub = .nil := by cases sub with | nil => rfl | cons _ _ _ _ _ => exact absurd e2 (Nat.succ_ne_zero _)
    subst e3; subst e4
    obtain ⟨j, rfl⟩ : ∃ j : Nat, n = j := ⟨n.toNat, by omega⟩
    have hj : j < 15 := by omega
    have hnm : nmS (j : Int) = nmAt j := nmS_at j hj
    have hd' : s.data.toList.drop i = (nmAt j).data.toList ++ r := by rw [← hnm]; exact hd
    have sp := codeSp_of hj (nmAt_of hd')
    have hh := nm_head ⟨j, hj⟩
    have k1 : pk s i = 69 := by
      cases hq : (nmAt j).data.toList with
      | nil => rw [show (nmAt (⟨j, hj⟩ : Fin 15).val).data.toList = [] from hq] at hh; cases hh
      | cons c tl =>
        rw [show (nmAt (⟨j, hj⟩ : Fin 15).val).data.toList = c :: tl from hq] at hh
        injection hh with hh
        rw [hq, hh] at hd'
        exact (pk_drop hd').1
    rw [if_neg (by rw [k1]; decide), if_neg (by rw [k1]; decide), if_neg (by rw [k1]; decide), if_neg (by rw [k1]; decide), sp]
    show (i + (nmAt j).size, true, _) = (i + ((nmS (j : Int)).data.toList).length, true, _)
    rw [hnm, Array.length_toList]; rfl
  · have e3 := bytes_empty e1
    subst e3
    have hd' : s.data.toList.drop i = 123 :: (join (txtL sub) [44, 32] ++ 125 :: r) := by
      rw [hd]; show (123 :: (join (txtL sub) [44, 32] ++ [125])) ++ r = _
      simp
    obtain ⟨k1, d1⟩ := pk_drop hd'
    have hlen := congrArg List.length hd'
    rw [List.length_drop, hs, List.length_cons] at hlen
    rw [if_neg (by rw [k1]; decide), if_neg (by rw [k1]; decide), if_neg (by rw [k1]; decide), if_pos k1]
    by_cases hn : sub = .nil
    · subst hn
      have d1' : s.data.toList.drop (i + 1) = 125 :: r := d1
      rw [if_pos (pk_drop d1').1]; rfl
    · have hne : ¬ pk s (i + 1) = 125 := by
        cases sub with
        | nil => exact absurd rfl hn
        | cons k' n' t' sub' rest =>
          have hk : ∃ c tl, txt1 k' n' t' (txtL sub') = c :: tl ∧ c ≠ 125 := by
            rcases own_ok hsub.1 with ⟨rfl, _⟩ | ⟨rfl, _⟩ | ⟨rfl, _⟩ | ⟨rfl, g0, g1, _⟩ | ⟨rfl, _⟩
            · obtain ⟨c, tl, h, hc⟩ := itoa_head n'
              refine ⟨c, tl, h, ?_⟩
              rintro rfl
              rcases hc with hc | hc
              · cases hc
              · exact absurd hc (by decide)
            · exact ⟨_, _, rfl, by decide⟩
            · exact ⟨_, _, rfl, by decide⟩
            · obtain ⟨j, rfl⟩ : ∃ j : Nat, n' = j := ⟨n'.toNat, by omega⟩
              have hj : j < 15 := by omega
              have hh := nm_head ⟨j, hj⟩
              have hnm : nmS (j : Int) = nmAt j := nmS_at j hj
              cases hq : (nmAt j).data.toList with
              | nil => rw [show (nmAt (⟨j, hj⟩ : Fin 15).val).data.toList = [] from hq] at hh; cases hh
              | cons c tl =>
                rw [show (nmAt (⟨j, hj⟩ : Fin 15).val).data.toList = c :: tl from hq] at hh
                injection hh with hh
                refine ⟨c, tl, ?_, by rw [hh]; decide⟩
                show (nmS (j : Int)).data.toList = _
                rw [hnm, hq]
            · exact ⟨_, _, rfl, by decide⟩
          obtain ⟨c, tl, h, hc⟩ := hk
          rw [txtL, join_cons, h] at d1
          rw [(pk_drop d1).1]; exact hc
      rw [if_neg hne, ih (d + 1) g (i + 1) .nil r hn hsub h64.2.2.1 d1 (by omega)]
      show (i + 1 + (join (txtL sub) [44, 32]).length + 1, true, _) = (i + (123 :: (join (txtL sub) [44, 32] ++ [125])).length, true, _)
      rw [List.length_cons, List.length_append, List.length_singleton]
      simp only [Prod.mk.injEq, true_and]
      exact ⟨by omega, rfl⟩

theorem lst_back (s : ByteArray) : ∀ l : VL, LstBack s l
  | .nil => fun _ _ _ _ _ h => absurd rfl h
  | .cons k n t sub rest => by
    have hsub := lst_back s sub
    have hrest := lst_back s rest
    intro d f i acc r _ hok h64 hd hf
    have hs : s.data.toList.length = s.size := by rw [Array.length_toList]; rfl
    have hlen := congrArg List.length hd
    rw [List.length_drop, hs, List.length_append, List.length_cons] at hlen
    obtain ⟨g, rfl⟩ : ∃ g, f = g + 1 := ⟨f - 1, by omega⟩
    have hv := val_back hsub (k := k) (n := n) (t := t)
    have hok1 : OkL (val1 k n t sub) d := ⟨hok.1, hok.2.1, hok.2.2.1, trivial⟩
    have h641 : (val1 k n t sub).i64 := ⟨h64.1, h64.2.1, h64.2.2.1, trivial⟩
    rw [txtL, join_cons] at hd hlen ⊢
    rw [List.append_assoc] at hd
    rw [List.length_append] at hlen
    rw [lstSp]
    cases rest with
    | nil =>
      have hd' : s.data.toList.drop i = txt1 k n t (txtL sub) ++ 125 :: r := by simpa [txtL, joinTail] using hd
      have h1 := hv d g i (125 :: r) hok1 h641 hd' (fun c t e => by injection e with e _; rw [← e]; decide) (by omega)
      have k1 := (pk_drop (drop_add hd')).1
      rw [h1]
      simp only
      rw [if_neg (by decide), if_neg (by rw [k1]; decide), if_pos k1]
      simp [txtL, joinTail, val1]
    | cons k2 n2 t2 sub2 rest2 =>
      have hj : joinTail [44, 32] (txtL (.cons k2 n2 t2 sub2 rest2)) = 44 :: 32 :: join (txtL (.cons k2 n2 t2 sub2 rest2)) [44, 32] := by
        rw [txtL, join_cons]; simp [joinTail]
      rw [hj] at hd hlen ⊢
      have hd' : s.data.toList.drop i = txt1 k n t (txtL sub) ++ (44 :: 32 :: (join (txtL (.cons k2 n2 t2 sub2 rest2)) [44, 32] ++ 125 :: r)) := by simpa using hd
      have h1 := hv d g i _ hok1 h641 hd' (fun c t e => by injection e with e _; rw [← e]; decide) (by omega)
      obtain ⟨k1, d1⟩ := pk_drop (drop_add hd')
      obtain ⟨k2', d2⟩ := pk_drop d1
      simp only [List.length_cons] at hlen
      rw [h1]
      simp only
      rw [if_neg (by decide), if_pos k1, if_pos k2', hrest d g _ (acc.app (val1 k n t sub)) r (fun h => by cases h) hok.2.2.2 h64.2.2.2 d2 (by omega)]
      simp only [List.length_append, List.length_cons, VL.app_assoc, Prod.mk.injEq, true_and]
      exact ⟨by omega, rfl⟩

/-- What was said is read back. -/
theorem rdV_back {s : ByteArray} {k n : Int} {t : ByteArray} {sub : VL} {d : Int} (hok : OkL (val1 k n t sub) d) (h64 : (val1 k n t sub).i64) (hs : s.data.toList = txt1 k n t (txtL sub)) : rdV s = (s.size, true, val1 k n t sub) := by
  have h := val_back (lst_back s sub) d (2 * s.size + 2) 0 [] hok h64 (by rw [List.drop_zero, List.append_nil]; exact hs) (fun c t e => by cases e) (by omega)
  unfold rdV
  rw [h, ← hs, Array.length_toList, Nat.zero_add]; rfl
end Go.Proofs.YtoemnccklakkeaaDoor
