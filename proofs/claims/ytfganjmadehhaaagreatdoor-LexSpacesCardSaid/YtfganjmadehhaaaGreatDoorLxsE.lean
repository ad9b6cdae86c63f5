/- Contracts of the functions that the statement reaches, and the plain mathematics beneath: several texts joined. -/
import Derived.Test.YtfganjmadehhaaaGreatDoorLxsD
import Derived.Test.YtfganjmadehhaaaGreatDoorLxsC
import Derived.Test.YtfganjmadehhaaaGreatDoorLxsA
import Derived.Test.YtfganjmadehhaaaGreatDoorLxsB
namespace Go.Proofs.YtfganjmadehhaaaGreatDoor
open Go.RowKit Go.Lib
set_option linter.unusedVariables false

theorem allSp_end {s : ByteArray} {i : Nat} {line : Int} {out : List Tok} (h : ¬ i < s.size) : ∀ f, allSp s f i line out = .inr out
  | 0 => rfl
  | f + 1 => by rw [allSp, if_neg h]
theorem allSp_word {s : ByteArray} {f i n : Nat} {line : Int} {out : List Tok} {t : Tok} (h : i < s.size) (h10 : pk s i ≠ 10) (h32 : pk s i ≠ 32) (hw : wordR s i line = .word n t) : allSp s (f + 1) i line out = allSp s f (i + n) line (out ++ [t]) := by
  rw [allSp, if_pos h, if_neg h10, if_neg h32, hw]
theorem allSp_bad {s : ByteArray} {f i c : Nat} {line : Int} {out : List Tok} (h : i < s.size) (h10 : pk s i ≠ 10) (h32 : pk s i ≠ 32) (hw : wordR s i line = .bad c) : allSp s (f + 1) i line out = .inl (c, line) := by
  rw [allSp, if_pos h, if_neg h10, if_neg h32, hw]
theorem allSp_pad {s : ByteArray} {r : List UInt8} : ∀ (L f i : Nat) (line : Int) (out : List Tok), s.data.toList.drop i = List.replicate L 10 ++ r → allSp s (f + L) i line out = allSp s f (i + L) (line + L) out
  | 0, f, i, line, out, _ => by simp
  | L + 1, f, i, line, out, hd => by
    rw [List.replicate_succ, List.cons_append] at hd
    obtain ⟨k, d⟩ := pk_drop hd
    have hlt : i < s.size := by
      have := drop_len_le (a := [10]) hd (by simp)
      simp only [List.length_singleton] at this; omega
    rw [show f + (L + 1) = (f + L) + 1 by omega, allSp, if_pos hlt, if_pos k, allSp_pad L f (i + 1) (line + 1) out d]
    congr 1
    · omega
    · omega

theorem stop_nil : Stop [] := fun c t e => by cases e
theorem geB_of {r : List UInt8} (h : Stop r) : NoP geB r := fun c t e => by
  obtain ⟨h1, h2, _⟩ := h c t e
  unfold geB
  rw [h2, Bool.false_or, beq_eq_false_iff_ne]
  rintro rfl
  exact absurd h1 (by decide)
/-- A literal that a word may be. -/
def LitOk (k n : Int) (t : ByteArray) : Prop := ownE k n t 0 = 0 ∧ k ≠ 4 ∧ (k = 0 → 0 ≤ n) ∧ t.size < 4096 ∧ -9223372036854775808 ≤ n ∧ n ≤ 9223372036854775807
theorem txt_head {k n : Int} {t : ByteArray} (h : LitOk k n t) : ∃ c u, txt1 k n t [] = c :: u ∧ c ≠ 10 ∧ c ≠ 32 := by
  obtain ⟨ho, h4, h0, _⟩ := h
  rcases own_ok ho with ⟨rfl, _⟩ | ⟨rfl, _⟩ | ⟨rfl, _⟩ | ⟨rfl, g0, g1, _⟩ | ⟨rfl, _⟩
  · obtain ⟨c, u, hq, hc⟩ := itoa_head n
    refine ⟨c, u, hq, ?_, ?_⟩
    · rintro rfl; rcases hc with hc | hc
      · cases hc
      · exact absurd hc (by decide)
    · rintro rfl; rcases hc with hc | hc
      · cases hc
      · exact absurd hc (by decide)
  · exact ⟨_, _, rfl, by decide, by decide⟩
  · exact ⟨_, _, rfl, by decide, by decide⟩
  · obtain ⟨j, rfl⟩ : ∃ j : Nat, n = j := ⟨n.toNat, by omega⟩
    have hj : j < 15 := by omega
    have hh := nm_head ⟨j, hj⟩
    have hnm : nmS (j : Int) = nmAt j := nmS_at j hj
    cases hq : (nmAt j).data.toList with
    | nil => rw [show (nmAt (⟨j, hj⟩ : Fin 15).val).data.toList = [] from hq] at hh; cases hh
    | cons c tl =>
      rw [show (nmAt (⟨j, hj⟩ : Fin 15).val).data.toList = c :: tl from hq] at hh
      injection hh with hh
      exact ⟨c, tl, by show (nmS (j : Int)).data.toList = _; rw [hnm, hq], by rw [hh]; decide, by rw [hh]; decide⟩
  · exact absurd rfl h4
/-- A literal, as text, is one word, that is it. -/
theorem lit_word {s t : ByteArray} {k n : Int} {i : Nat} {r : List UInt8} {line : Int} (h : LitOk k n t) (hd : s.data.toList.drop i = txt1 k n t [] ++ r) (hr : Stop r) : wordR s i line = .word (txt1 k n t []).length ⟨3, line, ⟨#[]⟩, k, n, t⟩ := by
  obtain ⟨ho, h4, h0, hsz, hn0, hn1⟩ := h
  rcases own_ok ho with ⟨rfl, e1, _⟩ | ⟨rfl, g0, g1, e1, _⟩ | ⟨rfl, rfl, _, hp⟩ | ⟨rfl, g0, g1, e1, _⟩ | ⟨rfl, _⟩
  · obtain ⟨u, rfl⟩ : ∃ u : Nat, n = (u : Int) := ⟨n.toNat, by have := h0 rfl; omega⟩
    have et : t = ⟨#[]⟩ := bytes_empty e1
    subst et
    have hd' : s.data.toList.drop i = decDigits u ++ r := by rw [← itoa_nonneg]; exact hd
    rw [int_word hd' hr, if_neg (by omega)]
    show WR.word _ _ = WR.word (itoa (u : Int)).length _
    rw [itoa_nonneg]
  · have et : t = ⟨#[]⟩ := bytes_empty e1
    subst et
    have hd' : s.data.toList.drop i = 35 :: (itoa n ++ r) := hd
    rw [obj_word hd' hr (by omega) (by omega), if_neg (by omega)]
    show WR.word _ _ = WR.word (35 :: itoa n).length _
    rw [List.length_cons, Nat.add_comm]
  · have hd' : s.data.toList.drop i = quoL t.data.toList ++ r := hd
    rw [str_word hd' hp, if_neg (by omega)]; rfl
  · have et : t = ⟨#[]⟩ := bytes_empty e1
    subst et
    obtain ⟨j, rfl⟩ : ∃ j : Nat, n = j := ⟨n.toNat, by omega⟩
    have hj : j < 15 := by omega
    have hnm : nmS (j : Int) = nmAt j := nmS_at j hj
    have hz : (nmAt j).data.toList.length = (nmAt j).size := by rw [Array.length_toList]; rfl
    have hd' : s.data.toList.drop i = (nmAt j).data.toList ++ r := by rw [← hnm]; exact hd
    have hnx := stop_next (pk_behind hd') hr
    rw [hz] at hnx
    rw [err_word hj hd' (geB_of hr), if_neg (by rintro (⟨h, _⟩ | ⟨h, _⟩); rw [hnx.1] at h; cases h; rw [hnx.2.2] at h; cases h)]
    show WR.word _ _ = WR.word (nmS (j : Int)).data.toList.length _
    rw [hnm, hz]
  · exact absurd rfl h4
/-- With a letter behind it is none, but a Str. -/
theorem lit_bad {s t : ByteArray} {k n : Int} {i : Nat} {r : List UInt8} {line : Int} {x : UInt8} (h : LitOk k n t) (h2 : k ≠ 2) (hd : s.data.toList.drop i = txt1 k n t [] ++ x :: r) (hx : smB x = true) (hg : geB x = false) (hxd : digB x = false) : wordR s i line = .bad 111 := by
  obtain ⟨ho, h4, h0, hsz, hn0, hn1⟩ := h
  rcases own_ok ho with ⟨rfl, e1, _⟩ | ⟨rfl, g0, g1, e1, _⟩ | ⟨rfl, rfl, _, hp⟩ | ⟨rfl, g0, g1, e1, _⟩ | ⟨rfl, _⟩
  · obtain ⟨u, rfl⟩ : ∃ u : Nat, n = (u : Int) := ⟨n.toNat, by have := h0 rfl; omega⟩
    have hd' : s.data.toList.drop i = decDigits u ++ x :: r := by rw [← itoa_nonneg]; exact hd
    exact int_bad hd' (.inl hx) hxd
  · have hd' : s.data.toList.drop i = 35 :: (itoa n ++ x :: r) := hd
    exact obj_bad hd' (.inl hx) hxd
  · exact absurd rfl h2
  · obtain ⟨j, rfl⟩ : ∃ j : Nat, n = j := ⟨n.toNat, by omega⟩
    have hj : j < 15 := by omega
    have hnm : nmS (j : Int) = nmAt j := nmS_at j hj
    have hz : (nmAt j).data.toList.length = (nmAt j).size := by rw [Array.length_toList]; rfl
    have hd' : s.data.toList.drop i = (nmAt j).data.toList ++ x :: r := by rw [← hnm]; exact hd
    have hnx := (pk_drop (pk_behind hd')).1
    have hne : (nmAt j).data.toList ≠ [] := by
      intro e; rw [e] at hz
      have := nm_size0 ⟨j, hj⟩
      simp only [List.length_nil] at hz this; omega
    have hlen := drop_len_le hd' hne
    rw [hz] at hnx hlen
    rw [err_word hj hd' (fun c t e => by injection e with e _; rw [← e]; exact hg), if_pos (.inl ⟨by rw [hnx]; exact hx, by rw [List.length_cons] at hlen; omega⟩)]
  · exact absurd rfl h4

/-- A literal's text, whole. -/
theorem lits_one {s t : ByteArray} {k n : Int} (h : LitOk k n t) (hs : s.data.toList = txt1 k n t []) : allW s = .inr [⟨3, 1, ⟨#[]⟩, k, n, t⟩] := by
  obtain ⟨c, u, hq, h10, h32⟩ := txt_head h
  have hd : s.data.toList.drop 0 = txt1 k n t [] ++ [] := by rw [List.drop_zero, List.append_nil]; exact hs
  have hp : pk s 0 = c := by rw [hq] at hd; exact (pk_drop hd).1
  have hlen := drop_len_le hd (by rw [hq]; simp)
  have hpos : 0 < (txt1 k n t []).length := by rw [hq]; simp
  simp only [List.length_nil] at hlen
  unfold allW
  rw [allSp_word (by omega) (by rw [hp]; exact h10) (by rw [hp]; exact h32) (lit_word h hd stop_nil), allSp_end (by omega)]
  rfl
/-- .. and with a letter behind. -/
theorem lits_x {s t : ByteArray} {k n : Int} (h : LitOk k n t) (hs : s.data.toList = txt1 k n t [] ++ [120]) : allW s = if k = 2 then .inr [⟨3, 1, ⟨#[]⟩, k, n, t⟩, ⟨1, 1, ⟨#[120]⟩, 0, 0, ⟨#[]⟩⟩] else .inl (111, 1) := by
  obtain ⟨c, u, hq, h10, h32⟩ := txt_head h
  have hd : s.data.toList.drop 0 = txt1 k n t [] ++ [120] := by rw [List.drop_zero]; exact hs
  have hp : pk s 0 = c := by rw [hq] at hd; exact (pk_drop hd).1
  have hlen := drop_len_le hd (by rw [hq]; simp)
  have hpos : 0 < (txt1 k n t []).length := by rw [hq]; simp
  simp only [List.length_singleton] at hlen
  unfold allW
  by_cases h2 : k = 2
  · rw [if_pos h2]
    obtain ⟨ho, h4, h0, hsz, hn0, hn1⟩ := h
    subst h2
    rcases own_ok ho with ⟨e, _⟩ | ⟨e, _⟩ | ⟨_, rfl, _, hpr⟩ | ⟨e, _⟩ | ⟨e, _⟩
    · exact absurd e (by decide)
    · exact absurd e (by decide)
    · have hd' : s.data.toList.drop 0 = quoL t.data.toList ++ [120] := hd
      have hl : (txt1 2 0 t []).length = (quoL t.data.toList).length := rfl
      have hw := str_word (line := 1) hd' hpr
      rw [if_neg (by omega)] at hw
      rw [allSp_word (by omega) (by rw [hp]; exact h10) (by rw [hp]; exact h32) hw]
      have d1 := pk_behind hd'
      rw [Nat.zero_add] at d1 ⊢
      have p1 := (pk_drop d1).1
      obtain ⟨g, hg⟩ : ∃ g, s.size = g + 1 := ⟨s.size - 1, by omega⟩
      have hrun : run s (fun c => smB c || digB c) (quoL t.data.toList).length = 1 := run_split (a := [120]) (r := []) (fun c t e => by cases e) (by intro c hc; rw [List.mem_singleton] at hc; subst hc; decide) d1 (by simp)
      have hsub : s.extract (quoL t.data.toList).length ((quoL t.data.toList).length + 1) = ⟨#[120]⟩ := ba_ext0 (ext_split (a := [120]) (r := []) d1)
      have hw2 : wordR s (quoL t.data.toList).length 1 = .word 1 ⟨1, 1, ⟨#[120]⟩, 0, 0, ⟨#[]⟩⟩ := by
        have h1 : smB (120 : UInt8) = true := by decide
        have hk : keysL.contains (⟨#[120]⟩ : ByteArray) = false := by decide +kernel
        unfold wordR
        simp only [p1, h1, if_true, hrun, hsub, hk]
        rw [if_neg (by rintro (h | ⟨h, _⟩) <;> omega)]
        rfl
      rw [hg, allSp_word (by omega) (by rw [p1]; decide) (by rw [p1]; decide) hw2, allSp_end (by omega)]
      rfl
    · exact absurd e (by decide)
    · exact absurd e (by decide)
  · rw [if_neg h2, allSp_bad (by omega) (by rw [hp]; exact h10) (by rw [hp]; exact h32) (lit_bad h h2 hd (by decide) (by decide) (by decide))]

/-- A text in quotes that does not end on its line. -/
theorem quoEnd_none {s : ByteArray} {r : List UInt8} : ∀ (l : List UInt8) (f i : Nat), (∀ c ∈ l, prC c = true ∧ c ≠ 34 ∧ c ≠ 92) → s.data.toList.drop i = l ++ 10 :: r → quoEnd s f i = none
  | l, 0, i, _, _ => rfl
  | [], f + 1, i, _, hd => by
    have k := (pk_drop (show s.data.toList.drop i = 10 :: r from hd)).1
    unfold quoEnd
    rw [if_neg (by rw [k]; rintro ⟨_, h⟩; exact absurd h (by decide))]
  | c :: t, f + 1, i, hp, hd => by
    obtain ⟨k1, d1⟩ := pk_drop hd
    obtain ⟨h1, h2, h3⟩ := hp c (by simp)
    have hlen := drop_len_le hd (by simp)
    rw [List.length_cons] at hlen
    unfold quoEnd
    rw [if_pos ⟨by omega, by rw [k1]; exact h1⟩, if_neg (by rw [k1]; exact h2), if_neg (by rw [k1]; exact h3)]
    exact quoEnd_none t f (i + 1) (fun x hx => hp x (by simp [hx])) d1
theorem quo_none {s : ByteArray} {i : Nat} {l r : List UInt8} {line : Int} (hl : ∀ c ∈ l, prC c = true ∧ c ≠ 34 ∧ c ≠ 92) (hd : s.data.toList.drop i = 34 :: (l ++ 10 :: r)) : wordR s i line = .bad 111 := by
  obtain ⟨k0, d1⟩ := pk_drop hd
  have h1 : smB (34 : UInt8) = false := by decide
  have h2 : digB (34 : UInt8) = false := by decide
  have h3 : gtB (34 : UInt8) = false := by decide
  have h4 : ¬ (34 : UInt8) = 35 := by decide
  unfold wordR
  simp only [k0, h1, h2, h3, h4, Bool.false_eq_true, if_false, if_true, quoEnd_none l _ _ hl d1]
/-- Lines ahead, then a word that is none. -/
theorem ends_bad {s : ByteArray} {L c : Nat} {x : UInt8} {r : List UInt8} (hs : s.data.toList = List.replicate L 10 ++ x :: r) (h10 : x ≠ 10) (h32 : x ≠ 32) (hw : ∀ line, wordR s L line = .bad c) : allW s = .inl (c, 1 + (L : Int)) := by
  have hd : s.data.toList.drop 0 = List.replicate L 10 ++ x :: r := by rw [List.drop_zero]; exact hs
  have hz : s.size = L + (r.length + 1) := by
    have h1 : s.size = s.data.toList.length := by rw [Array.length_toList]; rfl
    rw [h1, hs, List.length_append, List.length_replicate, List.length_cons]
  have hd1 : s.data.toList.drop L = x :: r := by
    have := drop_add hd
    rw [List.length_replicate, Nat.zero_add] at this; exact this
  have hp := (pk_drop hd1).1
  unfold allW
  rw [show s.size + 1 = (r.length + 1 + 1) + L by omega, allSp_pad L _ 0 1 [] hd, Nat.zero_add, allSp_bad (by omega) (by rw [hp]; exact h10) (by rw [hp]; exact h32) (hw _)]

def dA : List UInt8 := [57, 50, 50, 51, 51, 55, 50, 48, 51, 54, 56, 53, 52, 55, 55, 53, 56, 48, 56]
def dB : List UInt8 := [50, 49, 52, 55, 52, 56, 51, 54, 52, 56]
def dC : List UInt8 := [57, 50, 50, 51, 51, 55, 50, 48, 51, 54, 56, 53, 52, 55, 55, 53, 56, 48, 55]
theorem dec_A : decDigits 9223372036854775808 = dA := by
  have h : dval 0 dA = 9223372036854775808 := by decide +kernel
  rw [← h]; exact dec_of_canon _ dA rfl ⟨by decide, by decide, by decide⟩
theorem dec_B : decDigits 2147483648 = dB := by
  have h : dval 0 dB = 2147483648 := by decide +kernel
  rw [← h]; exact dec_of_canon _ dB rfl ⟨by decide, by decide, by decide⟩
theorem dec_C : decDigits 9223372036854775807 = dC := by
  have h : dval 0 dC = 9223372036854775807 := by decide +kernel
  rw [← h]; exact dec_of_canon _ dC rfl ⟨by decide, by decide, by decide⟩
theorem drop_rep {s : ByteArray} {L : Nat} {r : List UInt8} (hs : s.data.toList = List.replicate L 10 ++ r) : s.data.toList.drop L = r := by
  have := drop_add (i := 0) (show s.data.toList.drop 0 = List.replicate L 10 ++ r by rw [List.drop_zero]; exact hs)
  rw [List.length_replicate, Nat.zero_add] at this; exact this
/-- Numbers beyond their bounds. -/
theorem ends_f {s : ByteArray} {L : Nat} (hs : s.data.toList = List.replicate L 10 ++ dA) : allW s = .inl (105, 1 + (L : Int)) := by
  refine ends_bad (x := 57) (r := dA.tail) hs (by decide) (by decide) (fun line => ?_)
  have hd : s.data.toList.drop L = decDigits 9223372036854775808 ++ [] := by rw [drop_rep hs, dec_A, List.append_nil]
  rw [int_word hd stop_nil, if_pos (by decide)]
theorem ends_g {s : ByteArray} {L : Nat} (hs : s.data.toList = List.replicate L 10 ++ 35 :: dB) : allW s = .inl (105, 1 + (L : Int)) := by
  refine ends_bad hs (by decide) (by decide) (fun line => ?_)
  have hi : itoa (2147483648 : Int) = dB := by rw [show (2147483648 : Int) = ((2147483648 : Nat) : Int) from rfl, itoa_nonneg, dec_B]
  have hd : s.data.toList.drop L = 35 :: (itoa 2147483648 ++ []) := by rw [drop_rep hs, hi, List.append_nil]
  rw [obj_word hd stop_nil (by omega) (by omega), if_pos (by omega)]
/-- A text that does not end on its line. -/
theorem ends_e {s : ByteArray} {L : Nat} {l : List UInt8} (hl : ∀ c ∈ l, prC c = true ∧ c ≠ 34 ∧ c ≠ 92) (hs : s.data.toList = List.replicate L 10 ++ 34 :: (l ++ 10 :: [34])) : allW s = .inl (111, 1 + (L : Int)) :=
  ends_bad hs (by decide) (by decide) (fun line => quo_none hl (drop_rep hs))
/-- Numbers that are just within. -/
theorem ends_h {s : ByteArray} {L : Nat} (hs : s.data.toList = List.replicate L 10 ++ (dC ++ 32 :: 35 :: 45 :: dB)) : allW s = .inr [⟨3, 1 + (L : Int), ⟨#[]⟩, 0, 9223372036854775807, ⟨#[]⟩⟩, ⟨3, 1 + (L : Int), ⟨#[]⟩, 1, -2147483648, ⟨#[]⟩⟩] := by
  have hd : s.data.toList.drop 0 = List.replicate L 10 ++ (dC ++ 32 :: 35 :: 45 :: dB) := by rw [List.drop_zero]; exact hs
  have hz : s.size = L + 32 := by
    have h1 : s.size = s.data.toList.length := by rw [Array.length_toList]; rfl
    rw [h1, hs, List.length_append, List.length_replicate]; rfl
  have d0 := drop_rep hs
  have hC : dC.length = 19 := rfl
  have w1 : ∀ line, wordR s L line = .word 19 ⟨3, line, ⟨#[]⟩, 0, 9223372036854775807, ⟨#[]⟩⟩ := fun line => by
    have hd1 : s.data.toList.drop L = decDigits 9223372036854775807 ++ (32 :: 35 :: 45 :: dB) := by rw [d0, dec_C]
    rw [int_word hd1 (fun c t e => by injection e with e _; rw [← e]; decide), if_neg (by decide), dec_C]; rfl
  have p0 : pk s L = 57 := (pk_drop (show s.data.toList.drop L = 57 :: (dC.tail ++ 32 :: 35 :: 45 :: dB) from d0)).1
  have d1 : s.data.toList.drop (L + 19) = 32 :: 35 :: 45 :: dB := by have := drop_add d0; rw [hC] at this; exact this
  obtain ⟨p1, d2⟩ := pk_drop d1
  have p2 := (pk_drop d2).1
  have hi : itoa (-2147483648 : Int) = 45 :: dB := by rw [show (-2147483648 : Int) = -((2147483648 : Nat) : Int) from rfl, itoa_neg _ (by omega), dec_B]
  have w2 : ∀ line, wordR s (L + 19 + 1) line = .word 12 ⟨3, line, ⟨#[]⟩, 1, -2147483648, ⟨#[]⟩⟩ := fun line => by
    have hd2 : s.data.toList.drop (L + 19 + 1) = 35 :: (itoa (-2147483648) ++ []) := by rw [d2, hi, List.append_nil]
    rw [obj_word hd2 stop_nil (by omega) (by omega), if_neg (by omega), hi]; rfl
  unfold allW
  rw [show s.size + 1 = 33 + L by omega, allSp_pad L 33 0 1 [] hd, Nat.zero_add, show (33 : Nat) = 32 + 1 from rfl, allSp_word (by omega) (by rw [p0]; decide) (by rw [p0]; decide) (w1 _), show (32 : Nat) = 31 + 1 from rfl]
  rw [allSp, if_pos (by omega), if_neg (by rw [p1]; decide), if_pos p1, show (31 : Nat) = 30 + 1 from rfl, allSp_word (by omega) (by rw [p2]; decide) (by rw [p2]; decide) (w2 _), allSp_end (by omega)]
  rfl
end Go.Proofs.YtfganjmadehhaaaGreatDoor
namespace Go.Proofs.YtfganjmadehhaaaGreatDoor
open Go.RowKit Go.Lib
set_option linter.unusedVariables false

/-- A word as text. -/
def tokT (t : Tok) : List UInt8 := if t.kind = 3 then txt1 t.k t.n t.t [] else t.s.data.toList
/-- A name's letters. -/
def nameL (l : List UInt8) : Prop := ∃ c r, l = c :: r ∧ smB c = true ∧ (∀ x ∈ l, (smB x || digB x) = true) ∧ l.length ≤ 32
/-- A word that lex may have read. -/
def TokOk (t : Tok) : Prop :=
  (t.kind = 3 ∧ t.s = ⟨#[]⟩ ∧ LitOk t.k t.n t.t) ∨
  ((t.kind = if keysL.contains t.s then 2 else 1) ∧ nameL t.s.data.toList ∧ t.k = 0 ∧ t.n = 0 ∧ t.t = ⟨#[]⟩) ∨
  (t.kind = 4 ∧ t.s ∈ signsL ∧ t.k = 0 ∧ t.n = 0 ∧ t.t = ⟨#[]⟩)
/-- A blank, or nothing, goes on. -/
def Blank (r : List UInt8) : Prop := ∀ c u, r = c :: u → c = 10 ∨ c = 32
theorem blank_stop {r : List UInt8} (h : Blank r) : Stop r := fun c u e => by
  rcases h c u e with rfl | rfl <;> exact ⟨by decide, by decide, by decide⟩

theorem signs_blank : ∀ x ∈ signsL, ∀ c ∈ x.data.toList, c ≠ 10 ∧ c ≠ 32 := by decide +kernel
theorem signs_head : ∀ x ∈ signsL, ∃ c r, x.data.toList = c :: r ∧ smB c = false ∧ digB c = false ∧ gtB c = false ∧ c ≠ 35 ∧ c ≠ 34 ∧ c ≠ 10 ∧ c ≠ 32 := by
  intro x hx
  have h : ∀ x ∈ signsL, (match x.data.toList with | [] => false | c :: _ => !smB c && !digB c && !gtB c && c != 35 && c != 34 && c != 10 && c != 32) = true := by decide +kernel
  have := h x hx
  cases hq : x.data.toList with
  | nil => rw [hq] at this; cases this
  | cons c r =>
    rw [hq] at this
    simp only [Bool.and_eq_true, Bool.not_eq_true', bne_iff_ne] at this
    obtain ⟨⟨⟨⟨⟨⟨h1, h2⟩, h3⟩, h4⟩, h5⟩, h6⟩, h7⟩ := this
    exact ⟨c, r, rfl, h1, h2, h3, h4, h5, h6, h7⟩
theorem prefix_sign {x y : ByteArray} {r : List UInt8} (hx : x ∈ signsL) (hr : Blank r) (h : x.data.toList.isPrefixOf (y.data.toList ++ r) = true) : x.size ≤ y.size := by
  have hz : ∀ b : ByteArray, b.data.toList.length = b.size := fun b => by rw [Array.length_toList]; rfl
  rw [List.isPrefixOf_iff_prefix] at h
  obtain ⟨u, hu⟩ := h
  rcases Nat.lt_or_ge y.size x.size with hlt | hge
  · exfalso
    have e : (x.data.toList ++ u)[y.size]? = (y.data.toList ++ r)[y.size]? := by rw [hu]
    rw [List.getElem?_append_left (by rw [hz]; exact hlt), List.getElem?_append_right (by rw [hz]; exact Nat.le_refl _), hz, Nat.sub_self] at e
    cases r with
    | nil =>
      rw [List.getElem?_eq_getElem (by rw [hz]; exact hlt)] at e; cases e
    | cons c t =>
      rw [List.getElem?_eq_getElem (by rw [hz]; exact hlt)] at e
      injection e with e
      have hm : c ∈ x.data.toList := by rw [← e]; exact List.getElem_mem _
      rcases hr c t rfl with rfl | rfl
      · exact (signs_blank x hx _ hm).1 rfl
      · exact (signs_blank x hx _ hm).2 rfl
  · exact hge
/-- The longest sign is the sign itself. -/
theorem signAt_self {s : ByteArray} {i : Nat} {y : ByteArray} {r : List UInt8} (hd : s.data.toList.drop i = y.data.toList ++ r) (hr : Blank r) (hy : 0 < y.size) : ∀ (l : List ByteArray) (b : ByteArray), (∀ x ∈ l, x ∈ signsL) → (b.size < y.size ∧ y ∈ l ∨ b = y) → signAt s i l b = y
  | [], b, _, h => by
    rcases h with ⟨_, h⟩ | h
    · cases h
    · rw [signAt, h]
  | x :: l, b, hl, h => by
    have hz : ∀ b : ByteArray, b.data.toList.length = b.size := fun b => by rw [Array.length_toList]; rfl
    have hx := hl x (by simp)
    rw [signAt]
    by_cases hp : x.data.toList.isPrefixOf (s.data.toList.drop i) = true
    · have hp' := hp
      rw [hd] at hp'
      have hle := prefix_sign hx hr hp'
      by_cases hbx : b.size < x.size
      · rw [if_pos ⟨hbx, hp⟩]
        by_cases hxy : x.size = y.size
        · have : x = y := by
            rw [List.isPrefixOf_iff_prefix] at hp'
            obtain ⟨u, hu⟩ := hp'
            apply ba_ext0
            have := congrArg (List.take y.size) hu
            rw [List.take_append_of_le_length (by rw [hz]; omega), List.take_append_of_le_length (by rw [hz]; exact Nat.le_refl _), List.take_of_length_le (by rw [hz]; omega), List.take_of_length_le (by rw [hz]; exact Nat.le_refl _)] at this
            exact this
          exact signAt_self hd hr hy l x (fun z hz => hl z (by simp [hz])) (.inr this)
        · refine signAt_self hd hr hy l x (fun z hz => hl z (by simp [hz])) (.inl ⟨by omega, ?_⟩)
          rcases h with ⟨_, h⟩ | h
          · rcases List.mem_cons.1 h with e | e
            · exact absurd (by rw [e]) hxy
            · exact e
          · rw [h] at hbx; omega
      · rw [if_neg (fun hc => hbx hc.1)]
        refine signAt_self hd hr hy l b (fun z hz => hl z (by simp [hz])) ?_
        rcases h with ⟨h1, h2⟩ | h
        · rcases List.mem_cons.1 h2 with e | e
          · rw [← e] at hbx; exact absurd h1 hbx
          · exact .inl ⟨h1, e⟩
        · exact .inr h
    · rw [if_neg (fun hc => hp hc.2)]
      refine signAt_self hd hr hy l b (fun z hz => hl z (by simp [hz])) ?_
      rcases h with ⟨h1, h2⟩ | h
      · rcases List.mem_cons.1 h2 with e | e
        · exfalso
          apply hp
          rw [hd, ← e, List.isPrefixOf_iff_prefix]
          exact ⟨r, rfl⟩
        · exact .inl ⟨h1, e⟩
      · exact .inr h
/-- A word is read as itself, where a blank, or nothing, goes on. -/
theorem tok_word {s : ByteArray} {i : Nat} {t : Tok} {r : List UInt8} (line : Int) (h : TokOk t) (hd : s.data.toList.drop i = tokT t ++ r) (hr : Blank r) : wordR s i line = .word (tokT t).length { t with line := line } := by
  have hz : ∀ b : ByteArray, b.data.toList.length = b.size := fun b => by rw [Array.length_toList]; rfl
  obtain ⟨kind, ln, ts, k, n, tt⟩ := t
  rcases h with ⟨h3, hs, hl⟩ | ⟨hk, ⟨c, u, hc, hsm, hall, h32⟩, h1, h2, h3⟩ | ⟨hk, hs, h1, h2, h3⟩
  · simp only at h3 hs hl
    subst h3; subst hs
    have e : tokT ⟨3, ln, ⟨#[]⟩, k, n, tt⟩ = txt1 k n tt [] := by unfold tokT; rw [if_pos rfl]
    rw [e] at hd ⊢
    exact lit_word hl hd (blank_stop hr)
  · simp only at hk hc hall h32 h1 h2 h3
    subst h1; subst h2; subst h3
    have hk3 : kind ≠ 3 := by rw [hk]; split <;> decide
    have e : tokT ⟨kind, ln, ts, 0, 0, ⟨#[]⟩⟩ = ts.data.toList := by unfold tokT; rw [if_neg hk3]
    rw [e] at hd ⊢
    have hne : ts.data.toList ≠ [] := by rw [hc]; simp
    have hp : pk s i = c := by rw [hc] at hd; exact (pk_drop hd).1
    have hst := blank_stop hr
    have hrun : run s (fun c => smB c || digB c) i = ts.data.toList.length := run_split (fun x v ex => by rw [(hst x v ex).1, (hst x v ex).2.2]; rfl) hall hd hne
    have hsub : s.extract i (i + ts.data.toList.length) = ts := ba_ext0 (ext_split hd)
    have hnx := stop_next (pk_behind hd) hst
    unfold wordR
    simp only [hp, hsm, if_true, hrun, hsub]
    rw [if_neg (by rintro (h | ⟨_, h⟩); omega; rw [hnx.2.1] at h; cases h), ← hk]
  · simp only at hk hs h1 h2 h3
    subst hk; subst h1; subst h2; subst h3
    have e : tokT ⟨4, ln, ts, 0, 0, ⟨#[]⟩⟩ = ts.data.toList := by unfold tokT; rw [if_neg (show ¬ (4 : Int) = 3 by decide)]
    rw [e] at hd ⊢
    obtain ⟨c, u, hc, g1, g2, g3, g4, g5, g6, g7⟩ := signs_head ts hs
    have hp : pk s i = c := by rw [hc] at hd; exact (pk_drop hd).1
    have hpos : 0 < ts.size := by rw [← hz, hc]; simp
    have hsa := signAt_self hd hr hpos signsL ⟨#[]⟩ (fun x hx => hx) (.inl ⟨hpos, hs⟩)
    have hn0 : ¬ ts.size = 0 := by omega
    unfold wordR
    simp only [hp, g1, g2, g3, g4, g5, Bool.false_eq_true, if_false, hsa, hn0, hz]
end Go.Proofs.YtfganjmadehhaaaGreatDoor
namespace Go.Proofs.YtfganjmadehhaaaGreatDoor
open Go.RowKit Go.Lib
set_option linter.unusedVariables false

/-- Words, each with the blanks ahead of it, as one text. -/
def spT : List (List UInt8 × Tok) → List UInt8
  | [] => []
  | p :: l => p.1 ++ (tokT p.2 ++ spT l)
/-- The same words, as read: each with the line it then lies on. -/
def spL (line : Int) : List (List UInt8 × Tok) → List Tok
  | [] => []
  | p :: l => { p.2 with line := line + (p.1.count 10 : Nat) } :: spL (line + (p.1.count 10 : Nat)) l

theorem tok_head {t : Tok} (h : TokOk t) : ∃ c r, tokT t = c :: r ∧ c ≠ 10 ∧ c ≠ 32 := by
  rcases h with ⟨hk, _, hl⟩ | ⟨hk, ⟨c, r, hc, hs, _, _⟩, _⟩ | ⟨hk, hs, _⟩
  · unfold tokT; rw [if_pos hk]; exact txt_head hl
  · have hk3 : t.kind ≠ 3 := by rw [hk]; split <;> decide
    unfold tokT; rw [if_neg hk3]
    refine ⟨c, r, hc, ?_, ?_⟩ <;> (rintro rfl; revert hs; decide)
  · have hk3 : t.kind ≠ 3 := by rw [hk]; decide
    unfold tokT; rw [if_neg hk3]
    obtain ⟨c, r, hc, _, _, _, _, _, h1, h2⟩ := signs_head t.s hs
    exact ⟨c, r, hc, h1, h2⟩

/-- Blanks are passed. -/
theorem allSp_sep {s : ByteArray} {r : List UInt8} : ∀ (w : List UInt8) (f i : Nat) (line : Int) (out : List Tok), (∀ c ∈ w, c = 10 ∨ c = 32) → s.data.toList.drop i = w ++ r → allSp s (f + w.length) i line out = allSp s f (i + w.length) (line + (w.count 10 : Nat)) out
  | [], f, i, line, out, _, _ => by simp
  | c :: w, f, i, line, out, hw, hd => by
    have hlt : i < s.size := by have := drop_len_le (a := c :: w) hd (by simp); simp at this; omega
    have hp := pk_drop hd
    have ih := fun ln (o : List Tok) hw' hd' => allSp_sep (s := s) (r := r) w f (i + 1) ln o hw' hd'
    rw [show f + (c :: w).length = (f + w.length) + 1 by simp [Nat.add_assoc], allSp, if_pos hlt, hp.1]
    rcases hw c (List.mem_cons_self ..) with rfl | rfl
    · rw [if_pos rfl, ih (line + 1) out (fun x hx => hw x (List.mem_cons_of_mem _ hx)) hp.2]
      congr 1
      · simp; omega
      · simp; omega
    · rw [if_neg (by decide), if_pos rfl, ih line out (fun x hx => hw x (List.mem_cons_of_mem _ hx)) hp.2]
      congr 1
      · simp; omega
theorem blank_sp {l : List (List UInt8 × Tok)} (h : ∀ p ∈ l, p.1 ≠ [] ∧ ∀ c ∈ p.1, c = 10 ∨ c = 32) : Blank (spT l) := by
  intro c u e
  cases l with
  | nil => cases e
  | cons p l =>
    obtain ⟨h1, h2⟩ := h p (List.mem_cons_self ..)
    cases hq : p.1 with
    | nil => exact absurd hq h1
    | cons x w =>
      rw [spT, hq] at e
      injection e with e1 _
      subst e1
      exact h2 x (by rw [hq]; exact List.mem_cons_self ..)
/-- Words with blanks between are read as themselves, each with its line. -/
theorem allSp_spaced {s : ByteArray} : ∀ (l : List (List UInt8 × Tok)) (f i : Nat) (line : Int) (out : List Tok),
    (∀ p ∈ l, TokOk p.2) → (∀ p ∈ l, ∀ c ∈ p.1, c = 10 ∨ c = 32) → (∀ p ∈ l.tail, p.1 ≠ []) → s.data.toList.drop i = spT l → s.size < i + f →
    allSp s f i line out = .inr (out ++ spL line l)
  | [], f, i, line, out, _, _, _, hd, hf => by
    have hz : s.data.toList.length = s.size := by rw [Array.length_toList]; rfl
    have : ¬ i < s.size := by
      intro hlt
      have := congrArg List.length hd
      rw [List.length_drop, hz] at this
      simp [spT] at this; omega
    rw [allSp_end this, spL, List.append_nil]
  | p :: l, f, i, line, out, ht, hb, hn, hd, hf => by
    obtain ⟨c, r, hc, h10, h32⟩ := tok_head (ht p (List.mem_cons_self ..))
    have hbl : Blank (spT l) := blank_sp (fun q hq => ⟨hn q hq, hb q (List.mem_cons_of_mem _ hq)⟩)
    rw [spT] at hd
    have hd2 : s.data.toList.drop (i + p.1.length) = tokT p.2 ++ spT l := by
      have := congrArg (List.drop p.1.length) hd
      rw [List.drop_drop, List.drop_left] at this
      exact this
    have hne : tokT p.2 ≠ [] := by rw [hc]; simp
    have hle := drop_len_le hd2 hne
    have hpos : 0 < (tokT p.2).length := by rw [hc]; simp
    have hd3 : s.data.toList.drop (i + p.1.length + (tokT p.2).length) = spT l := pk_behind hd2
    have hp : pk s (i + p.1.length) = c := by rw [hc] at hd2; exact (pk_drop hd2).1
    obtain ⟨g, rfl⟩ : ∃ g, f = (g + 1) + p.1.length := ⟨f - 1 - p.1.length, by omega⟩
    rw [allSp_sep p.1 (g + 1) i line out (hb p (List.mem_cons_self ..)) hd,
      allSp_word (t := { p.2 with line := line + (p.1.count 10 : Nat) }) (by omega) (by rw [hp]; exact h10) (by rw [hp]; exact h32) (tok_word _ (ht p (List.mem_cons_self ..)) hd2 hbl),
      allSp_spaced l g _ _ _ (fun q hq => ht q (List.mem_cons_of_mem _ hq)) (fun q hq => hb q (List.mem_cons_of_mem _ hq)) (fun q hq => hn q (List.mem_of_mem_tail hq)) hd3 (by omega)]
    rw [spL, List.append_assoc]
    rfl
end Go.Proofs.YtfganjmadehhaaaGreatDoor
namespace Go.Proofs.YtfganjmadehhaaaGreatDoor
open Go.RowKit Go.Lib
set_option linter.unusedVariables false

/-- Lines never fall. -/
def Rise : Int → List Tok → Prop
  | _, [] => True
  | v, t :: l => v ≤ t.line ∧ Rise t.line l
/-- What Join makes: of each word the blanks ahead, and its text. `first`: nothing stands ahead. -/
def joinL (line : Int) (first : Bool) : List Tok → List (List UInt8 × Tok)
  | [] => []
  | t :: l => (if line < t.line then List.replicate (t.line - line).toNat 10 else if first then [] else [32], t) :: joinL (max line t.line) false l
theorem joinL_blank : ∀ (l : List Tok) (line : Int) (first : Bool), ∀ p ∈ joinL line first l, ∀ c ∈ p.1, c = 10 ∨ c = 32
  | [], _, _, p, hp, _, _ => by cases hp
  | t :: l, line, first, p, hp, c, hc => by
    rw [joinL] at hp
    rcases List.mem_cons.1 hp with rfl | hp
    · simp only at hc
      split at hc
      · exact .inl (List.eq_of_mem_replicate hc)
      · split at hc
        · cases hc
        · exact .inr (List.mem_singleton.1 hc)
    · exact joinL_blank l _ _ p hp c hc
theorem joinL_snd : ∀ (l : List Tok) (line : Int) (first : Bool), (joinL line first l).map (·.2) = l
  | [], _, _ => rfl
  | t :: l, line, first => by rw [joinL, List.map_cons, joinL_snd l]
theorem joinL_ne : ∀ (l : List Tok) (line : Int), ∀ p ∈ joinL line false l, p.1 ≠ []
  | [], _, p, hp => by cases hp
  | t :: l, line, p, hp => by
    rw [joinL] at hp
    rcases List.mem_cons.1 hp with rfl | hp
    · simp only
      split
      · rename_i h
        intro e
        have := congrArg List.length e
        rw [List.length_replicate] at this
        simp at this
        omega
      · simp
    · exact joinL_ne l _ p hp
/-- Joined words keep their lines. -/
theorem joinL_line : ∀ (l : List Tok) (line : Int) (first : Bool), Rise line l → spL line (joinL line first l) = l
  | [], _, _, _ => rfl
  | t :: l, line, first, ⟨h1, h2⟩ => by
    have e : line + (((if line < t.line then List.replicate (t.line - line).toNat (10 : UInt8) else if first then [] else [32]).count 10 : Nat) : Int) = t.line := by
      split
      · rw [List.count_replicate_self]; omega
      · split <;> simp <;> omega
    rw [joinL, spL]
    simp only
    rw [e, show max line t.line = t.line by omega, joinL_line l t.line false h2]
end Go.Proofs.YtfganjmadehhaaaGreatDoor
namespace Go.Proofs.YtfganjmadehhaaaGreatDoor
open Go.RowKit Go.Lib
set_option linter.unusedVariables false

theorem runN_drop (s : ByteArray) (p : UInt8 → Bool) : ∀ (f i : Nat), i ≤ s.size → ∃ a r, s.data.toList.drop i = a ++ r ∧ a.length = runN s p f i ∧ ∀ c ∈ a, p c = true
  | 0, i, h => ⟨[], _, rfl, rfl, fun c hc => by cases hc⟩
  | f + 1, i, h => by
    by_cases hc : i < s.size ∧ p (pk s i) = true
    · obtain ⟨a, r, h1, h2, h3⟩ := runN_drop s p f (i + 1) (by omega)
      have hz : s.data.toList.length = s.size := by rw [Array.length_toList]; rfl
      have hd : s.data.toList.drop i = s.data.toList[i]'(by rw [hz]; exact hc.1) :: s.data.toList.drop (i + 1) := List.drop_eq_getElem_cons (by rw [hz]; exact hc.1)
      have hp := (pk_drop hd).1
      refine ⟨pk s i :: a, r, ?_, ?_, ?_⟩
      · rw [hd, ← hp, h1]; rfl
      · rw [runN, if_pos hc, List.length_cons, h2]
      · intro c hm
        rcases List.mem_cons.1 hm with rfl | hm
        · exact hc.2
        · exact h3 c hm
    · exact ⟨[], _, rfl, by rw [runN, if_neg hc]; rfl, fun c hc => by cases hc⟩
theorem codeOf_hi (s : ByteArray) : codeOf s ≤ 14 := by
  have key : ∀ k, k ≤ 15 → (∀ j, j < k → nmL.getD j ByteArray.empty ≠ s) ∨ ∃ j, j < k ∧ nmL.getD j ByteArray.empty = s ∧ ∀ i, i < j → nmL.getD i ByteArray.empty ≠ s := by
    intro k
    induction k with
    | zero => intro _; exact .inl (fun j hj => absurd hj (by omega))
    | succ k ih =>
      intro hk
      rcases ih (by omega) with h | ⟨j, h1, h2, h3⟩
      · by_cases hq : nmL.getD k ByteArray.empty = s
        · exact .inr ⟨k, by omega, hq, h⟩
        · refine .inl (fun j hj => ?_)
          rcases Nat.lt_or_ge j k with h' | h'
          · exact h j h'
          · rw [show j = k by omega]; exact hq
      · exact .inr ⟨j, by omega, h2, h3⟩
  rcases key 15 (Nat.le_refl _) with h | ⟨j, h1, h2, h3⟩
  · rw [codeOf_miss s h]; decide
  · rw [codeOf_hit s j h1 h2 h3]; omega
theorem quoEnd_le (s : ByteArray) : ∀ (f i j : Nat), quoEnd s f i = some j → i < j ∧ j ≤ s.size
  | 0, i, j, h => by cases h
  | f + 1, i, j, h => by
    rw [quoEnd] at h
    split at h
    · rename_i hc
      split at h
      · injection h with h; omega
      · split at h
        · have := quoEnd_le s f _ _ h; omega
        · have := quoEnd_le s f _ _ h; omega
    · cases h
theorem signAt_mem (s : ByteArray) (i : Nat) : ∀ (l : List ByteArray) (b : ByteArray), signAt s i l b = b ∨ signAt s i l b ∈ l
  | [], b => .inl rfl
  | x :: l, b => by
    rw [signAt]
    split
    · rcases signAt_mem s i l x with h | h
      · exact .inr (by rw [h]; exact List.mem_cons_self ..)
      · exact .inr (List.mem_cons_of_mem _ h)
    · rcases signAt_mem s i l b with h | h
      · exact .inl h
      · exact .inr (List.mem_cons_of_mem _ h)
theorem litOk_num (v : Int) (h0 : 0 ≤ v) (h1 : v ≤ 9223372036854775807) : LitOk 0 v ⟨#[]⟩ := ⟨by simp [ownE, prB], by decide, fun _ => h0, by decide, by omega, h1⟩
theorem litOk_code (v : Int) (h0 : 0 ≤ v) (h1 : v ≤ 14) : LitOk 3 v ⟨#[]⟩ := ⟨by unfold ownE; simp [prB]; omega, by decide, (fun h => by cases h), by decide, by omega, by omega⟩
theorem litOk_obj (v : Int) (h0 : -2147483648 ≤ v) (h1 : v ≤ 2147483647) : LitOk 1 v ⟨#[]⟩ := ⟨by unfold ownE; simp [prB]; omega, by decide, (fun h => by cases h), by decide, by omega, by omega⟩
theorem litOk_str (t : ByteArray) (h0 : prB t.data.toList = true) (h1 : t.size < 4096) : LitOk 2 0 t := ⟨by unfold ownE; simp [h0], by decide, (fun h => by cases h), h1, by decide, by decide⟩

theorem wordR_ok {s : ByteArray} {i n : Nat} {line : Int} {t : Tok} (hi : i < s.size) (h : wordR s i line = .word n t) : t.line = line ∧ TokOk t := by
  unfold wordR at h
  simp only at h
  split at h
  · rename_i hs
    split at h
    · cases h
    · rename_i hc
      injection h with h1 h2
      subst h2
      refine ⟨rfl, .inr (.inl ⟨rfl, ?_, rfl, rfl, rfl⟩)⟩
      obtain ⟨a, r, g1, g2, g3⟩ := runN_drop s (fun c => smB c || digB c) (s.size + 1) i (Nat.le_of_lt hi)
      have hr : run s (fun c => smB c || digB c) i = a.length := g2.symm
      rw [hr] at hc
      simp only
      rw [hr, ext_split g1]
      have hne : a ≠ [] := by
        intro e
        have hh : run s (fun c => smB c || digB c) i = 0 := by rw [hr, e]; rfl
        unfold run runN at hh
        rw [if_pos ⟨hi, by simp only [hs, Bool.true_or]⟩] at hh
        omega
      cases hq : a with
      | nil => exact absurd hq hne
      | cons c u =>
        rw [hq] at g1 g3 hc
        refine ⟨c, u, rfl, ?_, g3, by omega⟩
        rw [← (pk_drop g1).1]; exact hs
  · split at h
    · split at h
      · cases h
      · rename_i v m hd
        injection h with h1 h2
        subst h2
        refine ⟨rfl, .inl ⟨rfl, rfl, ?_⟩⟩
        unfold dgsSp at hd
        simp only at hd
        split at hd
        · cases hd
        · split at hd
          · cases hd
          · rename_i hv
            injection hd with hd
            injection hd with hd1 hd2
            exact litOk_num v (by omega) (by omega)
    · split at h
      · split at h
        · cases h
        · rename_i hc
          injection h with h1 h2
          subst h2
          refine ⟨rfl, .inl ⟨rfl, rfl, ?_⟩⟩
          simp only
          exact litOk_code _ (by omega) (codeOf_hi _)
      · split at h
        · split at h
          · cases h
          · split at h
            · cases h
            · (split at h) <;> (split at h)
              · cases h
              · rename_i hv
                injection h with h1 h2
                subst h2
                refine ⟨rfl, .inl ⟨rfl, rfl, ?_⟩⟩
                simp only
                exact litOk_obj _ (by omega) (by omega)
              · cases h
              · rename_i hv
                injection h with h1 h2
                subst h2
                refine ⟨rfl, .inl ⟨rfl, rfl, ?_⟩⟩
                simp only
                exact litOk_obj _ (by omega) (by omega)
        · split at h
          · rename_i h34
            split at h
            · cases h
            · rename_i j hj
              have hle := quoEnd_le s _ _ _ hj
              split at h
              · cases h
              · rename_i x hx
                injection h with h1 h2
                subst h2
                refine ⟨rfl, .inl ⟨rfl, rfl, ?_⟩⟩
                simp only
                have hz : s.data.toList.length = s.size := by rw [Array.length_toList]; rfl
                have hd : s.data.toList.drop i = s.data.toList[i]'(by rw [hz]; exact hi) :: s.data.toList.drop (i + 1) := List.drop_eq_getElem_cons (by rw [hz]; exact hi)
                have hp := (pk_drop hd).1
                have he : (s.extract i j).data.toList.drop 0 = pk s i :: (s.data.toList.drop (i + 1)).take (j - i - 1) := by
                  rw [List.drop_zero, ByteArray.data_extract, Array.toList_extract, List.extract_eq_take_drop, hd, ← hp, show j - i = (j - i - 1) + 1 by omega, List.take_succ_cons]
                  rfl
                have hq := (pk_drop he).1
                have hsz : 0 < (s.extract i j).size := by rw [ByteArray.size_extract]; omega
                unfold strW at hx
                simp only at hx
                split at hx
                · rename_i hc
                  split at hx
                  · cases hx
                  · rename_i hn
                    injection hx with hx
                    subst hx
                    have hinv := (strSp_inv (i := 0) (j := (strSp (s.extract i j) 0).1) (l := (strSp (s.extract i j) 0).2.2) hsz (by rw [hq]; exact h34) (by rw [← hc.1])).2
                    refine litOk_str _ (by simpa using hinv) ?_
                    show (strSp (s.extract i j) 0).2.2.toArray.size < 4096
                    rw [List.size_toArray]; omega
                · cases hx
          · split at h
            · cases h
            · rename_i hb
              injection h with h1 h2
              subst h2
              refine ⟨rfl, .inr (.inr ⟨rfl, ?_, rfl, rfl, rfl⟩)⟩
              revert hb
              simp only
              generalize hg : signsL = L
              intro hb
              rcases signAt_mem s i L ⟨#[]⟩ with h | h
              · exact (hb (congrArg ByteArray.size h)).elim
              · exact h

theorem rise_le {l : List Tok} {v u : Int} (h : v ≤ u) (hr : Rise u l) : Rise v l := by
  cases l with
  | nil => trivial
  | cons t l => exact ⟨Int.le_trans h hr.1, hr.2⟩
/-- What was read are words, on lines that never fall. -/
theorem allSp_ok {s : ByteArray} : ∀ (f i : Nat) (line : Int) (out m : List Tok), allSp s f i line out = .inr m → ∃ l, m = out ++ l ∧ (∀ t ∈ l, TokOk t) ∧ Rise line l
  | 0, i, line, out, m, h => by
    rw [allSp] at h; injection h with h
    exact ⟨[], by rw [← h, List.append_nil], (fun t ht => by cases ht), trivial⟩
  | f + 1, i, line, out, m, h => by
    rw [allSp] at h
    split at h
    · rename_i hi
      split at h
      · obtain ⟨l, h1, h2, h3⟩ := allSp_ok f _ _ _ _ h
        exact ⟨l, h1, h2, rise_le (by omega) h3⟩
      · split at h
        · exact allSp_ok f _ _ _ _ h
        · split at h
          · cases h
          · rename_i n t hw
            obtain ⟨hl, ht⟩ := wordR_ok hi hw
            obtain ⟨l, h1, h2, h3⟩ := allSp_ok f _ _ _ _ h
            refine ⟨t :: l, by rw [h1, List.append_assoc]; rfl, ?_, ⟨by rw [hl]; exact Int.le_refl _, by rw [hl]; exact h3⟩⟩
            intro u hu
            rcases List.mem_cons.1 hu with rfl | hu
            · exact ht
            · exact h2 u hu
    · injection h with h
      exact ⟨[], by rw [← h, List.append_nil], (fun t ht => by cases ht), trivial⟩
theorem allW_ok {s : ByteArray} {m : List Tok} (h : allW s = .inr m) : (∀ t ∈ m, TokOk t) ∧ Rise 1 m := by
  obtain ⟨l, h1, h2, h3⟩ := allSp_ok _ _ _ _ _ h
  rw [List.nil_append] at h1
  subst h1
  exact ⟨h2, h3⟩
end Go.Proofs.YtfganjmadehhaaaGreatDoor
namespace Go.Proofs.YtfganjmadehhaaaGreatDoor
open Go.RowKit Go.Lib
set_option linter.unusedVariables false

theorem uintM_big : ∀ (l : List UInt8) (acc : Nat), (∀ c ∈ l, isDg c = true) → acc ≤ 18446744073709551615 → 18446744073709551615 < dval acc l → parseUintM 18446744073709551615 acc l = .range
  | [], acc, _, h0, h => by rw [dval_nil] at h; omega
  | c :: r, acc, hd, h0, h => by
    have hc := isDg_iff.1 (hd c (by simp))
    rw [dval_cons, dg1_eq] at h
    rw [parseUintM, if_pos hc]
    by_cases h1 : 1844674407370955162 ≤ acc
    · rw [if_pos h1]
    · rw [if_neg h1]
      by_cases h2 : 18446744073709551615 < acc * 10 + (c.toNat - 48)
      · rw [if_pos h2]
      · rw [if_neg h2]
        exact uintM_big r _ (fun x hx => hd x (by simp [hx])) (by omega) h
theorem parse_digits {l : List UInt8} (hd : ∀ c ∈ l, isDg c = true) (hne : l ≠ []) : parseIntB 64 l = if 9223372036854775807 < dval 0 l then .range else .ok (dval 0 l : Int) := by
  obtain ⟨a, r, rfl⟩ : ∃ a r, l = a :: r := by cases l with | nil => exact absurd rfl hne | cons a r => exact ⟨a, r, rfl⟩
  have ha := isDg_iff.1 (hd a (by simp))
  unfold parseIntB parseUintB
  simp only
  rw [if_neg (show ¬ (a.toNat = 43 ∨ a.toNat = 45) by omega)]
  simp only [if_neg hne]
  rw [show (2 : Nat) ^ 64 - 1 = 18446744073709551615 from by decide]
  by_cases hb : 18446744073709551615 < dval 0 (a :: r)
  · rw [uintM_big _ 0 hd (by omega) hb, if_pos (by omega)]
  · rw [uintM_digits _ 0 hd (by omega)]
    simp only
    by_cases h2 : 9223372036854775807 < dval 0 (a :: r)
    · rw [if_pos h2, if_pos (by omega)]
    · rw [if_neg h2, if_neg (by omega), if_neg (by omega), if_neg (by omega)]
/-- The bytes of a run are of its sort. -/
theorem run_all (s : ByteArray) (p : UInt8 → Bool) (i : Nat) (h : i ≤ s.size) : ∀ c ∈ (s.extract i (i + run s p i)).data.toList, p c = true := by
  obtain ⟨a, r, h1, h2, h3⟩ := runN_drop s p (s.size + 1) i h
  intro c hc
  rw [show run s p i = a.length from h2.symm, ext_split h1] at hc
  exact h3 c hc
theorem run_ext_len (s : ByteArray) (p : UInt8 → Bool) (i : Nat) (h : i ≤ s.size) : (s.extract i (i + run s p i)).size = run s p i := by
  have := run_le s p i h
  rw [ByteArray.size_extract]; omega
theorem run_head (s : ByteArray) (n i : Nat) (h1 : 1 ≤ n) (h : i + n ≤ s.size) : pk (s.extract i (i + n)) 0 = pk s i := by
  unfold pk
  rw [ByteArray.data_extract, Array.toList_extract, List.extract_eq_take_drop, List.getD_eq_getElem?_getD, List.getD_eq_getElem?_getD, List.getElem?_take_of_lt (by omega), List.getElem?_drop, Nat.add_zero]

/-- What a number's walk shows. -/
def DgRes (ea : Nat → Addr) (B : Nat) (line : Int) (r : Nat ⊕ (Int × Nat)) (e : Ending) (w' : World) : Prop := match r with
  | .inl c => ∃ A, B ≤ A ∧ w'.heap[A]? = some (.cells #[.int .i64 line, .iface 199 (.pointer (some (ea c)))] 73 (0, 0)) ∧ e = .returned (.tuple #[.int .i64 0, .int .i64 0, .iface 70 (.pointer (some ⟨A, 0, none⟩))])
  | .inr (v, n) => e = .returned (.tuple #[.int .i64 v, .int .i64 n, .nilIface])
theorem DgRes.mkBad {ea : Nat → Addr} {c : Nat} {line : Int} {r : Nat ⊕ (Int × Nat)} {w w1 : World} (hr : r = .inl c) (hb : Below w.heap.size w w1) :
    DgRes ea w.heap.size line r (.returned (.tuple #[.int .i64 0, .int .i64 0, .iface 70 (.pointer (some ⟨w1.heap.size, 0, none⟩))])) (w1.alloc (.cells #[.int .i64 line, .iface 199 (.pointer (some (ea c)))] 73)) ∧
    Below w.heap.size w (w1.alloc (.cells #[.int .i64 line, .iface 199 (.pointer (some (ea c)))] 73)) := by
  subst hr
  exact ⟨⟨_, hb.size, heap_alloc_new w1 _, rfl⟩, hb.alloc hb.size _⟩
theorem DgRes.mkOk {ea : Nat → Addr} {B n : Nat} {v line : Int} {r : Nat ⊕ (Int × Nat)} {w' : World} (hr : r = .inr (v, n)) : DgRes ea B line r (.returned (.tuple #[.int .i64 v, .int .i64 n, .nilIface])) w' := by
  subst hr; exact rfl

set_option maxRecDepth 100000 in
set_option maxHeartbeats 4000000 in
theorem digits_c (R : Nat) (s : ByteArray) (i0 : Nat) (line : Int) (v : Value) (i : Nat) (ea : Nat → Addr) (w : World) (ha : LxAt w R s i0 line v) (he : LxEnv w ea) (hi : i ≤ s.size) (hs : s.size ≤ 1000000000) (hR : 24 ≤ R) :
    Calls Tryz.prog 73 #[.pointer (some ⟨R, 0, none⟩), .int .i64 i] w fun e w' => DgRes ea w.heap.size line (dgsSp s i) e w' ∧ Below w.heap.size w w' := by
  have hlt := ha.lt
  have hc0 := ha.c0
  have RC := Lib.hid (run_c _ _ enters_digit digit_is R s i0 line v i w ha hi hs)
  obtain ⟨n, hn⟩ : ∃ n, n = run s digB i := ⟨_, rfl⟩
  have hn2 : i + n ≤ s.size := by rw [hn]; exact run_le s _ i hi
  obtain ⟨sub, hsub⟩ : ∃ sub, sub = s.extract i (i + n) := ⟨_, rfl⟩
  have hall : ∀ c ∈ sub.data.toList, digB c = true := by rw [hsub, hn]; exact run_all s digB i hi
  have hsz : sub.size = n := by rw [hsub, hn]; exact run_ext_len s digB i hi
  obtain ⟨r, hr⟩ : ∃ r, r = dgsSp s i := ⟨_, rfl⟩
  have HR : Hid (r = if n = 0 ∨ (1 < n ∧ pk s i = 48) ∨ (i + n < s.size ∧ (smB (pk s (i + n)) = true ∨ gtB (pk s (i + n)) = true)) then .inl 111
      else if 9223372036854775807 < dval 0 sub.data.toList then .inl 105 else .inr (dval 0 sub.data.toList, n)) := by rw [hr, hsub, hn]; rfl
  rw [← hr]
  rw [← hn] at RC
  have HA := Lib.hid ha
  have HE := Lib.hid he
  have e1 := he.err.syn
  have e2 := he.err.range
  have HS := Lib.hid hsub
  have HSZ := Lib.hid hsz
  obtain ⟨g1, g2, g3⟩ := sum_in i n (by omega)
  have hdz : (i : Int) + (n : Int) ≤ (s.size : Int) := by omega
  have hdw : (i : Int) ≤ (i : Int) + (n : Int) := by omega
  clear hr hn he ha hsub
  by_cases h0 : n = 0
  · have HB := Lib.hid (HR.out.trans (if_pos (.inl h0)))
    have hz : (((n : Nat) : Int) == 0) = true := by subst h0; rfl
    clear HR h0 hsz hall
    go_enter Tryz.func73, Tryz.ntmps73
    go_wp2_with fail
    refine RC.out.mono ?_
    rintro e w1 ⟨rfl, n1, rfl⟩
    go_wp2_with fail
    refine (bad_c R s i0 line v _ _ (by exact HA.out)).mono ?_
    rintro e w2 ⟨rfl, rfl⟩
    go_wp2_with fail
    go_returns
    exact DgRes.mkBad HB.out ⟨rfl, rfl, rfl, Nat.le_refl _, fun _ _ => rfl⟩
  have h1 : 1 ≤ n := by omega
  have hz : (((n : Nat) : Int) == 0) = false := by rw [beq_eq_false_iff_ne]; omega
  have hpk : pk (s.extract i (i + n)) 0 = pk s i := run_head s n i h1 hn2
  have hp0 : (0 : Nat) < (s.extract i (i + n)).size := by rw [← HS.out]; omega
  have hpq := pk_in (s.extract i (i + n)) 0 hp0
  have hz0 : (0 : Int) < ((s.extract i (i + n)).size : Int) := by omega
  by_cases hB : 1 < n ∧ pk s i = 48
  · have HB := Lib.hid (HR.out.trans (if_pos (.inr (.inl hB))))
    have hgt : decide ((1 : Int) < (n : Int)) = true := by simp; omega
    have hgt' : decide ((n : Int) > 1) = true := by simp; omega
    have h48 : ((((s.extract i (i + n))[0]'hp0).toNat : Int) == 48) = true := by rw [← hpq, hpk, hB.2]; rfl
    clear HR h0 hsz hall hpk hpq hB
    go_enter Tryz.func73, Tryz.ntmps73
    go_wp2_with fail
    refine RC.out.mono ?_
    rintro e w1 ⟨rfl, n1, rfl⟩
    go_wp2_with fail
    refine (bad_c R s i0 line v _ _ (by exact HA.out)).mono ?_
    rintro e w2 ⟨rfl, rfl⟩
    go_wp2_with fail
    go_returns
    exact DgRes.mkBad HB.out ⟨rfl, rfl, rfl, Nat.le_refl _, fun _ _ => rfl⟩
  have hlo : (n = 1) ∨ (1 < n ∧ ((((s.extract i (i + n))[0]'hp0).toNat : Int) == 48) = false) := by
    rcases Nat.lt_or_ge 1 n with h | h
    · refine .inr ⟨h, ?_⟩
      rw [beq_eq_false_iff_ne, ← hpq, hpk]
      intro e
      exact hB ⟨h, UInt8.toNat_inj.1 (by show (pk s i).toNat = 48; omega)⟩
    · exact .inl (by omega)
  have hBn : ¬ (n = 0 ∨ (1 < n ∧ pk s i = 48)) := by rintro (h | h); exact h0 h; exact hB h
  have hrest : r = if i + n < s.size ∧ (smB (pk s (i + n)) = true ∨ gtB (pk s (i + n)) = true) then .inl 111
      else if 9223372036854775807 < dval 0 sub.data.toList then .inl 105 else .inr (dval 0 sub.data.toList, n) := by
    rw [HR.out]
    by_cases hc : i + n < s.size ∧ (smB (pk s (i + n)) = true ∨ gtB (pk s (i + n)) = true)
    · rw [if_pos hc, if_pos (.inr (.inr hc))]
    · rw [if_neg hc, if_neg (by rintro (h | h | h); exact h0 h; exact hB h; exact hc h)]
  have hne : sub.data.toList ≠ [] := by
    intro e; have : sub.size = 0 := by rw [ByteArray.size, ← Array.length_toList, e]; rfl
    omega
  have hpi := parse_digits (fun c hc => by rw [← digB_isDg]; exact hall c hc) hne
  obtain ⟨V, hV⟩ : ∃ V : Nat, V = dval 0 sub.data.toList := ⟨_, rfl⟩
  rw [← hV] at hrest hpi
  have HRR := Lib.hid hrest
  have PX : Hid (∀ W, Below w.heap.size w W → Calls Tryz.prog 96 #[.string sub, .int .i64 10, .int .i64 64] W fun e w' => Below w.heap.size w w' ∧
      ((9223372036854775807 < V ∧ ∃ x N, e = .returned (.tuple #[.int .i64 x, .iface 185 (.pointer (some ⟨N, 0, none⟩))])) ∨
       (¬ 9223372036854775807 < V ∧ e = .returned (.tuple #[.int .i64 (V), .nilIface])))) := by
    intro W hW
    by_cases hbig : 9223372036854775807 < V
    · rw [if_pos hbig] at hpi
      obtain ⟨te, pe, hv⟩ := (HE.out.str.below hW (Nat.le_refl _)).rng
      refine (Tryz.strconv_ParseInt_10_at64_range sub (by omega) hpi _ W hv (.inr ⟨te, pe, rfl⟩)).mono ?_
      rintro e w' ⟨N, h1, _, _, h4⟩
      exact ⟨hW.trans (below_le' h4 hW.size), .inl ⟨hbig, _, N, h1⟩⟩
    · rw [if_neg hbig] at hpi
      refine (Tryz.strconv_ParseInt_10_at64_ok sub (by omega) _ hpi W).mono ?_
      rintro e w' ⟨h1, hw⟩
      refine ⟨hW.trans (below_le' ?_ hW.size), .inr ⟨hbig, h1⟩⟩
      rcases hw with rfl | ⟨t, rfl⟩
      · exact Below.refl _ _
      · exact bytesWorld_below _ _ _
  clear hV hrest HR hall hpk hpq hB hBn hpi hne hsz
  rcases hlo with hlo0 | ⟨hlo0, h48⟩
  · have hgt : decide ((1 : Int) < (n : Int)) = false := by simp; omega
    have hgt' : decide ((n : Int) > 1) = false := by simp; omega
    have hle1 : (n : Int) ≤ 1 := by omega
    clear hlo0
    by_cases hin : i + n < s.size
    · have hdx : decide ((i : Int) + (n : Int) < (s.size : Int)) = true := by simp; omega
      have hdy : (i : Int) + (n : Int) < (s.size : Int) := by omega
      have SC := Lib.hid (fun W => by have := small_c (pk s (i + n)) W; rw [pk_in s (i + n) hin] at this; exact this)
      have GC := Lib.hid (fun W => by have := great_c (pk s (i + n)) W; rw [pk_in s (i + n) hin] at this; exact this)
      cases hsm : smB (pk s (i + n)) with
      | true =>
        have HB := Lib.hid (HRR.out.trans (if_pos ⟨hin, .inl hsm⟩))
        rw [← pk_in s (i + n) hin, hsm, pk_in s (i + n) hin] at SC
        clear HRR hsm PX GC h0
        go_enter Tryz.func73, Tryz.ntmps73
        go_wp2_with fail
        refine RC.out.mono ?_
        rintro e w1 ⟨rfl, n1, rfl⟩
        go_wp2_with fail
        refine (SC.out _).mono ?_
        rintro e w2 ⟨rfl, rfl⟩
        go_wp2_with fail
        refine (bad_c R s i0 line v _ _ (by exact HA.out)).mono ?_
        rintro e w2 ⟨rfl, rfl⟩
        go_wp2_with fail
        go_returns
        exact DgRes.mkBad HB.out ⟨rfl, rfl, rfl, Nat.le_refl _, fun _ _ => rfl⟩
      | false =>
        rw [← pk_in s (i + n) hin, hsm, pk_in s (i + n) hin] at SC
        cases hgr : gtB (pk s (i + n)) with
        | true =>
          have HB := Lib.hid (HRR.out.trans (if_pos ⟨hin, .inr hgr⟩))
          rw [← pk_in s (i + n) hin, hgr, pk_in s (i + n) hin] at GC
          clear HRR hsm hgr PX h0
          go_enter Tryz.func73, Tryz.ntmps73
          go_wp2_with fail
          refine RC.out.mono ?_
          rintro e w1 ⟨rfl, n1, rfl⟩
          go_wp2_with fail
          refine (SC.out _).mono ?_
          rintro e w2 ⟨rfl, rfl⟩
          go_wp2_with fail
          refine (GC.out _).mono ?_
          rintro e w2 ⟨rfl, rfl⟩
          go_wp2_with fail
          refine (bad_c R s i0 line v _ _ (by exact HA.out)).mono ?_
          rintro e w2 ⟨rfl, rfl⟩
          go_wp2_with fail
          go_returns
          exact DgRes.mkBad HB.out ⟨rfl, rfl, rfl, Nat.le_refl _, fun _ _ => rfl⟩
        | false =>
          have HB := Lib.hid (HRR.out.trans (if_neg (by rintro ⟨_, h | h⟩; rw [hsm] at h; cases h; rw [hgr] at h; cases h)))
          rw [← pk_in s (i + n) hin, hgr, pk_in s (i + n) hin] at GC
          clear HRR hsm hgr h0
          go_enter Tryz.func73, Tryz.ntmps73
          go_wp2_with fail
          refine RC.out.mono ?_
          rintro e w1 ⟨rfl, n1, rfl⟩
          go_wp2_with fail
          refine (SC.out _).mono ?_
          rintro e w2 ⟨rfl, rfl⟩
          go_wp2_with fail
          refine (GC.out _).mono ?_
          rintro e w2 ⟨rfl, rfl⟩
          go_wp2_with fail
          have PY0 := PX.out (w.drewN n1) ⟨rfl, rfl, rfl, Nat.le_refl _, fun _ _ => rfl⟩
          have HB0 := HB.out
          rw [HS.out] at PY0
          have PY := Lib.hid PY0
          have HB1 := Lib.hid HB0
          clear PX PY0 HB0 HB
          refine PY.out.mono ?_
          rintro e w3 ⟨hb3, hres⟩
          have HB3 := Lib.hid hb3
          have e4 := (HE.out.below hb3 (by omega)).err.range
          have HA3 := Lib.hid (HA.out.below hb3 hlt)
          rcases hres with ⟨hbig, x, N, rfl⟩ | ⟨hbig, rfl⟩
          · have HF := Lib.hid (HB1.out.trans (if_pos hbig))
            clear hb3 hbig PY e1 e2
            go_wp2_with fail
            refine (bad_c R s i0 line v _ _ (by exact HA3.out)).mono ?_
            rintro e w2 ⟨rfl, rfl⟩
            go_wp2_with fail
            go_returns
            exact DgRes.mkBad HF.out HB3.out
          · have HF := Lib.hid (HB1.out.trans (if_neg hbig))
            clear hb3 hbig PY e1 e2
            go_wp2_with fail
            go_returns
            exact ⟨DgRes.mkOk HF.out, HB3.out⟩
    · have hdx : decide ((i : Int) + (n : Int) < (s.size : Int)) = false := by simp; omega
      have HB := Lib.hid (HRR.out.trans (if_neg (fun h => hin h.1)))
      clear HRR h0
      go_enter Tryz.func73, Tryz.ntmps73
      go_wp2_with fail
      refine RC.out.mono ?_
      rintro e w1 ⟨rfl, n1, rfl⟩
      go_wp2_with fail
      have PY0 := PX.out (w.drewN n1) ⟨rfl, rfl, rfl, Nat.le_refl _, fun _ _ => rfl⟩
      have HB0 := HB.out
      rw [HS.out] at PY0
      have PY := Lib.hid PY0
      have HB1 := Lib.hid HB0
      clear PX PY0 HB0 HB
      refine PY.out.mono ?_
      rintro e w3 ⟨hb3, hres⟩
      have HB3 := Lib.hid hb3
      have e4 := (HE.out.below hb3 (by omega)).err.range
      have HA3 := Lib.hid (HA.out.below hb3 hlt)
      rcases hres with ⟨hbig, x, N, rfl⟩ | ⟨hbig, rfl⟩
      · have HF := Lib.hid (HB1.out.trans (if_pos hbig))
        clear hb3 hbig PY e1 e2
        go_wp2_with fail
        refine (bad_c R s i0 line v _ _ (by exact HA3.out)).mono ?_
        rintro e w2 ⟨rfl, rfl⟩
        go_wp2_with fail
        go_returns
        exact DgRes.mkBad HF.out HB3.out
      · have HF := Lib.hid (HB1.out.trans (if_neg hbig))
        clear hb3 hbig PY e1 e2
        go_wp2_with fail
        go_returns
        exact ⟨DgRes.mkOk HF.out, HB3.out⟩
  · have hgt : decide ((1 : Int) < (n : Int)) = true := by simp; omega
    have hgt' : decide ((n : Int) > 1) = true := by simp; omega
    by_cases hin : i + n < s.size
    · have hdx : decide ((i : Int) + (n : Int) < (s.size : Int)) = true := by simp; omega
      have hdy : (i : Int) + (n : Int) < (s.size : Int) := by omega
      have SC := Lib.hid (fun W => by have := small_c (pk s (i + n)) W; rw [pk_in s (i + n) hin] at this; exact this)
      have GC := Lib.hid (fun W => by have := great_c (pk s (i + n)) W; rw [pk_in s (i + n) hin] at this; exact this)
      cases hsm : smB (pk s (i + n)) with
      | true =>
        have HB := Lib.hid (HRR.out.trans (if_pos ⟨hin, .inl hsm⟩))
        rw [← pk_in s (i + n) hin, hsm, pk_in s (i + n) hin] at SC
        clear HRR hsm PX GC h0
        go_enter Tryz.func73, Tryz.ntmps73
        go_wp2_with fail
        refine RC.out.mono ?_
        rintro e w1 ⟨rfl, n1, rfl⟩
        go_wp2_with fail
        refine (SC.out _).mono ?_
        rintro e w2 ⟨rfl, rfl⟩
        go_wp2_with fail
        refine (bad_c R s i0 line v _ _ (by exact HA.out)).mono ?_
        rintro e w2 ⟨rfl, rfl⟩
        go_wp2_with fail
        go_returns
        exact DgRes.mkBad HB.out ⟨rfl, rfl, rfl, Nat.le_refl _, fun _ _ => rfl⟩
      | false =>
        rw [← pk_in s (i + n) hin, hsm, pk_in s (i + n) hin] at SC
        cases hgr : gtB (pk s (i + n)) with
        | true =>
          have HB := Lib.hid (HRR.out.trans (if_pos ⟨hin, .inr hgr⟩))
          rw [← pk_in s (i + n) hin, hgr, pk_in s (i + n) hin] at GC
          clear HRR hsm hgr PX h0
          go_enter Tryz.func73, Tryz.ntmps73
          go_wp2_with fail
          refine RC.out.mono ?_
          rintro e w1 ⟨rfl, n1, rfl⟩
          go_wp2_with fail
          refine (SC.out _).mono ?_
          rintro e w2 ⟨rfl, rfl⟩
          go_wp2_with fail
          refine (GC.out _).mono ?_
          rintro e w2 ⟨rfl, rfl⟩
          go_wp2_with fail
          refine (bad_c R s i0 line v _ _ (by exact HA.out)).mono ?_
          rintro e w2 ⟨rfl, rfl⟩
          go_wp2_with fail
          go_returns
          exact DgRes.mkBad HB.out ⟨rfl, rfl, rfl, Nat.le_refl _, fun _ _ => rfl⟩
        | false =>
          have HB := Lib.hid (HRR.out.trans (if_neg (by rintro ⟨_, h | h⟩; rw [hsm] at h; cases h; rw [hgr] at h; cases h)))
          rw [← pk_in s (i + n) hin, hgr, pk_in s (i + n) hin] at GC
          clear HRR hsm hgr h0
          go_enter Tryz.func73, Tryz.ntmps73
          go_wp2_with fail
          refine RC.out.mono ?_
          rintro e w1 ⟨rfl, n1, rfl⟩
          go_wp2_with fail
          refine (SC.out _).mono ?_
          rintro e w2 ⟨rfl, rfl⟩
          go_wp2_with fail
          refine (GC.out _).mono ?_
          rintro e w2 ⟨rfl, rfl⟩
          go_wp2_with fail
          have PY0 := PX.out (w.drewN n1) ⟨rfl, rfl, rfl, Nat.le_refl _, fun _ _ => rfl⟩
          have HB0 := HB.out
          rw [HS.out] at PY0
          have PY := Lib.hid PY0
          have HB1 := Lib.hid HB0
          clear PX PY0 HB0 HB
          refine PY.out.mono ?_
          rintro e w3 ⟨hb3, hres⟩
          have HB3 := Lib.hid hb3
          have e4 := (HE.out.below hb3 (by omega)).err.range
          have HA3 := Lib.hid (HA.out.below hb3 hlt)
          rcases hres with ⟨hbig, x, N, rfl⟩ | ⟨hbig, rfl⟩
          · have HF := Lib.hid (HB1.out.trans (if_pos hbig))
            clear hb3 hbig PY e1 e2
            go_wp2_with fail
            refine (bad_c R s i0 line v _ _ (by exact HA3.out)).mono ?_
            rintro e w2 ⟨rfl, rfl⟩
            go_wp2_with fail
            go_returns
            exact DgRes.mkBad HF.out HB3.out
          · have HF := Lib.hid (HB1.out.trans (if_neg hbig))
            clear hb3 hbig PY e1 e2
            go_wp2_with fail
            go_returns
            exact ⟨DgRes.mkOk HF.out, HB3.out⟩
    · have hdx : decide ((i : Int) + (n : Int) < (s.size : Int)) = false := by simp; omega
      have HB := Lib.hid (HRR.out.trans (if_neg (fun h => hin h.1)))
      clear HRR h0
      go_enter Tryz.func73, Tryz.ntmps73
      go_wp2_with fail
      refine RC.out.mono ?_
      rintro e w1 ⟨rfl, n1, rfl⟩
      go_wp2_with fail
      have PY0 := PX.out (w.drewN n1) ⟨rfl, rfl, rfl, Nat.le_refl _, fun _ _ => rfl⟩
      have HB0 := HB.out
      rw [HS.out] at PY0
      have PY := Lib.hid PY0
      have HB1 := Lib.hid HB0
      clear PX PY0 HB0 HB
      refine PY.out.mono ?_
      rintro e w3 ⟨hb3, hres⟩
      have HB3 := Lib.hid hb3
      have e4 := (HE.out.below hb3 (by omega)).err.range
      have HA3 := Lib.hid (HA.out.below hb3 hlt)
      rcases hres with ⟨hbig, x, N, rfl⟩ | ⟨hbig, rfl⟩
      · have HF := Lib.hid (HB1.out.trans (if_pos hbig))
        clear hb3 hbig PY e1 e2
        go_wp2_with fail
        refine (bad_c R s i0 line v _ _ (by exact HA3.out)).mono ?_
        rintro e w2 ⟨rfl, rfl⟩
        go_wp2_with fail
        go_returns
        exact DgRes.mkBad HF.out HB3.out
      · have HF := Lib.hid (HB1.out.trans (if_neg hbig))
        clear hb3 hbig PY e1 e2
        go_wp2_with fail
        go_returns
        exact ⟨DgRes.mkOk HF.out, HB3.out⟩
end Go.Proofs.YtfganjmadehhaaaGreatDoor
namespace Go.Proofs.YtfganjmadehhaaaGreatDoor
open Go.RowKit Go.Lib
set_option linter.unusedVariables false

theorem dgs_inr {s : ByteArray} {i n : Nat} {v : Int} (h : dgsSp s i = .inr (v, n)) (hi : i ≤ s.size) : 1 ≤ n ∧ i + n ≤ s.size ∧ 0 ≤ v ∧ v ≤ 9223372036854775807 := by
  unfold dgsSp at h
  simp only at h
  split at h
  · cases h
  · rename_i hc
    split at h
    · cases h
    · rename_i hv
      injection h with h
      injection h with h1 h2
      subst h1; subst h2
      refine ⟨?_, run_le s digB i hi, by omega, by omega⟩
      rcases Nat.eq_zero_or_pos (run s digB i) with h0 | h0
      · exact absurd (.inl h0) hc
      · exact h0
def intR (s : ByteArray) (i : Nat) (line : Int) : WR := match dgsSp s i with
  | .inl e => .bad e
  | .inr (v, n) => .word n ⟨3, line, ⟨#[]⟩, 0, v, ⟨#[]⟩⟩
theorem wordR_int {s : ByteArray} {i : Nat} {line : Int} (h0 : smB (pk s i) = false) (h : digB (pk s i) = true) : wordR s i line = intR s i line := by
  unfold wordR intR
  simp only [h0, h, Bool.false_eq_true, if_false, if_true]
  cases dgsSp s i with
  | inl e => rfl
  | inr p => rfl
def objR (s : ByteArray) (i : Nat) (line : Int) : WR :=
  let neg := pk s (i + 1) == 45
  let j := if neg then i + 2 else i + 1
  match dgsSp s j with
  | .inl e => .bad e
  | .inr (v, n) =>
    if neg = true ∧ v = 0 then .bad 111
    else
      let v := if neg then -v else v
      if v < -2147483648 ∨ 2147483647 < v then .bad 105 else .word (j + n - i) ⟨3, line, ⟨#[]⟩, 1, v, ⟨#[]⟩⟩
theorem wordR_obj {s : ByteArray} {i : Nat} {line : Int} (h : pk s i = 35) : wordR s i line = objR s i line := by
  have h1 : smB (35 : UInt8) = false := by decide
  have h2 : digB (35 : UInt8) = false := by decide
  have h3 : gtB (35 : UInt8) = false := by decide
  unfold wordR objR
  simp only [h, h1, h2, h3, Bool.false_eq_true, if_false, if_true]
  cases dgsSp s (if (pk s (i + 1) == 45) = true then i + 2 else i + 1) with
  | inl e => rfl
  | inr p => rfl

set_option maxRecDepth 100000 in
set_option maxHeartbeats 2000000 in
theorem integer_c (R : Nat) (s : ByteArray) (i : Nat) (line : Int) (l : List Tok) (ea : Nat → Addr) (w : World) (h : LxSt w R s i line l) (he : LxEnv w ea) (hi : i < s.size) (hs : s.size ≤ 1000000000) (hR : 24 ≤ R) :
    Calls Tryz.prog 38 #[.pointer (some ⟨R, 0, none⟩)] w (LxRes ea R s i line l (intR s i line) w) := by
  have hlt := h.lt
  obtain ⟨v, L, ha, _⟩ := id h
  have hc1 := ha.c1
  have DC := digits_c R s i line v i ea w ha he (by omega) hs hR
  have HH := Lib.hid h
  unfold intR
  clear h he ha
  cases hq : dgsSp s i with
  | inl c =>
    rw [hq] at DC
    have DD := Lib.hid DC
    clear hq DC
    go_enter Tryz.func38, Tryz.ntmps38
    go_wp2_with fail
    refine DD.out.mono ?_
    rintro e w2 ⟨⟨A, hA, hh, rfl⟩, hb⟩
    have HX := Lib.hid hA
    have HY := Lib.hid hh
    have HB := Lib.hid hb
    clear hA hh hb
    go_wp2_with fail
    go_ret
    exact ⟨below_le' HB.out (Nat.le_of_lt hlt), _, Nat.le_trans (Nat.le_of_lt hlt) HX.out, HY.out, rfl⟩
  | inr p =>
    obtain ⟨x, n⟩ := p
    obtain ⟨hn1, hn2, hx1, hx2⟩ := dgs_inr hq (by omega)
    rw [hq] at DC
    have DD := Lib.hid DC
    clear hq DC
    go_enter Tryz.func38, Tryz.ntmps38
    go_wp2_with fail
    refine DD.out.mono ?_
    rintro e w2 ⟨he2, hb⟩
    have he2' : e = .returned (.tuple #[.int .i64 x, .int .i64 n, .nilIface]) := he2
    subst he2'
    have HB := Lib.hid hb
    clear hb he2
    go_wp2_with fail
    refine (put_c R s i line l _ (HH.out.below_self HB.out) n hn1 hn2 hs ⟨3, 0, ⟨#[]⟩, 0, x, ⟨#[]⟩⟩ 0 none 0).mono ?_
    rintro e w3 ⟨rfl, hb3, hst⟩
    go_wp2_with fail
    go_ret
    exact LxRes.mkWord rfl ((below_le' HB.out (Nat.le_of_lt hlt)).trans hb3) hst

set_option maxRecDepth 100000 in
set_option maxHeartbeats 4000000 in
theorem object_c (R : Nat) (s : ByteArray) (i : Nat) (line : Int) (l : List Tok) (ea : Nat → Addr) (w : World) (h : LxSt w R s i line l) (he : LxEnv w ea) (hi : i < s.size) (hs : s.size ≤ 1000000000) (hR : 24 ≤ R) :
    Calls Tryz.prog 41 #[.pointer (some ⟨R, 0, none⟩)] w (LxRes ea R s i line l (objR s i line) w) := by
  have hlt := h.lt
  obtain ⟨v, L, ha, _⟩ := id h
  have hc0 := ha.c0; have hc1 := ha.c1
  have HH := Lib.hid h
  have HA := Lib.hid ha
  have HE := Lib.hid he
  obtain ⟨r, hr⟩ : ∃ r, r = objR s i line := ⟨_, rfl⟩
  rw [← hr]
  have hsz : (i : Int) + 1 ≤ (s.size : Int) := by omega
  have hib : (i : Int) ≤ 1000000000 := by omega
  clear h he ha
  by_cases hin : i + 1 < s.size
  · by_cases h45 : pk s (i + 1) = 45
    · have DC := digits_c R s i line v (i + 2) ea w HA.out HE.out (by omega) hs hR
      rw [show (((i + 2 : Nat)) : Int) = ((i : Int) + 1 + 1) from by omega] at DC
      have hp : (pk s (i + 1) == 45) = true := by rw [h45]; rfl
      have hlt1 : (i : Int) + 1 < (s.size : Int) := by omega
      have hd1 : decide ((i : Int) + 1 < (s.size : Int)) = true := by simp; omega
      have hq1 : (((s[i + 1]'hin).toNat : Int) == 45) = true := by rw [← pk_in s (i + 1) hin, h45]; rfl
      clear h45
      cases hq : dgsSp s (i + 2) with
      | inl c =>
        have HRR := Lib.hid (show r = .bad c by rw [hr]; unfold objR; simp only [hp, if_true, hq])
        rw [hq] at DC
        have DD := Lib.hid DC
        clear hq DC hr hp
        go_enter Tryz.func41, Tryz.ntmps41
        go_wp2_with fail
        refine DD.out.mono ?_
        rintro e w2 ⟨⟨A, hA, hh, rfl⟩, hb⟩
        have HX := Lib.hid hA
        have HY := Lib.hid hh
        have HB := Lib.hid hb
        clear hA hh hb
        go_wp2_with fail
        go_ret
        rw [HRR.out]
        exact ⟨below_le' HB.out (Nat.le_of_lt hlt), _, Nat.le_trans (Nat.le_of_lt hlt) HX.out, HY.out, rfl⟩
      | inr p =>
        obtain ⟨x, n⟩ := p
        obtain ⟨hn1, hn2, hx1, hx2⟩ := dgs_inr hq (by omega)
        rw [hq] at DC
        have DD := Lib.hid DC
        by_cases h0 : x = 0
        · have HRR := Lib.hid (show r = .bad 111 by rw [hr]; unfold objR; simp only [hp, if_true, hq]; rw [if_pos ⟨trivial, h0⟩])
          have hx0 : (x == 0) = true := by rw [h0]; rfl
          clear hq DC hr hp h0
          go_enter Tryz.func41, Tryz.ntmps41
          go_wp2_with fail
          refine DD.out.mono ?_
          rintro e w2 ⟨he2, hb⟩
          have he2' : e = .returned (.tuple #[.int .i64 x, .int .i64 n, .nilIface]) := he2
          subst he2'
          have HB := Lib.hid hb
          have HA2 := Lib.hid (HA.out.below hb hlt)
          have c12 := HA2.out.c1
          have e1 := (HE.out.below hb (by omega)).err.syn
          have e2 := (HE.out.below hb (by omega)).err.range
          clear hb he2
          go_wp2_with fail
          refine (bad_c R s i line v _ _ (by exact HA2.out)).mono ?_
          rintro e w3 ⟨rfl, rfl⟩
          go_wp2_with fail
          go_ret
          exact LxRes.mkBad HRR.out (below_le' HB.out (Nat.le_of_lt hlt)) (Nat.le_trans (Nat.le_of_lt hlt) HB.out.size)
        · have hx0 : (x == 0) = false := by rw [beq_eq_false_iff_ne]; exact h0
          have hx3 : 1 ≤ x := by omega
          by_cases hlo : -x < -2147483648
          · have HRR := Lib.hid (show r = .bad 105 by rw [hr]; unfold objR; simp only [hp, if_true, hq]; rw [if_neg (by rintro ⟨_, h⟩; omega), if_pos (.inl hlo)])
            clear hq DC hr hp
            go_enter Tryz.func41, Tryz.ntmps41
            go_wp2_with fail
            refine DD.out.mono ?_
            rintro e w2 ⟨he2, hb⟩
            have he2' : e = .returned (.tuple #[.int .i64 x, .int .i64 n, .nilIface]) := he2
            subst he2'
            have HB := Lib.hid hb
            have HA2 := Lib.hid (HA.out.below hb hlt)
            have c12 := HA2.out.c1
            have e1 := (HE.out.below hb (by omega)).err.syn
            have e2 := (HE.out.below hb (by omega)).err.range
            clear hb he2
            go_wp2_with fail
            refine (bad_c R s i line v _ _ (by exact HA2.out)).mono ?_
            rintro e w3 ⟨rfl, rfl⟩
            go_wp2_with fail
            go_ret
            exact LxRes.mkBad HRR.out (below_le' HB.out (Nat.le_of_lt hlt)) (Nat.le_trans (Nat.le_of_lt hlt) HB.out.size)
          · have HRR := Lib.hid (show r = .word (2 + n) ⟨3, line, ⟨#[]⟩, 1, -x, ⟨#[]⟩⟩ by rw [hr]; unfold objR; simp only [hp, if_true, hq]; rw [if_neg (by rintro ⟨_, h⟩; omega), if_neg (by omega), show i + 2 + n - i = 2 + n from by omega])
            have hlo' : -2147483648 ≤ -x := by omega
            have hhi' : -x ≤ 2147483647 := by omega
            clear hq DC hr hp
            go_enter Tryz.func41, Tryz.ntmps41
            go_wp2_with fail
            refine DD.out.mono ?_
            rintro e w2 ⟨he2, hb⟩
            have he2' : e = .returned (.tuple #[.int .i64 x, .int .i64 n, .nilIface]) := he2
            subst he2'
            have HB := Lib.hid hb
            have HA2 := Lib.hid (HA.out.below hb hlt)
            have c12 := HA2.out.c1
            have e1 := (HE.out.below hb (by omega)).err.syn
            have e2 := (HE.out.below hb (by omega)).err.range
            clear hb he2
            go_wp2_with fail
            obtain ⟨m, hm⟩ : ∃ m : Nat, m = (2 + n) := ⟨_, rfl⟩
            rw [show (((i : Int) + 1 + 1) + (n : Int) - (i : Int)) = (m : Int) from by omega]
            refine (put_c R s i line l _ (HH.out.below_self HB.out) m (by omega) (by omega) hs ⟨3, 0, ⟨#[]⟩, 1, -x, ⟨#[]⟩⟩ 0 none 0).mono ?_
            rintro e w3 ⟨rfl, hb3, hst⟩
            go_wp2_with fail
            go_ret
            exact LxRes.mkWord (by rw [HRR.out, hm]) ((below_le' HB.out (Nat.le_of_lt hlt)).trans hb3) hst
    · have DC := digits_c R s i line v (i + 1) ea w HA.out HE.out (by omega) hs hR
      rw [show (((i + 1 : Nat)) : Int) = ((i : Int) + 1) from by omega] at DC
      have hp : (pk s (i + 1) == 45) = false := by rw [beq_eq_false_iff_ne]; exact h45
      have hlt1 : (i : Int) + 1 < (s.size : Int) := by omega
      have hd1 : decide ((i : Int) + 1 < (s.size : Int)) = true := by simp; omega
      have hq1 : (((s[i + 1]'hin).toNat : Int) == 45) = false := by rw [beq_eq_false_iff_ne, ← pk_in s (i + 1) hin]; intro e; exact h45 (UInt8.toNat_inj.1 (by show (pk s (i + 1)).toNat = 45; omega))
      clear h45
      cases hq : dgsSp s (i + 1) with
      | inl c =>
        have HRR := Lib.hid (show r = .bad c by rw [hr]; unfold objR; simp only [hp, Bool.false_eq_true, if_false, hq])
        rw [hq] at DC
        have DD := Lib.hid DC
        clear hq DC hr hp
        go_enter Tryz.func41, Tryz.ntmps41
        go_wp2_with fail
        refine DD.out.mono ?_
        rintro e w2 ⟨⟨A, hA, hh, rfl⟩, hb⟩
        have HX := Lib.hid hA
        have HY := Lib.hid hh
        have HB := Lib.hid hb
        clear hA hh hb
        go_wp2_with fail
        go_ret
        rw [HRR.out]
        exact ⟨below_le' HB.out (Nat.le_of_lt hlt), _, Nat.le_trans (Nat.le_of_lt hlt) HX.out, HY.out, rfl⟩
      | inr p =>
        obtain ⟨x, n⟩ := p
        obtain ⟨hn1, hn2, hx1, hx2⟩ := dgs_inr hq (by omega)
        rw [hq] at DC
        have DD := Lib.hid DC
        by_cases hhi : 2147483647 < x
        · have HRR := Lib.hid (show r = .bad 105 by rw [hr]; unfold objR; simp only [hp, Bool.false_eq_true, if_false, hq]; rw [if_neg (by rintro ⟨h, _⟩; exact h), if_pos (.inr hhi)])
          clear hq DC hr hp
          go_enter Tryz.func41, Tryz.ntmps41
          go_wp2_with fail
          refine DD.out.mono ?_
          rintro e w2 ⟨he2, hb⟩
          have he2' : e = .returned (.tuple #[.int .i64 x, .int .i64 n, .nilIface]) := he2
          subst he2'
          have HB := Lib.hid hb
          have HA2 := Lib.hid (HA.out.below hb hlt)
          have c12 := HA2.out.c1
          have e1 := (HE.out.below hb (by omega)).err.syn
          have e2 := (HE.out.below hb (by omega)).err.range
          clear hb he2
          go_wp2_with fail
          refine (bad_c R s i line v _ _ (by exact HA2.out)).mono ?_
          rintro e w3 ⟨rfl, rfl⟩
          go_wp2_with fail
          go_ret
          exact LxRes.mkBad HRR.out (below_le' HB.out (Nat.le_of_lt hlt)) (Nat.le_trans (Nat.le_of_lt hlt) HB.out.size)
        · have HRR := Lib.hid (show r = .word (1 + n) ⟨3, line, ⟨#[]⟩, 1, x, ⟨#[]⟩⟩ by rw [hr]; unfold objR; simp only [hp, Bool.false_eq_true, if_false, hq]; rw [if_neg (by rintro ⟨h, _⟩; exact h), if_neg (by omega), show i + 1 + n - i = 1 + n from by omega])
          have hhi' : x ≤ 2147483647 := by omega
          clear hq DC hr hp
          go_enter Tryz.func41, Tryz.ntmps41
          go_wp2_with fail
          refine DD.out.mono ?_
          rintro e w2 ⟨he2, hb⟩
          have he2' : e = .returned (.tuple #[.int .i64 x, .int .i64 n, .nilIface]) := he2
          subst he2'
          have HB := Lib.hid hb
          have HA2 := Lib.hid (HA.out.below hb hlt)
          have c12 := HA2.out.c1
          have e1 := (HE.out.below hb (by omega)).err.syn
          have e2 := (HE.out.below hb (by omega)).err.range
          clear hb he2
          go_wp2_with fail
          obtain ⟨m, hm⟩ : ∃ m : Nat, m = (1 + n) := ⟨_, rfl⟩
          rw [show (((i : Int) + 1) + (n : Int) - (i : Int)) = (m : Int) from by omega]
          refine (put_c R s i line l _ (HH.out.below_self HB.out) m (by omega) (by omega) hs ⟨3, 0, ⟨#[]⟩, 1, x, ⟨#[]⟩⟩ 0 none 0).mono ?_
          rintro e w3 ⟨rfl, hb3, hst⟩
          go_wp2_with fail
          go_ret
          exact LxRes.mkWord (by rw [HRR.out, hm]) ((below_le' HB.out (Nat.le_of_lt hlt)).trans hb3) hst
  · have DC := digits_c R s i line v (i + 1) ea w HA.out HE.out (by omega) hs hR
    rw [show (((i + 1 : Nat)) : Int) = ((i : Int) + 1) from by omega] at DC
    have hp : (pk s (i + 1) == 45) = false := by rw [pk_out s (i + 1) hin]; rfl
    have hd1 : decide ((i : Int) + 1 < (s.size : Int)) = false := by simp; omega
    clear hsz
    cases hq : dgsSp s (i + 1) with
    | inl c =>
      have HRR := Lib.hid (show r = .bad c by rw [hr]; unfold objR; simp only [hp, Bool.false_eq_true, if_false, hq])
      rw [hq] at DC
      have DD := Lib.hid DC
      clear hq DC hr hp hin
      go_enter Tryz.func41, Tryz.ntmps41
      go_wp2_with fail
      refine DD.out.mono ?_
      rintro e w2 ⟨⟨A, hA, hh, rfl⟩, hb⟩
      have HX := Lib.hid hA
      have HY := Lib.hid hh
      have HB := Lib.hid hb
      clear hA hh hb
      go_wp2_with fail
      go_ret
      rw [HRR.out]
      exact ⟨below_le' HB.out (Nat.le_of_lt hlt), _, Nat.le_trans (Nat.le_of_lt hlt) HX.out, HY.out, rfl⟩
    | inr p =>
      obtain ⟨x, n⟩ := p
      obtain ⟨hn1, hn2, hx1, hx2⟩ := dgs_inr hq (by omega)
      rw [hq] at DC
      have DD := Lib.hid DC
      by_cases hhi : 2147483647 < x
      · have HRR := Lib.hid (show r = .bad 105 by rw [hr]; unfold objR; simp only [hp, Bool.false_eq_true, if_false, hq]; rw [if_neg (by rintro ⟨h, _⟩; exact h), if_pos (.inr hhi)])
        clear hq DC hr hp
        clear hin
        go_enter Tryz.func41, Tryz.ntmps41
        go_wp2_with fail
        refine DD.out.mono ?_
        rintro e w2 ⟨he2, hb⟩
        have he2' : e = .returned (.tuple #[.int .i64 x, .int .i64 n, .nilIface]) := he2
        subst he2'
        have HB := Lib.hid hb
        have HA2 := Lib.hid (HA.out.below hb hlt)
        have c12 := HA2.out.c1
        have e1 := (HE.out.below hb (by omega)).err.syn
        have e2 := (HE.out.below hb (by omega)).err.range
        clear hb he2
        go_wp2_with fail
        refine (bad_c R s i line v _ _ (by exact HA2.out)).mono ?_
        rintro e w3 ⟨rfl, rfl⟩
        go_wp2_with fail
        go_ret
        exact LxRes.mkBad HRR.out (below_le' HB.out (Nat.le_of_lt hlt)) (Nat.le_trans (Nat.le_of_lt hlt) HB.out.size)
      · have HRR := Lib.hid (show r = .word (1 + n) ⟨3, line, ⟨#[]⟩, 1, x, ⟨#[]⟩⟩ by rw [hr]; unfold objR; simp only [hp, Bool.false_eq_true, if_false, hq]; rw [if_neg (by rintro ⟨h, _⟩; exact h), if_neg (by omega), show i + 1 + n - i = 1 + n from by omega])
        have hhi' : x ≤ 2147483647 := by omega
        clear hq DC hr hp
        clear hin
        go_enter Tryz.func41, Tryz.ntmps41
        go_wp2_with fail
        refine DD.out.mono ?_
        rintro e w2 ⟨he2, hb⟩
        have he2' : e = .returned (.tuple #[.int .i64 x, .int .i64 n, .nilIface]) := he2
        subst he2'
        have HB := Lib.hid hb
        have HA2 := Lib.hid (HA.out.below hb hlt)
        have c12 := HA2.out.c1
        have e1 := (HE.out.below hb (by omega)).err.syn
        have e2 := (HE.out.below hb (by omega)).err.range
        clear hb he2
        go_wp2_with fail
        obtain ⟨m, hm⟩ : ∃ m : Nat, m = (1 + n) := ⟨_, rfl⟩
        rw [show (((i : Int) + 1) + (n : Int) - (i : Int)) = (m : Int) from by omega]
        refine (put_c R s i line l _ (HH.out.below_self HB.out) m (by omega) (by omega) hs ⟨3, 0, ⟨#[]⟩, 1, x, ⟨#[]⟩⟩ 0 none 0).mono ?_
        rintro e w3 ⟨rfl, hb3, hst⟩
        go_wp2_with fail
        go_ret
        exact LxRes.mkWord (by rw [HRR.out, hm]) ((below_le' HB.out (Nat.le_of_lt hlt)).trans hb3) hst
end Go.Proofs.YtfganjmadehhaaaGreatDoor
namespace Go.Proofs.YtfganjmadehhaaaGreatDoor
open Go.RowKit Go.Lib
set_option linter.unusedVariables false

def codeR (s : ByteArray) (i : Nat) (line : Int) : WR :=
  let n := run s (fun c => gtB c || c == 95) i
  let k := codeOf (s.extract i (i + n))
  if k < 0 ∨ (i + n < s.size ∧ (smB (pk s (i + n)) = true ∨ digB (pk s (i + n)) = true)) then .bad 111
  else .word n ⟨3, line, ⟨#[]⟩, 3, k, ⟨#[]⟩⟩
theorem wordR_code {s : ByteArray} {i : Nat} {line : Int} (h0 : smB (pk s i) = false) (h1 : digB (pk s i) = false) (h : gtB (pk s i) = true) : wordR s i line = codeR s i line := by
  unfold wordR codeR
  simp only [h0, h1, h, Bool.false_eq_true, if_false, if_true]

set_option maxRecDepth 100000 in
set_option maxHeartbeats 4000000 in
theorem lcode_c (R : Nat) (s : ByteArray) (i : Nat) (line : Int) (l : List Tok) (ea : Nat → Addr) (w : World) (h : LxSt w R s i line l) (he : LxEnv w ea) (hi : i < s.size) (hs : s.size ≤ 1000000000) (hR : 24 ≤ R) (hgt : gtB (pk s i) = true) :
    Calls Tryz.prog 40 #[.pointer (some ⟨R, 0, none⟩)] w (LxRes ea R s i line l (codeR s i line) w) := by
  have hlt := h.lt
  obtain ⟨v, L, ha, _⟩ := id h
  have hc1 := ha.c1
  have RC := Lib.hid (run_c _ _ enters_code1 code_is R s i line v i w ha (by omega) hs)
  obtain ⟨n, hn⟩ : ∃ n, n = run s (fun c => gtB c || c == 95) i := ⟨_, rfl⟩
  have hn1 : 1 ≤ n := by rw [hn]; exact run_pos s _ i hi (by simp [hgt])
  have hn2 : i + n ≤ s.size := by rw [hn]; exact run_le s _ i (by omega)
  obtain ⟨r, hr⟩ : ∃ r, r = codeR s i line := ⟨_, rfl⟩
  obtain ⟨k, hk⟩ : ∃ k, k = codeOf (s.extract i (i + n)) := ⟨_, rfl⟩
  have HR : Hid (r = if k < 0 ∨ (i + n < s.size ∧ (smB (pk s (i + n)) = true ∨ digB (pk s (i + n)) = true)) then .bad 111 else .word n ⟨3, line, ⟨#[]⟩, 3, k, ⟨#[]⟩⟩) := by rw [hr, hk, hn]; rfl
  rw [← hr]
  rw [← hn] at RC
  have CC := fun W => code_l (s.extract i (i + n)) W
  rw [← hk] at CC
  have HH := Lib.hid h
  have HA := Lib.hid ha
  have HE := Lib.hid he
  obtain ⟨g1, g2, g3⟩ := sum_in i n (by omega)
  have hdz : (i : Int) + (n : Int) ≤ (s.size : Int) := by omega
  have hdw : (i : Int) ≤ (i : Int) + (n : Int) := by omega
  clear hr hn h he ha hk
  by_cases hneg : k < 0
  · have HB := Lib.hid (HR.out.trans (if_pos (.inl hneg)))
    clear HR
    go_enter Tryz.func40, Tryz.ntmps40
    go_wp2_with fail
    refine RC.out.mono ?_
    rintro e w1 ⟨rfl, n1, rfl⟩
    go_wp2_with fail
    generalize hwq : World.drewN _ _ = wq
    have hqb : Below w.heap.size w wq := by rw [← hwq]; exact ⟨rfl, rfl, rfl, Nat.le_refl _, fun _ _ => rfl⟩
    have HAQ := HA.out.below hqb hlt
    have q0 := HAQ.c0
    have q1 := HAQ.c1
    have K1 := Lib.hid (fun W (h : W.cell? ⟨R, 0, none⟩ = some (.string s) ∧ W.cell? ⟨R, 1, none⟩ = some (.int .i64 i) ∧ Below wq.heap.size wq W) => (CC W).mono (R' := fun e W' => e = .returned (.tuple #[.int .i64 0, .bool false]) ∧ (W'.cell? ⟨R, 0, none⟩ = some (.string s) ∧ W'.cell? ⟨R, 1, none⟩ = some (.int .i64 i) ∧ Below wq.heap.size wq W')) fun e W' ⟨h1, h2⟩ =>
      have hz : R < W.heap.size := Nat.lt_of_lt_of_le (Nat.lt_of_lt_of_le hlt hqb.size) h.2.2.size
      ⟨by rw [h1, if_pos hneg, show decide (0 ≤ k) = false by simp; omega], cell_below7 h2 h.1 hz, cell_below7 h2 h.2.1 hz, h.2.2.trans (below_le' h2 h.2.2.size)⟩)
    have K0 : wq.drew.cell? ⟨R, 0, none⟩ = some (.string s) ∧ wq.drew.cell? ⟨R, 1, none⟩ = some (.int .i64 i) ∧ Below wq.heap.size wq wq.drew := ⟨q0, q1, (Below.refl _ _).drew⟩
    have HQ := Lib.hid hqb
    clear hwq hqb HAQ
    go_region_held3 (fun W => W.cell? ⟨R, 0, none⟩ = some (.string s) ∧ W.cell? ⟨R, 1, none⟩ = some (.int .i64 i) ∧ Below wq.heap.size wq W)
      (first | assumption | exact K0 | exact ⟨by assumption, by assumption, by assumption⟩)
      (first
        | (go_at_call 75; refine (K1.out _ ?_).mono ?_; assumption; rintro e w5 ⟨rfl, hss⟩))
    have hb5 : Below w.heap.size w w5 := HQ.out.trans (below_le' hss.2.2 HQ.out.size)
    have HB5 := Lib.hid hb5
    have HA5 := HA.out.below hb5 hlt
    have a0 := HA5.c0
    have a1 := HA5.c1
    have e5 := (HE.out.below hb5 (by omega)).err.syn
    have HAX := Lib.hid HA5
    clear hss hb5 HA5 K1 K0 q0 q1
    go_wp2_with fail
    go_quiet (fail)
    go_wp2_with fail
    refine (bad_c R s i line v _ _ (by exact HAX.out)).mono ?_
    rintro e w2 ⟨rfl, rfl⟩
    go_wp2_with fail
    go_ret
    exact LxRes.mkBad HB.out (Below.trans (below_le' HB5.out (Nat.le_of_lt hlt)) ⟨rfl, rfl, rfl, Nat.le_refl _, fun _ _ => rfl⟩) (Nat.le_trans (Nat.le_of_lt hlt) HB5.out.size)
  have hrest : r = if i + n < s.size ∧ (smB (pk s (i + n)) = true ∨ digB (pk s (i + n)) = true) then .bad 111 else .word n ⟨3, line, ⟨#[]⟩, 3, k, ⟨#[]⟩⟩ := by
    rw [HR.out]
    by_cases hc : i + n < s.size ∧ (smB (pk s (i + n)) = true ∨ digB (pk s (i + n)) = true)
    · rw [if_pos hc, if_pos (.inr hc)]
    · rw [if_neg hc, if_neg (by rintro (h | h); exact hneg h; exact hc h)]
  have HRR := Lib.hid hrest
  have hk0 : 0 ≤ k := by omega
  clear HR hrest
  by_cases hin : i + n < s.size
  · have hdx : decide ((i : Int) + (n : Int) < (s.size : Int)) = true := by simp; omega
    have hdy : (i : Int) + (n : Int) < (s.size : Int) := by omega
    have SC := Lib.hid (fun W => by have := small_c (pk s (i + n)) W; rw [pk_in s (i + n) hin] at this; exact this)
    have GC := Lib.hid (fun W => by have := ldigit_c (pk s (i + n)) W; rw [pk_in s (i + n) hin] at this; exact this)
    cases hsm : smB (pk s (i + n)) with
    | true =>
      have HB := Lib.hid (HRR.out.trans (if_pos ⟨hin, .inl hsm⟩))
      rw [← pk_in s (i + n) hin, hsm, pk_in s (i + n) hin] at SC
      clear HRR hsm GC
      go_enter Tryz.func40, Tryz.ntmps40
      go_wp2_with fail
      refine RC.out.mono ?_
      rintro e w1 ⟨rfl, n1, rfl⟩
      go_wp2_with fail
      generalize hwq : World.drewN _ _ = wq
      have hqb : Below w.heap.size w wq := by rw [← hwq]; exact ⟨rfl, rfl, rfl, Nat.le_refl _, fun _ _ => rfl⟩
      have HAQ := HA.out.below hqb hlt
      have q0 := HAQ.c0
      have q1 := HAQ.c1
      have K1 := Lib.hid (fun W (h : W.cell? ⟨R, 0, none⟩ = some (.string s) ∧ W.cell? ⟨R, 1, none⟩ = some (.int .i64 i) ∧ Below wq.heap.size wq W) => (CC W).mono (R' := fun e W' => e = .returned (.tuple #[.int .i64 k, .bool true]) ∧ (W'.cell? ⟨R, 0, none⟩ = some (.string s) ∧ W'.cell? ⟨R, 1, none⟩ = some (.int .i64 i) ∧ Below wq.heap.size wq W')) fun e W' ⟨h1, h2⟩ =>
        have hz : R < W.heap.size := Nat.lt_of_lt_of_le (Nat.lt_of_lt_of_le hlt hqb.size) h.2.2.size
        ⟨by rw [h1, if_neg (show ¬ k < 0 by omega), show decide (0 ≤ k) = true by simp; omega], cell_below7 h2 h.1 hz, cell_below7 h2 h.2.1 hz, h.2.2.trans (below_le' h2 h.2.2.size)⟩)
      have K0 : wq.drew.cell? ⟨R, 0, none⟩ = some (.string s) ∧ wq.drew.cell? ⟨R, 1, none⟩ = some (.int .i64 i) ∧ Below wq.heap.size wq wq.drew := ⟨q0, q1, (Below.refl _ _).drew⟩
      have HQ := Lib.hid hqb
      clear hwq hqb HAQ
      go_region_held3 (fun W => W.cell? ⟨R, 0, none⟩ = some (.string s) ∧ W.cell? ⟨R, 1, none⟩ = some (.int .i64 i) ∧ Below wq.heap.size wq W)
        (first | assumption | exact K0 | exact ⟨by assumption, by assumption, by assumption⟩)
        (first
          | (go_at_call 75; refine (K1.out _ ?_).mono ?_; assumption; rintro e w5 ⟨rfl, hss⟩))
      have hb5 : Below w.heap.size w w5 := HQ.out.trans (below_le' hss.2.2 HQ.out.size)
      have HB5 := Lib.hid hb5
      have HA5 := HA.out.below hb5 hlt
      have a0 := HA5.c0
      have a1 := HA5.c1
      have e5 := (HE.out.below hb5 (by omega)).err.syn
      have HAX := Lib.hid HA5
      clear hss hb5 HA5 K1 K0 q0 q1
      go_wp2_with fail
      go_quiet ((first | (go_at_call 35; exact quiet_add_left (SC.out _)) | (go_at_call 37; exact quiet_add_left (GC.out _)) | (go_at_call 35; exact quiet_left (SC.out _)) | (go_at_call 37; exact quiet_left (GC.out _))))
      go_wp2_with fail
      refine (bad_c R s i line v _ _ (by exact HAX.out)).mono ?_
      rintro e w2 ⟨rfl, rfl⟩
      go_wp2_with fail
      go_ret
      exact LxRes.mkBad HB.out (Below.trans (below_le' HB5.out (Nat.le_of_lt hlt)) ⟨rfl, rfl, rfl, Nat.le_refl _, fun _ _ => rfl⟩) (Nat.le_trans (Nat.le_of_lt hlt) HB5.out.size)
    | false =>
      rw [← pk_in s (i + n) hin, hsm, pk_in s (i + n) hin] at SC
      cases hgr : digB (pk s (i + n)) with
      | true =>
        have HB := Lib.hid (HRR.out.trans (if_pos ⟨hin, .inr hgr⟩))
        rw [← pk_in s (i + n) hin, hgr, pk_in s (i + n) hin] at GC
        clear HRR hsm hgr
        go_enter Tryz.func40, Tryz.ntmps40
        go_wp2_with fail
        refine RC.out.mono ?_
        rintro e w1 ⟨rfl, n1, rfl⟩
        go_wp2_with fail
        generalize hwq : World.drewN _ _ = wq
        have hqb : Below w.heap.size w wq := by rw [← hwq]; exact ⟨rfl, rfl, rfl, Nat.le_refl _, fun _ _ => rfl⟩
        have HAQ := HA.out.below hqb hlt
        have q0 := HAQ.c0
        have q1 := HAQ.c1
        have K1 := Lib.hid (fun W (h : W.cell? ⟨R, 0, none⟩ = some (.string s) ∧ W.cell? ⟨R, 1, none⟩ = some (.int .i64 i) ∧ Below wq.heap.size wq W) => (CC W).mono (R' := fun e W' => e = .returned (.tuple #[.int .i64 k, .bool true]) ∧ (W'.cell? ⟨R, 0, none⟩ = some (.string s) ∧ W'.cell? ⟨R, 1, none⟩ = some (.int .i64 i) ∧ Below wq.heap.size wq W')) fun e W' ⟨h1, h2⟩ =>
          have hz : R < W.heap.size := Nat.lt_of_lt_of_le (Nat.lt_of_lt_of_le hlt hqb.size) h.2.2.size
          ⟨by rw [h1, if_neg (show ¬ k < 0 by omega), show decide (0 ≤ k) = true by simp; omega], cell_below7 h2 h.1 hz, cell_below7 h2 h.2.1 hz, h.2.2.trans (below_le' h2 h.2.2.size)⟩)
        have K0 : wq.drew.cell? ⟨R, 0, none⟩ = some (.string s) ∧ wq.drew.cell? ⟨R, 1, none⟩ = some (.int .i64 i) ∧ Below wq.heap.size wq wq.drew := ⟨q0, q1, (Below.refl _ _).drew⟩
        have HQ := Lib.hid hqb
        clear hwq hqb HAQ
        go_region_held3 (fun W => W.cell? ⟨R, 0, none⟩ = some (.string s) ∧ W.cell? ⟨R, 1, none⟩ = some (.int .i64 i) ∧ Below wq.heap.size wq W)
          (first | assumption | exact K0 | exact ⟨by assumption, by assumption, by assumption⟩)
          (first
            | (go_at_call 75; refine (K1.out _ ?_).mono ?_; assumption; rintro e w5 ⟨rfl, hss⟩))
        have hb5 : Below w.heap.size w w5 := HQ.out.trans (below_le' hss.2.2 HQ.out.size)
        have HB5 := Lib.hid hb5
        have HA5 := HA.out.below hb5 hlt
        have a0 := HA5.c0
        have a1 := HA5.c1
        have e5 := (HE.out.below hb5 (by omega)).err.syn
        have HAX := Lib.hid HA5
        clear hss hb5 HA5 K1 K0 q0 q1
        go_wp2_with fail
        go_quiet ((first | (go_at_call 35; exact quiet_add_left (SC.out _)) | (go_at_call 37; exact quiet_add_left (GC.out _)) | (go_at_call 35; exact quiet_left (SC.out _)) | (go_at_call 37; exact quiet_left (GC.out _))))
        go_wp2_with fail
        refine (bad_c R s i line v _ _ (by exact HAX.out)).mono ?_
        rintro e w2 ⟨rfl, rfl⟩
        go_wp2_with fail
        go_ret
        exact LxRes.mkBad HB.out (Below.trans (below_le' HB5.out (Nat.le_of_lt hlt)) ⟨rfl, rfl, rfl, Nat.le_refl _, fun _ _ => rfl⟩) (Nat.le_trans (Nat.le_of_lt hlt) HB5.out.size)
      | false =>
        have HB := Lib.hid (HRR.out.trans (if_neg (by rintro ⟨_, h | h⟩; rw [hsm] at h; cases h; rw [hgr] at h; cases h)))
        rw [← pk_in s (i + n) hin, hgr, pk_in s (i + n) hin] at GC
        clear HRR hsm hgr
        go_enter Tryz.func40, Tryz.ntmps40
        go_wp2_with fail
        refine RC.out.mono ?_
        rintro e w1 ⟨rfl, n1, rfl⟩
        go_wp2_with fail
        generalize hwq : World.drewN _ _ = wq
        have hqb : Below w.heap.size w wq := by rw [← hwq]; exact ⟨rfl, rfl, rfl, Nat.le_refl _, fun _ _ => rfl⟩
        have HAQ := HA.out.below hqb hlt
        have q0 := HAQ.c0
        have q1 := HAQ.c1
        have K1 := Lib.hid (fun W (h : W.cell? ⟨R, 0, none⟩ = some (.string s) ∧ W.cell? ⟨R, 1, none⟩ = some (.int .i64 i) ∧ Below wq.heap.size wq W) => (CC W).mono (R' := fun e W' => e = .returned (.tuple #[.int .i64 k, .bool true]) ∧ (W'.cell? ⟨R, 0, none⟩ = some (.string s) ∧ W'.cell? ⟨R, 1, none⟩ = some (.int .i64 i) ∧ Below wq.heap.size wq W')) fun e W' ⟨h1, h2⟩ =>
          have hz : R < W.heap.size := Nat.lt_of_lt_of_le (Nat.lt_of_lt_of_le hlt hqb.size) h.2.2.size
          ⟨by rw [h1, if_neg (show ¬ k < 0 by omega), show decide (0 ≤ k) = true by simp; omega], cell_below7 h2 h.1 hz, cell_below7 h2 h.2.1 hz, h.2.2.trans (below_le' h2 h.2.2.size)⟩)
        have K0 : wq.drew.cell? ⟨R, 0, none⟩ = some (.string s) ∧ wq.drew.cell? ⟨R, 1, none⟩ = some (.int .i64 i) ∧ Below wq.heap.size wq wq.drew := ⟨q0, q1, (Below.refl _ _).drew⟩
        have HQ := Lib.hid hqb
        clear hwq hqb HAQ
        go_region_held3 (fun W => W.cell? ⟨R, 0, none⟩ = some (.string s) ∧ W.cell? ⟨R, 1, none⟩ = some (.int .i64 i) ∧ Below wq.heap.size wq W)
          (first | assumption | exact K0 | exact ⟨by assumption, by assumption, by assumption⟩)
          (first
            | (go_at_call 75; refine (K1.out _ ?_).mono ?_; assumption; rintro e w5 ⟨rfl, hss⟩))
        have hb5 : Below w.heap.size w w5 := HQ.out.trans (below_le' hss.2.2 HQ.out.size)
        have HB5 := Lib.hid hb5
        have HA5 := HA.out.below hb5 hlt
        have a0 := HA5.c0
        have a1 := HA5.c1
        have e5 := (HE.out.below hb5 (by omega)).err.syn
        have HAX := Lib.hid HA5
        clear hss hb5 HA5 K1 K0 q0 q1
        go_wp2_with fail
        go_quiet ((first | (go_at_call 35; exact quiet_add_left (SC.out _)) | (go_at_call 37; exact quiet_add_left (GC.out _)) | (go_at_call 35; exact quiet_left (SC.out _)) | (go_at_call 37; exact quiet_left (GC.out _))))
        go_wp2_with fail
        refine (put_c R s i line l _ ?_ n hn1 hn2 hs ⟨3, 0, ⟨#[]⟩, 3, k, ⟨#[]⟩⟩ 0 none 0).mono ?_
        · exact HH.out.below_self (HB5.out.trans ⟨rfl, rfl, rfl, Nat.le_refl _, fun _ _ => rfl⟩)
        rintro e w3 ⟨rfl, hb3, hst⟩
        go_wp2_with fail
        go_ret
        exact LxRes.mkWord HB.out (Below.trans (below_le' HB5.out (Nat.le_of_lt hlt)) (Below.trans (below_drewN (Below.refl _ _) _) hb3)) hst
  · have hdx : decide ((i : Int) + (n : Int) < (s.size : Int)) = false := by simp; omega
    have HB := Lib.hid (HRR.out.trans (if_neg (fun h => hin h.1)))
    clear HRR
    go_enter Tryz.func40, Tryz.ntmps40
    go_wp2_with fail
    refine RC.out.mono ?_
    rintro e w1 ⟨rfl, n1, rfl⟩
    go_wp2_with fail
    generalize hwq : World.drewN _ _ = wq
    have hqb : Below w.heap.size w wq := by rw [← hwq]; exact ⟨rfl, rfl, rfl, Nat.le_refl _, fun _ _ => rfl⟩
    have HAQ := HA.out.below hqb hlt
    have q0 := HAQ.c0
    have q1 := HAQ.c1
    have K1 := Lib.hid (fun W (h : W.cell? ⟨R, 0, none⟩ = some (.string s) ∧ W.cell? ⟨R, 1, none⟩ = some (.int .i64 i) ∧ Below wq.heap.size wq W) => (CC W).mono (R' := fun e W' => e = .returned (.tuple #[.int .i64 k, .bool true]) ∧ (W'.cell? ⟨R, 0, none⟩ = some (.string s) ∧ W'.cell? ⟨R, 1, none⟩ = some (.int .i64 i) ∧ Below wq.heap.size wq W')) fun e W' ⟨h1, h2⟩ =>
      have hz : R < W.heap.size := Nat.lt_of_lt_of_le (Nat.lt_of_lt_of_le hlt hqb.size) h.2.2.size
      ⟨by rw [h1, if_neg (show ¬ k < 0 by omega), show decide (0 ≤ k) = true by simp; omega], cell_below7 h2 h.1 hz, cell_below7 h2 h.2.1 hz, h.2.2.trans (below_le' h2 h.2.2.size)⟩)
    have K0 : wq.drew.cell? ⟨R, 0, none⟩ = some (.string s) ∧ wq.drew.cell? ⟨R, 1, none⟩ = some (.int .i64 i) ∧ Below wq.heap.size wq wq.drew := ⟨q0, q1, (Below.refl _ _).drew⟩
    have HQ := Lib.hid hqb
    clear hwq hqb HAQ
    go_region_held3 (fun W => W.cell? ⟨R, 0, none⟩ = some (.string s) ∧ W.cell? ⟨R, 1, none⟩ = some (.int .i64 i) ∧ Below wq.heap.size wq W)
      (first | assumption | exact K0 | exact ⟨by assumption, by assumption, by assumption⟩)
      (first
        | (go_at_call 75; refine (K1.out _ ?_).mono ?_; assumption; rintro e w5 ⟨rfl, hss⟩))
    have hb5 : Below w.heap.size w w5 := HQ.out.trans (below_le' hss.2.2 HQ.out.size)
    have HB5 := Lib.hid hb5
    have HA5 := HA.out.below hb5 hlt
    have a0 := HA5.c0
    have a1 := HA5.c1
    have e5 := (HE.out.below hb5 (by omega)).err.syn
    have HAX := Lib.hid HA5
    clear hss hb5 HA5 K1 K0 q0 q1
    go_wp2_with fail
    go_quiet (fail)
    go_wp2_with fail
    refine (put_c R s i line l _ ?_ n hn1 hn2 hs ⟨3, 0, ⟨#[]⟩, 3, k, ⟨#[]⟩⟩ 0 none 0).mono ?_
    · exact HH.out.below_self (HB5.out.trans ⟨rfl, rfl, rfl, Nat.le_refl _, fun _ _ => rfl⟩)
    rintro e w3 ⟨rfl, hb3, hst⟩
    go_wp2_with fail
    go_ret
    exact LxRes.mkWord HB.out (Below.trans (below_le' HB5.out (Nat.le_of_lt hlt)) (Below.trans (below_drewN (Below.refl _ _) _) hb3)) hst
end Go.Proofs.YtfganjmadehhaaaGreatDoor
namespace Go.Proofs.YtfganjmadehhaaaGreatDoor
open Go.RowKit Go.Lib
set_option linter.unusedVariables false

def signR (s : ByteArray) (i : Nat) (line : Int) : WR :=
  let b := signAt s i signsL ⟨#[]⟩
  if b.size = 0 then .bad 111 else .word b.size ⟨4, line, b, 0, 0, ⟨#[]⟩⟩
theorem wordR_sign {s : ByteArray} {i : Nat} {line : Int} (h0 : smB (pk s i) = false) (h1 : digB (pk s i) = false) (h2 : gtB (pk s i) = false) (h3 : pk s i ≠ 35) (h4 : pk s i ≠ 34) : wordR s i line = signR s i line := by
  unfold wordR signR
  simp only [h0, h1, h2, h3, h4, Bool.false_eq_true, if_false]
theorem signAt_step {s : ByteArray} {i : Nat} {x : ByteArray} {l : List ByteArray} {b : ByteArray} (h : b.size < x.size ∧ x.data.toList.isPrefixOf (s.data.toList.drop i) = true) : signAt s i (x :: l) b = signAt s i l x := by
  rw [signAt, if_pos h]
theorem signAt_skip {s : ByteArray} {i : Nat} {x : ByteArray} {l : List ByteArray} {b : ByteArray} (h : ¬ (b.size < x.size ∧ x.data.toList.isPrefixOf (s.data.toList.drop i) = true)) : signAt s i (x :: l) b = signAt s i l b := by
  rw [signAt, if_neg h]
theorem signs_drop (j : Nat) (hj : j < 33) : signsL.drop j = signsL.getD j ByteArray.empty :: signsL.drop (j + 1) := by
  have h33 : signsL.length = 33 := rfl
  rw [List.getD_eq_getElem?_getD, List.getElem?_eq_getElem (by omega)]
  exact (List.drop_eq_getElem_cons (by omega))
/-- Behind a place: what is left of a text. -/
theorem ext_to_end (s : ByteArray) (i : Nat) : (s.extract i s.size).data.toList = s.data.toList.drop i := by
  rw [ByteArray.data_extract, Array.toList_extract, List.extract_eq_take_drop]
  exact List.take_of_length_le (by rw [List.length_drop, Array.length_toList]; exact Nat.le_refl _)
theorem signAt_ok (s : ByteArray) (i : Nat) (hi : i ≤ s.size) : ∀ (l : List ByteArray) (b : ByteArray), i + b.size ≤ s.size → i + (signAt s i l b).size ≤ s.size
  | [], b, h => h
  | x :: l, b, h => by
    rw [signAt]
    split
    · rename_i hc
      refine signAt_ok s i hi l x ?_
      obtain ⟨r, hr⟩ := List.isPrefixOf_iff_prefix.1 hc.2
      have := congrArg List.length hr
      have e1 : x.data.toList.length = x.size := by rw [Array.length_toList]; rfl
      have e2 : s.data.toList.length = s.size := by rw [Array.length_toList]; rfl
      rw [List.length_append, List.length_drop, e1, e2] at this
      omega
    · exact signAt_ok s i hi l b h

set_option maxRecDepth 100000 in
set_option maxHeartbeats 4000000 in
theorem sign_c (R : Nat) (s : ByteArray) (i : Nat) (line : Int) (l : List Tok) (ea : Nat → Addr) (w : World) (h : LxSt w R s i line l) (he : LxEnv w ea) (hi : i < s.size) (hs : s.size ≤ 1000000000) (hR : 24 ≤ R) :
    Calls Tryz.prog 43 #[.pointer (some ⟨R, 0, none⟩)] w (LxRes ea R s i line l (signR s i line) w) := by
  have hlt := h.lt
  obtain ⟨v, L, ha, _⟩ := id h
  have SC := Lib.hid (signs_c w he.spc)
  obtain ⟨r, hr⟩ : ∃ r, r = signR s i line := ⟨_, rfl⟩
  obtain ⟨B, hB⟩ : ∃ B, B = signAt s i signsL ⟨#[]⟩ := ⟨_, rfl⟩
  have HR : Hid (r = if B.size = 0 then .bad 111 else .word B.size ⟨4, line, B, 0, 0, ⟨#[]⟩⟩) := by rw [hr, hB]; rfl
  have HBS : i + B.size ≤ s.size := by rw [hB]; exact signAt_ok s i (by omega) signsL ⟨#[]⟩ (by show i + 0 ≤ s.size; omega)
  rw [← hr]
  have HH := Lib.hid h
  have HA := Lib.hid ha
  have HE := Lib.hid he
  have HBB := Lib.hid hB
  clear hr h he ha hB
  go_enter Tryz.func43, Tryz.ntmps43
  go_wp2_with fail
  refine SC.out.mono ?_
  rintro e w1 ⟨g, cap, rfl, hg1, hg2, hst, hb⟩
  have HB1 := Lib.hid hb
  have HST := Lib.hid hst
  have HA1 := Lib.hid (HA.out.below hb hlt)
  clear hst hb
  go_wp2_with fail
  go_loopg [3, 8] 33 (fun k bv jv wr => ∃ (j : Nat) (b : ByteArray), bv = .string b ∧ jv = .int .i64 (j : Int) ∧ j + k = 33 ∧ b.size ≤ 2 ∧ Below w1.heap.size w1 wr ∧ Hid (signAt s i (signsL.drop j) b = B))
  case atStart => exact ⟨0, ⟨#[]⟩, rfl, rfl, rfl, Nat.zero_le _, Below.refl _ _, HBB.out.symm⟩
  case round =>
    obtain ⟨j, b, rfl, rfl, hk, hbs, hbw, hq⟩ := hrel
    have HBW := Lib.hid hbw
    have ha2 := HA1.out.below hbw HA1.out.lt
    have c0 := ha2.c0
    have c1 := ha2.c1
    have HA2 := Lib.hid ha2
    by_cases hj : j < 33
    · obtain ⟨k, rfl⟩ : ∃ k, gk = k + 1 := ⟨gk - 1, by omega⟩
      obtain ⟨x, hx⟩ : ∃ x, x = signsL.getD j ByteArray.empty := ⟨_, rfl⟩
      have hcj := (HST.out.below hbw hg2) j hj
      rw [← hx, Nat.zero_add] at hcj
      have hqq := hq.out
      rw [signs_drop j hj, ← hx] at hqq
      have PC := fun W => Tryz.strings_HasPrefix (s.extract i s.size) x W
      rw [ext_to_end] at PC
      have hib : (i : Int) ≤ (s.size : Int) := by omega
      have hxs : x.size ≤ 2 := by
        rw [hx]
        have : ∀ y ∈ signsL, y.size ≤ 2 := by decide +kernel
        refine this _ ?_
        rw [List.getD_eq_getElem?_getD, List.getElem?_eq_getElem (show j < signsL.length from hj)]; exact List.getElem_mem _
      by_cases hlen : b.size < x.size
      · have hd1 : decide (b.size < x.size) = true := by simp; exact hlen
        have hd2 : decide ((b.size : Int) < (x.size : Int)) = true := by simp; exact hlen
        cases hp : Lib.hasPrefix (s.data.toList.drop i) x.data.toList with
        | true =>
          have HQ := Lib.hid ((signAt_step ⟨hlen, hp⟩).symm.trans hqq)
          rw [hp] at PC
          have PC2 := Lib.hid (fun W => (PC W).mono (R' := fun e w' => e = .returned (.bool true) ∧ W = w') fun e w' h => ⟨h.1, h.2.symm⟩)
          clear PC hp hq hqq hx hbw ha2 hlen
          go_wp2_with fail
          go_quiet ((go_at_call 50; exact quiet_left (PC2.out _)))
          go_wp2_with fail
          go_roundg k
          case measure => omega
          case rel => exact ⟨j + 1, x, rfl, by go_num, by omega, by omega, below_drewN HBW.out _, HQ.out⟩
        | false =>
          have HQ := Lib.hid ((signAt_skip (by rintro ⟨_, h2⟩; rw [show List.isPrefixOf x.data.toList (s.data.toList.drop i) = false from hp] at h2; cases h2)).symm.trans hqq)
          rw [hp] at PC
          have PC2 := Lib.hid (fun W => (PC W).mono (R' := fun e w' => e = .returned (.bool false) ∧ W = w') fun e w' h => ⟨h.1, h.2.symm⟩)
          clear PC hp hq hqq hx hbw ha2 hlen
          go_wp2_with fail
          go_quiet ((go_at_call 50; exact quiet_left (PC2.out _)))
          go_wp2_with fail
          go_roundg k
          case measure => omega
          case rel => exact ⟨j + 1, b, rfl, by go_num, by omega, by omega, below_drewN HBW.out _, HQ.out⟩
      · have hd1 : decide (b.size < x.size) = false := by simp; omega
        have hd2 : decide ((b.size : Int) < (x.size : Int)) = false := by simp; omega
        have HQ := Lib.hid ((signAt_skip (fun h => hlen h.1)).symm.trans hqq)
        clear PC hq hqq hx hbw ha2 hlen
        go_wp2_with fail
        go_quiet (fail)
        go_wp2_with fail
        go_roundg k
        case measure => omega
        case rel => exact ⟨j + 1, b, rfl, by go_num, by omega, by omega, below_drewN HBW.out _, HQ.out⟩
    · obtain rfl : j = 33 := by omega
      have hbB : b = B := hq.out
      subst hbB
      have e5 := (HE.out.below (HB1.out.trans (below_le' hbw HB1.out.size)) (by omega)).err.syn
      have HB5 := Lib.hid (HB1.out.trans (below_le' hbw HB1.out.size))
      clear hq hbw ha2
      by_cases h0 : b.size = 0
      · have HRR := Lib.hid (HR.out.trans (if_pos h0))
        have hb0 := bytes_empty (t := b) (by rw [← List.length_eq_zero_iff, Array.length_toList]; exact h0)
        clear HR
        subst hb0
        clear h0
        go_wp2_with fail
        refine (bad_c R s i line v _ _ (by exact HA2.out)).mono ?_
        rintro e w3 ⟨rfl, rfl⟩
        go_wp2_with fail
        go_ret
        exact LxRes.mkBad HRR.out (below_le' HB5.out (Nat.le_of_lt hlt)) (Nat.le_trans (Nat.le_of_lt hlt) HB5.out.size)
      · have HRR := Lib.hid (HR.out.trans (if_neg h0))
        have hne : b.data.toList ≠ [] := by intro e; apply h0; rw [← List.length_eq_zero_iff, Array.length_toList] at e; exact e
        have hs1 : ¬ b.toList = [] := by rw [Lib.toList_data]; exact hne
        have hs0 : b.toList.isEmpty = false := by rw [Lib.toList_data]; simpa using hne
        have hb1 : 1 ≤ b.size := by omega
        clear HR hne h0
        go_wp2_with fail
        refine (put_c R s i line l _ ?_ b.size hb1 HBS hs ⟨4, 0, b, 0, 0, ⟨#[]⟩⟩ 0 none 0).mono ?_
        · exact HH.out.below_self HB5.out
        rintro e w3 ⟨rfl, hb3, hst⟩
        go_wp2_with fail
        go_ret
        exact LxRes.mkWord HRR.out (Below.trans (below_le' HB5.out (Nat.le_of_lt hlt)) hb3) hst
end Go.Proofs.YtfganjmadehhaaaGreatDoor
