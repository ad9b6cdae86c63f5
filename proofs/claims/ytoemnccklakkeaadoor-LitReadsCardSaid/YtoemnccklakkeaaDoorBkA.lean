/-
  Reading back what was said, plain: codes and texts in quotes.
-/
import Derived.Test.YtoemnccklakkeaaDoorTxP
namespace Go.Proofs.YtoemnccklakkeaaDoor
open Go.RowKit Go.Lib
set_option linter.unusedVariables false

/-- The letters of a name are at hand, from the k-th on. -/
def NmAt (s : ByteArray) (i : Nat) (n : ByteArray) (k : Nat) : Prop := ∀ j, k ≤ j → j < n.size → i + j < s.size ∧ pk s (i + j) = pk n j
theorem cpl_full (s : ByteArray) (i : Nat) (n : ByteArray) : ∀ (f k : Nat), k ≤ n.size → n.size ≤ k + f → NmAt s i n k → cpl s i n f k = n.size
  | 0, k, hk, hf, h => by unfold cpl; omega
  | f + 1, k, hk, hf, h => by
    unfold cpl
    by_cases hlt : k < n.size
    · obtain ⟨h1, h2⟩ := h k (Nat.le_refl _) hlt
      rw [if_pos ⟨hlt, h1, h2⟩]
      exact cpl_full s i n f (k + 1) (by omega) (by omega) (fun j hj hn => h j (by omega) hn)
    · rw [if_neg (fun hc => hlt hc.1)]; omega
theorem cpl_at (s : ByteArray) (i : Nat) (n : ByteArray) : ∀ (f k : Nat), k ≤ n.size → cpl s i n f k = n.size → NmAt s i n k
  | 0, k, hk, h => fun j hj hn => by unfold cpl at h; omega
  | f + 1, k, hk, h => by
    unfold cpl at h
    by_cases hc : k < n.size ∧ i + k < s.size ∧ pk s (i + k) = pk n k
    · rw [if_pos hc] at h
      have ih := cpl_at s i n f (k + 1) (by omega) h
      intro j hj hn
      by_cases e : j = k
      · subst e; exact hc.2
      · exact ih j (by omega) hn
    · rw [if_neg hc] at h
      exact fun j hj hn => by omega
theorem cp_iff (s : ByteArray) (i : Nat) (n : ByteArray) : cp s i n = n.size ↔ NmAt s i n 0 :=
  ⟨fun h => cpl_at s i n _ 0 (Nat.zero_le _) h, fun h => cpl_full s i n _ 0 (Nat.zero_le _) (by omega) h⟩

def nmAt (c : Nat) : ByteArray := nmL.getD c ByteArray.empty
theorem nm_apart : ∀ a b : Fin 15, a ≠ b → ∃ j : Fin 20, j.val < (nmAt a.val).size ∧ j.val < (nmAt b.val).size ∧ pk (nmAt a.val) j.val ≠ pk (nmAt b.val) j.val := by decide +kernel
theorem nm_unique {s : ByteArray} {i a b : Nat} (ha : a < 15) (hb : b < 15) (h1 : NmAt s i (nmAt a) 0) (h2 : NmAt s i (nmAt b) 0) : a = b := by
  by_cases e : a = b
  · exact e
  · obtain ⟨j, hj1, hj2, hne⟩ := nm_apart ⟨a, ha⟩ ⟨b, hb⟩ (by simpa using e)
    exact absurd ((h1 j.val (Nat.zero_le _) hj1).2.symm.trans (h2 j.val (Nat.zero_le _) hj2).2) hne

theorem codeTo_none {s : ByteArray} {i : Nat} : ∀ c, (∀ a, a < c → ¬ NmAt s i (nmAt a) 0) → (codeTo s i c).1 = 0 ∧ (codeTo s i c).2.1 = -1
  | 0, _ => ⟨rfl, rfl⟩
  | c + 1, h => by
    have ih := codeTo_none c (fun a ha => h a (by omega))
    rw [codeTo, codeStep, if_neg (fun hc => h c (by omega) ((cp_iff _ _ _).1 hc.1))]
    exact ih
theorem codeTo_some {s : ByteArray} {i a : Nat} (ha : a < 15) (h : NmAt s i (nmAt a) 0) : ∀ c, a < c → c ≤ 15 → (codeTo s i c).1 = a ∧ (codeTo s i c).2.1 = (nmAt a).size
  | 0, h0, _ => absurd h0 (Nat.not_lt_zero _)
  | c + 1, h0, hc => by
    by_cases e : a = c
    · subst e
      have hn := codeTo_none (s := s) (i := i) a (fun b hb hm => absurd (nm_unique (by omega) ha hm h) (by omega))
      have hcp : cp s i (nmAt a) = (nmAt a).size := (cp_iff _ _ _).2 h
      rw [codeTo, codeStep, if_pos ⟨hcp, by rw [hn.2]; omega⟩]
      exact ⟨rfl, by show ((cp s i (nmAt a) : Nat) : Int) = _; rw [hcp]⟩
    · have ih := codeTo_some ha h c (by omega) (by omega)
      rw [codeTo, codeStep, if_neg (fun hcc => e (nm_unique ha (by omega) h ((cp_iff _ _ _).1 hcc.1)))]
      exact ih
theorem codeSp_of {s : ByteArray} {i a : Nat} (ha : a < 15) (h : NmAt s i (nmAt a) 0) : codeSp s i = (i + (nmAt a).size, true, (a : Int)) := by
  obtain ⟨h1, h2⟩ := codeTo_some ha h 15 (by omega) (Nat.le_refl _)
  unfold codeSp
  simp only [h1, h2]
  rw [if_neg (by omega)]; rfl
theorem nmAt_of {s : ByteArray} {i : Nat} {n : ByteArray} {r : List UInt8} (h : s.data.toList.drop i = n.data.toList ++ r) : NmAt s i n 0 := by
  intro j _ hj
  have hn : n.data.toList.length = n.size := by rw [Array.length_toList]; rfl
  have hs : s.data.toList.length = s.size := by rw [Array.length_toList]; rfl
  have hl : (s.data.toList.drop i).length = (n.data.toList ++ r).length := by rw [h]
  rw [List.length_drop, List.length_append] at hl
  refine ⟨by omega, ?_⟩
  unfold pk
  rw [List.getD_eq_getElem?_getD, List.getD_eq_getElem?_getD, ← List.getElem?_drop, h, List.getElem?_append_left (by omega)]

/-- A text in quotes is read back. -/
theorem strLoop_back (s : ByteArray) (r : List UInt8) : ∀ (l : List UInt8) (f i : Nat) (acc : List UInt8), prB l = true → s.data.toList.drop i = escL l ++ 34 :: r → l.length < f → strLoop s f i acc = (i + (escL l).length, true, acc ++ l)
  | [], f + 1, i, acc, _, hd, _ => by
    rw [strLoop_end _ _ _ _ (pk_drop hd).1, List.append_nil]; rfl
  | c :: t, f + 1, i, acc, hp, hd, hf => by
    have hpc : prC c = true ∧ prB t = true := by unfold prB at hp ⊢; rw [List.all_cons, Bool.and_eq_true] at hp; exact hp
    simp only [List.length_cons] at hf
    by_cases hq : c = 34 ∨ c = 92
    · rw [escL, if_pos hq] at hd ⊢
      obtain ⟨k1, d1⟩ := pk_drop hd
      obtain ⟨k2, d2⟩ := pk_drop d1
      rw [strLoop_esc _ _ _ _ k1 (by rw [k2]; exact hq), k2, strLoop_back s r t f (i + 2) (acc ++ [c]) hpc.2 d2 (by omega)]
      simp only [List.length_cons, List.append_assoc, List.singleton_append, Prod.mk.injEq, and_true]
      omega
    · rw [escL, if_neg hq] at hd ⊢
      obtain ⟨k1, d1⟩ := pk_drop hd
      rw [strLoop_next _ _ _ _ (by rw [k1]; exact fun e => hq (.inl e)) (by rw [k1]; exact fun e => hq (.inr e)) (by rw [k1]; exact hpc.1), k1, strLoop_back s r t f (i + 1) (acc ++ [c]) hpc.2 d1 (by omega)]
      simp only [List.length_cons, List.append_assoc, List.singleton_append, Prod.mk.injEq, and_true]
      omega
theorem strSp_back (s : ByteArray) (r l : List UInt8) (i : Nat) (hp : prB l = true) (hd : s.data.toList.drop i = quoL l ++ r) : strSp s i = (i + (quoL l).length, true, l) := by
  unfold quoL at hd
  rw [List.cons_append, List.append_assoc, List.singleton_append] at hd
  obtain ⟨k1, d1⟩ := pk_drop hd
  have hlen : (escL l ++ 34 :: r).length ≤ s.size := by rw [← d1, List.length_drop, Array.length_toList]; exact Nat.sub_le _ _
  rw [List.length_append] at hlen
  have hle := (escL_len l).1
  have hb := strLoop_back s r l (s.size + 1) (i + 1) [] hp d1 (by omega)
  unfold strSp
  simp only [hb]
  unfold quoL
  simp only [if_true, List.nil_append, List.length_cons, List.length_append, List.length_nil, Prod.mk.injEq, and_true]
  omega
end Go.Proofs.YtoemnccklakkeaaDoor
