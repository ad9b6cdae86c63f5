/-
  LitNumbers: the walk of the law.
-/
import Derived.Test.YtoemnccklakkeaaDoorTxX
namespace Go.Proofs.YtoemnccklakkeaaDoor
open Go.RowKit Go.Lib
set_option linter.unusedVariables false

/-- What is read of a number's sign and its digits. -/
theorem rdV_num (s : ByteArray) (n : Int) (hs : s.data.toList = 35 :: itoa n) :
    (-2147483648 ≤ n ∧ n ≤ 2147483647 → rdV s = (s.size, true, val1 1 n ByteArray.empty .nil)) ∧ (¬(-2147483648 ≤ n ∧ n ≤ 2147483647) → (rdV s).2.1 = false) := by
  have hsz : s.size = (itoa n).length + 1 := by
    have h1 : s.size = s.data.toList.length := by rw [Array.length_toList]; rfl
    rw [h1, hs, List.length_cons]
  obtain ⟨hk, hd⟩ := pk_drop (s := s) (i := 0) (c := 35) (r := itoa n) (by rw [List.drop_zero]; exact hs)
  have sp := numSp_itoa s 2147483648 2147483647 (by omega) (by omega) n [] (fun c t h => by cases h) 1 (by rw [List.append_nil]; exact hd)
  have hrd : rdV s = ((numSp s (-2147483648) 2147483647 1).1, (numSp s (-2147483648) 2147483647 1).2.1, val1 1 (numSp s (-2147483648) 2147483647 1).2.2 ByteArray.empty .nil) := by
    unfold rdV
    rw [valSp, if_pos hk]
  rw [hrd]
  constructor
  · intro hin
    rw [if_pos (by omega)] at sp
    rw [show ((-2147483648 : Int)) = -((2147483648 : Nat) : Int) from rfl, show ((2147483647 : Int)) = ((2147483647 : Nat) : Int) from rfl, sp, hsz]
    simp only [Prod.mk.injEq, and_true]; omega
  · intro hout
    rw [if_neg (by omega)] at sp
    obtain ⟨j, m, hj⟩ := sp
    rw [show ((-2147483648 : Int)) = -((2147483648 : Nat) : Int) from rfl, show ((2147483647 : Int)) = ((2147483647 : Nat) : Int) from rfl, hj]

theorem walk_num (k n : Int) (h : k = 0 ∨ (k = 1 ∧ -2147483648 ≤ n ∧ n ≤ 2147483647)) : (walk1 k n ⟨#[]⟩ .nil 1 4096).1 = 0 := by
  have hk2 : k ≠ 2 := by omega
  have hm : mOf k ⟨#[]⟩ = 0 := by unfold mOf; rw [if_neg hk2]
  have ho : ownE k n ⟨#[]⟩ VL.nil.len = 0 := by
    unfold ownE
    rw [if_neg (by omega), if_neg (by omega), if_neg (by omega), if_neg, if_neg (by decide)]
    rintro (⟨_, h⟩ | ⟨_, h⟩ | ⟨h, _⟩)
    · exact h rfl
    · exact absurd h (Nat.lt_irrefl _)
    · omega
  unfold walk1
  rw [if_neg (by decide), hm, if_neg (by decide), if_pos ho]; rfl

/-- What is handed back by Read, opened. -/
theorem rdOut_open {ea : Nat → Addr} {s : ByteArray} {w w' : World} {e : Ending} (h : RdOut ea s w e w') :
    ∃ (k n : Int) (t : ByteArray) (A : Option Addr) (L C : Nat) (ev : Value), e = .returned (.tuple #[.agg #[.int .i64 k, .int .i64 n, .string t, .slice A L C], ev]) ∧ Below w.heap.size w w' ∧
      ((∃ T V, ev = .iface T V) ∧ ((rdV s).2.1 = false ∨ (rdV s).1 < s.size ∨ ∃ k n t sub, (rdV s).2.2 = val1 k n t sub ∧ (walk1 k n t sub 1 4096).1 ≠ 0) ∨ (ev = .nilIface ∧ (rdV s).2.1 = true ∧ s.size ≤ (rdV s).1 ∧ ∃ sub, (rdV s).2.2 = val1 k n t sub ∧ (walk1 k n t sub 1 4096).1 = 0)) := by
  obtain ⟨hb, ⟨hbad, A, _, _, rfl⟩ | ⟨hgood, k, n, t, sub, hv, ⟨hne, rfl⟩ | ⟨h0, sa, sc, _, _, rfl⟩⟩⟩ := h
  · refine ⟨0, 0, ⟨#[]⟩, none, 0, 0, _, rfl, hb, .inl ⟨⟨_, _, rfl⟩, ?_⟩⟩
    unfold rdBad at hbad
    cases hq : (rdV s).2.1 with
    | false => exact .inl rfl
    | true => refine .inr (.inl ?_); rcases Nat.lt_or_ge (rdV s).1 s.size with h | h; exact h; exact absurd ⟨hq, h⟩ hbad
  · refine ⟨0, 0, ⟨#[]⟩, none, 0, 0, _, rfl, hb, .inl ⟨⟨_, _, by unfold errV; rw [if_neg hne]⟩, .inr (.inr ⟨k, n, t, sub, hv, hne⟩)⟩⟩
  · have hg : (rdV s).2.1 = true ∧ s.size ≤ (rdV s).1 := Classical.not_not.1 hgood
    exact ⟨k, n, t, sa, sub.len, sc, _, rfl, hb, .inr ⟨rfl, hg.1, hg.2, sub, hv, h0⟩⟩

/-- What is read of a number's sign and its digits, handed back. -/
theorem read_num {ea : Nat → Addr} {s : ByteArray} {v : Int} (hs : s.data.toList = 35 :: itoa v) {w w' : World} {e : Ending} (h : RdOut ea s w e w') :
    Below w.heap.size w w' ∧ ((-2147483648 ≤ v ∧ v ≤ 2147483647 ∧ ∃ t A L C, e = .returned (.tuple #[.agg #[.int .i64 1, .int .i64 v, .string t, .slice A L C], .nilIface])) ∨
      (¬(-2147483648 ≤ v ∧ v ≤ 2147483647) ∧ ∃ k n t A L C T V, e = .returned (.tuple #[.agg #[.int .i64 k, .int .i64 n, .string t, .slice A L C], .iface T V]))) := by
  obtain ⟨k, n, t, A, L, C, ev, rfl, hb, h⟩ := rdOut_open h
  obtain ⟨h1, h2⟩ := rdV_num s v hs
  refine ⟨hb, ?_⟩
  by_cases hin : -2147483648 ≤ v ∧ v ≤ 2147483647
  · have hr := h1 hin
    rcases h with ⟨_, h | h | ⟨k', n', t', sub, hv, hne⟩⟩ | ⟨rfl, _, _, sub, hv, _⟩
    · rw [hr] at h; cases h
    · rw [hr] at h; exact absurd h (Nat.lt_irrefl _)
    · rw [hr] at hv
      injection hv with e1 e2 e3 e4 _
      subst e1; subst e2; subst e3; subst e4
      exact absurd (walk_num 1 v (.inr ⟨rfl, hin⟩)) hne
    · rw [hr] at hv
      injection hv with e1 e2 e3 e4 _
      subst e1; subst e2; subst e3; subst e4
      exact .inl ⟨hin.1, hin.2, _, _, _, _, rfl⟩
  · have hr := h2 hin
    rcases h with ⟨⟨T, V, rfl⟩, _⟩ | ⟨_, h, _⟩
    · exact .inr ⟨hin, _, _, _, _, _, _, _, _, rfl⟩
    · rw [hr] at h; cases h
end Go.Proofs.YtoemnccklakkeaaDoor
