/- Contracts of the functions that the statement reaches, and the plain mathematics beneath: several texts joined. -/
import Derived.Test.YtggngahmafbihaaGreatDoorPwyL
import Derived.Test.YtggngahmafbihaaGreatDoorPwyD
import Derived.Test.YtggngahmafbihaaGreatDoorPwyA
import Derived.Test.YtggngahmafbihaaGreatDoorPwyB
import Derived.Test.YtggngahmafbihaaGreatDoorPwyC
import Derived.Test.YtggngahmafbihaaGreatDoorPwyE
import Derived.Test.YtggngahmafbihaaGreatDoorPwyF
import Derived.Test.YtggngahmafbihaaGreatDoorPwyG
import Derived.Test.YtggngahmafbihaaGreatDoorPwyH
import Derived.Test.YtggngahmafbihaaGreatDoorPwyI
import Derived.Test.YtggngahmafbihaaGreatDoorPwyJ
import Derived.Test.YtggngahmafbihaaGreatDoorPwyK
namespace Go.Proofs.YtggngahmafbihaaGreatDoor
open Go.RowKit Go.Lib
set_option linter.unusedVariables false

theorem ext_split {s : ByteArray} {a r : List UInt8} {i : Nat} (hd : s.data.toList.drop i = a ++ r) : (s.extract i (i + a.length)).data.toList = a := by
  rw [ByteArray.data_extract, Array.toList_extract, List.extract_eq_take_drop, hd, show i + a.length - i = a.length by omega, List.take_left]
/-- No letter and no digit goes on. -/
def Stop (r : List UInt8) : Prop := ∀ c t, r = c :: t → smB c = false ∧ gtB c = false ∧ digB c = false
end Go.Proofs.YtggngahmafbihaaGreatDoor
namespace Go.Proofs.YtggngahmafbihaaGreatDoor
open Go.RowKit Go.Lib
set_option linter.unusedVariables false

theorem allSp_end {s : ByteArray} {i : Nat} {line : Int} {out : List Tok} (h : ¬ i < s.size) : ∀ f, allSp s f i line out = .inr out
  | 0 => rfl
  | f + 1 => by rw [allSp, if_neg h]
theorem allSp_word {s : ByteArray} {f i n : Nat} {line : Int} {out : List Tok} {t : Tok} (h : i < s.size) (h10 : pk s i ≠ 10) (h32 : pk s i ≠ 32) (hw : wordR s i line = .word n t) : allSp s (f + 1) i line out = allSp s f (i + n) line (out ++ [t]) := by
  rw [allSp, if_pos h, if_neg h10, if_neg h32, hw]
theorem allSp_bad {s : ByteArray} {f i c : Nat} {line : Int} {out : List Tok} (h : i < s.size) (h10 : pk s i ≠ 10) (h32 : pk s i ≠ 32) (hw : wordR s i line = .bad c) : allSp s (f + 1) i line out = .inl (c, line) := by
  rw [allSp, if_pos h, if_neg h10, if_neg h32, hw]
/-- A literal that a word may be. -/
def LitOk (k n : Int) (t : ByteArray) : Prop := ownE k n t 0 = 0 ∧ k ≠ 4 ∧ (k = 0 → 0 ≤ n) ∧ t.size < 4096 ∧ -9223372036854775808 ≤ n ∧ n ≤ 9223372036854775807
end Go.Proofs.YtggngahmafbihaaGreatDoor
namespace Go.Proofs.YtggngahmafbihaaGreatDoor
open Go.RowKit Go.Lib
set_option linter.unusedVariables false

/-- A name's letters. -/
def nameL (l : List UInt8) : Prop := ∃ c r, l = c :: r ∧ smB c = true ∧ (∀ x ∈ l, (smB x || digB x) = true) ∧ l.length ≤ 32
/-- A word that lex may have read. -/
def TokOk (t : Tok) : Prop :=
  (t.kind = 3 ∧ t.s = ⟨#[]⟩ ∧ LitOk t.k t.n t.t) ∨
  ((t.kind = if keysL.contains t.s then 2 else 1) ∧ nameL t.s.data.toList ∧ t.k = 0 ∧ t.n = 0 ∧ t.t = ⟨#[]⟩) ∨
  (t.kind = 4 ∧ t.s ∈ signsL ∧ t.k = 0 ∧ t.n = 0 ∧ t.t = ⟨#[]⟩)
end Go.Proofs.YtggngahmafbihaaGreatDoor
namespace Go.Proofs.YtggngahmafbihaaGreatDoor
open Go.RowKit Go.Lib
set_option linter.unusedVariables false

end Go.Proofs.YtggngahmafbihaaGreatDoor
namespace Go.Proofs.YtggngahmafbihaaGreatDoor
open Go.RowKit Go.Lib
set_option linter.unusedVariables false

end Go.Proofs.YtggngahmafbihaaGreatDoor
namespace Go.Proofs.YtggngahmafbihaaGreatDoor
open Go.RowKit Go.Lib
set_option linter.unusedVariables false

theorem runN_drop (s : ByteArray) (p : UInt8 → Bool) : ∀ (f i : Nat), i ≤ s.size → ∃ a r, s.data.toList.drop i = a ++ r ∧ a.length = runN s p f i ∧ ∀ c ∈ a, p c = true
  | 0, i, h => ⟨[], _, rfl, rfl, fun c hc => by cases hc⟩
  | f + 1, i, h => by
    by_cases hc : i < s.size ∧ p (pk s i) = true
    · obtain ⟨a, r, h1, h2, h3⟩ := runN_drop s p f (i + 1) (by omega)
      have hz : s.data.toList.length = s.size := by rw [Array.length_toList]; rfl
      have hd : s.data.toList.drop i = s.data.toList[i]'(by rw [hz]; exact hc.1) :: s.data.toList.drop (i + 1) := List.drop_eq_getElem_cons (by rw [hz]; exact hc.1)
      have hp := (pk_drop hd).1
      refine ⟨pk s i :: a, r, ?_, ?_, ?_⟩
      · rw [hd, ← hp, h1]; rfl
      · rw [runN, if_pos hc, List.length_cons, h2]
      · intro c hm
        rcases List.mem_cons.1 hm with rfl | hm
        · exact hc.2
        · exact h3 c hm
    · exact ⟨[], _, rfl, by rw [runN, if_neg hc]; rfl, fun c hc => by cases hc⟩
theorem quoEnd_le (s : ByteArray) : ∀ (f i j : Nat), quoEnd s f i = some j → i < j ∧ j ≤ s.size
  | 0, i, j, h => by cases h
  | f + 1, i, j, h => by
    rw [quoEnd] at h
    split at h
    · rename_i hc
      split at h
      · injection h with h; omega
      · split at h
        · have := quoEnd_le s f _ _ h; omega
        · have := quoEnd_le s f _ _ h; omega
    · cases h
end Go.Proofs.YtggngahmafbihaaGreatDoor
namespace Go.Proofs.YtggngahmafbihaaGreatDoor
open Go.RowKit Go.Lib
set_option linter.unusedVariables false

theorem uintM_big : ∀ (l : List UInt8) (acc : Nat), (∀ c ∈ l, isDg c = true) → acc ≤ 18446744073709551615 → 18446744073709551615 < dval acc l → parseUintM 18446744073709551615 acc l = .range
  | [], acc, _, h0, h => by rw [dval_nil] at h; omega
  | c :: r, acc, hd, h0, h => by
    have hc := isDg_iff.1 (hd c (by simp))
    rw [dval_cons, dg1_eq] at h
    rw [parseUintM, if_pos hc]
    by_cases h1 : 1844674407370955162 ≤ acc
    · rw [if_pos h1]
    · rw [if_neg h1]
      by_cases h2 : 18446744073709551615 < acc * 10 + (c.toNat - 48)
      · rw [if_pos h2]
      · rw [if_neg h2]
        exact uintM_big r _ (fun x hx => hd x (by simp [hx])) (by omega) h
theorem parse_digits {l : List UInt8} (hd : ∀ c ∈ l, isDg c = true) (hne : l ≠ []) : parseIntB 64 l = if 9223372036854775807 < dval 0 l then .range else .ok (dval 0 l : Int) := by
  obtain ⟨a, r, rfl⟩ : ∃ a r, l = a :: r := by cases l with | nil => exact absurd rfl hne | cons a r => exact ⟨a, r, rfl⟩
  have ha := isDg_iff.1 (hd a (by simp))
  unfold parseIntB parseUintB
  simp only
  rw [if_neg (show ¬ (a.toNat = 43 ∨ a.toNat = 45) by omega)]
  simp only [if_neg hne]
  rw [show (2 : Nat) ^ 64 - 1 = 18446744073709551615 from by decide]
  by_cases hb : 18446744073709551615 < dval 0 (a :: r)
  · rw [uintM_big _ 0 hd (by omega) hb, if_pos (by omega)]
  · rw [uintM_digits _ 0 hd (by omega)]
    simp only
    by_cases h2 : 9223372036854775807 < dval 0 (a :: r)
    · rw [if_pos h2, if_pos (by omega)]
    · rw [if_neg h2, if_neg (by omega), if_neg (by omega), if_neg (by omega)]
/-- The bytes of a run are of its sort. -/
theorem run_all (s : ByteArray) (p : UInt8 → Bool) (i : Nat) (h : i ≤ s.size) : ∀ c ∈ (s.extract i (i + run s p i)).data.toList, p c = true := by
  obtain ⟨a, r, h1, h2, h3⟩ := runN_drop s p (s.size + 1) i h
  intro c hc
  rw [show run s p i = a.length from h2.symm, ext_split h1] at hc
  exact h3 c hc
theorem run_ext_len (s : ByteArray) (p : UInt8 → Bool) (i : Nat) (h : i ≤ s.size) : (s.extract i (i + run s p i)).size = run s p i := by
  have := run_le s p i h
  rw [ByteArray.size_extract]; omega
theorem run_head (s : ByteArray) (n i : Nat) (h1 : 1 ≤ n) (h : i + n ≤ s.size) : pk (s.extract i (i + n)) 0 = pk s i := by
  unfold pk
  rw [ByteArray.data_extract, Array.toList_extract, List.extract_eq_take_drop, List.getD_eq_getElem?_getD, List.getD_eq_getElem?_getD, List.getElem?_take_of_lt (by omega), List.getElem?_drop, Nat.add_zero]

/-- What a number's walk shows. -/
def DgRes (ea : Nat → Addr) (B : Nat) (line : Int) (r : Nat ⊕ (Int × Nat)) (e : Ending) (w' : World) : Prop := match r with
  | .inl c => ∃ A, B ≤ A ∧ w'.heap[A]? = some (.cells #[.int .i64 line, .iface 270 (.pointer (some (ea c)))] 73 (0, 0)) ∧ e = .returned (.tuple #[.int .i64 0, .int .i64 0, .iface 70 (.pointer (some ⟨A, 0, none⟩))])
  | .inr (v, n) => e = .returned (.tuple #[.int .i64 v, .int .i64 n, .nilIface])
theorem DgRes.mkBad {ea : Nat → Addr} {c : Nat} {line : Int} {r : Nat ⊕ (Int × Nat)} {w w1 : World} (hr : r = .inl c) (hb : Below w.heap.size w w1) :
    DgRes ea w.heap.size line r (.returned (.tuple #[.int .i64 0, .int .i64 0, .iface 70 (.pointer (some ⟨w1.heap.size, 0, none⟩))])) (w1.alloc (.cells #[.int .i64 line, .iface 270 (.pointer (some (ea c)))] 73)) ∧
    Below w.heap.size w (w1.alloc (.cells #[.int .i64 line, .iface 270 (.pointer (some (ea c)))] 73)) := by
  subst hr
  exact ⟨⟨_, hb.size, heap_alloc_new w1 _, rfl⟩, hb.alloc hb.size _⟩
theorem DgRes.mkOk {ea : Nat → Addr} {B n : Nat} {v line : Int} {r : Nat ⊕ (Int × Nat)} {w' : World} (hr : r = .inr (v, n)) : DgRes ea B line r (.returned (.tuple #[.int .i64 v, .int .i64 n, .nilIface])) w' := by
  subst hr; exact rfl

set_option maxRecDepth 100000 in
set_option maxHeartbeats 4000000 in
theorem digits_c (R : Nat) (s : ByteArray) (i0 : Nat) (line : Int) (v : Value) (i : Nat) (ea : Nat → Addr) (w : World) (ha : LxAt w R s i0 line v) (he : LxEnv w ea) (hi : i ≤ s.size) (hs : s.size ≤ 1000000000) (hR : 24 ≤ R) :
    Calls Tryz.prog 120 #[.pointer (some ⟨R, 0, none⟩), .int .i64 i] w fun e w' => DgRes ea w.heap.size line (dgsSp s i) e w' ∧ Below w.heap.size w w' := by
  have hlt := ha.lt
  have hc0 := ha.c0
  have RC := Lib.hid (run_c _ _ enters_digit digit_is R s i0 line v i w ha hi hs)
  obtain ⟨n, hn⟩ : ∃ n, n = run s digB i := ⟨_, rfl⟩
  have hn2 : i + n ≤ s.size := by rw [hn]; exact run_le s _ i hi
  obtain ⟨sub, hsub⟩ : ∃ sub, sub = s.extract i (i + n) := ⟨_, rfl⟩
  have hall : ∀ c ∈ sub.data.toList, digB c = true := by rw [hsub, hn]; exact run_all s digB i hi
  have hsz : sub.size = n := by rw [hsub, hn]; exact run_ext_len s digB i hi
  obtain ⟨r, hr⟩ : ∃ r, r = dgsSp s i := ⟨_, rfl⟩
  have HR : Hid (r = if n = 0 ∨ (1 < n ∧ pk s i = 48) ∨ (i + n < s.size ∧ (smB (pk s (i + n)) = true ∨ gtB (pk s (i + n)) = true)) then .inl 111
      else if 9223372036854775807 < dval 0 sub.data.toList then .inl 105 else .inr (dval 0 sub.data.toList, n)) := by rw [hr, hsub, hn]; rfl
  rw [← hr]
  rw [← hn] at RC
  have HA := Lib.hid ha
  have HE := Lib.hid he
  have e1 := he.err.syn
  have e2 := he.err.range
  have HS := Lib.hid hsub
  have HSZ := Lib.hid hsz
  obtain ⟨g1, g2, g3⟩ := sum_in i n (by omega)
  have hdz : (i : Int) + (n : Int) ≤ (s.size : Int) := by omega
  have hdw : (i : Int) ≤ (i : Int) + (n : Int) := by omega
  clear hr hn he ha hsub
  by_cases h0 : n = 0
  · have HB := Lib.hid (HR.out.trans (if_pos (.inl h0)))
    have hz : (((n : Nat) : Int) == 0) = true := by subst h0; rfl
    clear HR h0 hsz hall
    go_enter Tryz.func120, Tryz.ntmps120
    go_wp2_with fail
    refine RC.out.mono ?_
    rintro e w1 ⟨rfl, n1, rfl⟩
    go_wp2_with fail
    refine (bad_c R s i0 line v _ _ (by exact HA.out)).mono ?_
    rintro e w2 ⟨rfl, rfl⟩
    go_wp2_with fail
    go_returns
    exact DgRes.mkBad HB.out ⟨rfl, rfl, rfl, Nat.le_refl _, fun _ _ => rfl⟩
  have h1 : 1 ≤ n := by omega
  have hz : (((n : Nat) : Int) == 0) = false := by rw [beq_eq_false_iff_ne]; omega
  have hpk : pk (s.extract i (i + n)) 0 = pk s i := run_head s n i h1 hn2
  have hp0 : (0 : Nat) < (s.extract i (i + n)).size := by rw [← HS.out]; omega
  have hpq := pk_in (s.extract i (i + n)) 0 hp0
  have hz0 : (0 : Int) < ((s.extract i (i + n)).size : Int) := by omega
  by_cases hB : 1 < n ∧ pk s i = 48
  · have HB := Lib.hid (HR.out.trans (if_pos (.inr (.inl hB))))
    have hgt : decide ((1 : Int) < (n : Int)) = true := by simp; omega
    have hgt' : decide ((n : Int) > 1) = true := by simp; omega
    have h48 : ((((s.extract i (i + n))[0]'hp0).toNat : Int) == 48) = true := by rw [← hpq, hpk, hB.2]; rfl
    clear HR h0 hsz hall hpk hpq hB
    go_enter Tryz.func120, Tryz.ntmps120
    go_wp2_with fail
    refine RC.out.mono ?_
    rintro e w1 ⟨rfl, n1, rfl⟩
    go_wp2_with fail
    refine (bad_c R s i0 line v _ _ (by exact HA.out)).mono ?_
    rintro e w2 ⟨rfl, rfl⟩
    go_wp2_with fail
    go_returns
    exact DgRes.mkBad HB.out ⟨rfl, rfl, rfl, Nat.le_refl _, fun _ _ => rfl⟩
  have hlo : (n = 1) ∨ (1 < n ∧ ((((s.extract i (i + n))[0]'hp0).toNat : Int) == 48) = false) := by
    rcases Nat.lt_or_ge 1 n with h | h
    · refine .inr ⟨h, ?_⟩
      rw [beq_eq_false_iff_ne, ← hpq, hpk]
      intro e
      exact hB ⟨h, UInt8.toNat_inj.1 (by show (pk s i).toNat = 48; omega)⟩
    · exact .inl (by omega)
  have hBn : ¬ (n = 0 ∨ (1 < n ∧ pk s i = 48)) := by rintro (h | h); exact h0 h; exact hB h
  have hrest : r = if i + n < s.size ∧ (smB (pk s (i + n)) = true ∨ gtB (pk s (i + n)) = true) then .inl 111
      else if 9223372036854775807 < dval 0 sub.data.toList then .inl 105 else .inr (dval 0 sub.data.toList, n) := by
    rw [HR.out]
    by_cases hc : i + n < s.size ∧ (smB (pk s (i + n)) = true ∨ gtB (pk s (i + n)) = true)
    · rw [if_pos hc, if_pos (.inr (.inr hc))]
    · rw [if_neg hc, if_neg (by rintro (h | h | h); exact h0 h; exact hB h; exact hc h)]
  have hne : sub.data.toList ≠ [] := by
    intro e; have : sub.size = 0 := by rw [ByteArray.size, ← Array.length_toList, e]; rfl
    omega
  have hpi := parse_digits (fun c hc => by rw [← digB_isDg]; exact hall c hc) hne
  obtain ⟨V, hV⟩ : ∃ V : Nat, V = dval 0 sub.data.toList := ⟨_, rfl⟩
  rw [← hV] at hrest hpi
  have HRR := Lib.hid hrest
  have PX : Hid (∀ W, Below w.heap.size w W → Calls Tryz.prog 156 #[.string sub, .int .i64 10, .int .i64 64] W fun e w' => Below w.heap.size w w' ∧
      ((9223372036854775807 < V ∧ ∃ x N, e = .returned (.tuple #[.int .i64 x, .iface 232 (.pointer (some ⟨N, 0, none⟩))])) ∨
       (¬ 9223372036854775807 < V ∧ e = .returned (.tuple #[.int .i64 (V), .nilIface])))) := by
    intro W hW
    by_cases hbig : 9223372036854775807 < V
    · rw [if_pos hbig] at hpi
      obtain ⟨te, pe, hv⟩ := (HE.out.str.below hW (Nat.le_refl _)).rng
      refine (Tryz.strconv_ParseInt_10_at64_range sub (by omega) hpi _ W hv (.inr ⟨te, pe, rfl⟩)).mono ?_
      rintro e w' ⟨N, h1, _, _, h4⟩
      exact ⟨hW.trans (below_le' h4 hW.size), .inl ⟨hbig, _, N, h1⟩⟩
    · rw [if_neg hbig] at hpi
      refine (Tryz.strconv_ParseInt_10_at64_ok sub (by omega) _ hpi W).mono ?_
      rintro e w' ⟨h1, hw⟩
      refine ⟨hW.trans (below_le' ?_ hW.size), .inr ⟨hbig, h1⟩⟩
      rcases hw with rfl | ⟨t, rfl⟩
      · exact Below.refl _ _
      · exact bytesWorld_below _ _ _
  clear hV hrest HR hall hpk hpq hB hBn hpi hne hsz
  rcases hlo with hlo0 | ⟨hlo0, h48⟩
  · have hgt : decide ((1 : Int) < (n : Int)) = false := by simp; omega
    have hgt' : decide ((n : Int) > 1) = false := by simp; omega
    have hle1 : (n : Int) ≤ 1 := by omega
    clear hlo0
    by_cases hin : i + n < s.size
    · have hdx : decide ((i : Int) + (n : Int) < (s.size : Int)) = true := by simp; omega
      have hdy : (i : Int) + (n : Int) < (s.size : Int) := by omega
      have SC := Lib.hid (fun W => by have := small_c (pk s (i + n)) W; rw [pk_in s (i + n) hin] at this; exact this)
      have GC := Lib.hid (fun W => by have := great_c (pk s (i + n)) W; rw [pk_in s (i + n) hin] at this; exact this)
      cases hsm : smB (pk s (i + n)) with
      | true =>
        have HB := Lib.hid (HRR.out.trans (if_pos ⟨hin, .inl hsm⟩))
        rw [← pk_in s (i + n) hin, hsm, pk_in s (i + n) hin] at SC
        clear HRR hsm PX GC h0
        go_enter Tryz.func120, Tryz.ntmps120
        go_wp2_with fail
        refine RC.out.mono ?_
        rintro e w1 ⟨rfl, n1, rfl⟩
        go_wp2_with fail
        refine (SC.out _).mono ?_
        rintro e w2 ⟨rfl, rfl⟩
        go_wp2_with fail
        refine (bad_c R s i0 line v _ _ (by exact HA.out)).mono ?_
        rintro e w2 ⟨rfl, rfl⟩
        go_wp2_with fail
        go_returns
        exact DgRes.mkBad HB.out ⟨rfl, rfl, rfl, Nat.le_refl _, fun _ _ => rfl⟩
      | false =>
        rw [← pk_in s (i + n) hin, hsm, pk_in s (i + n) hin] at SC
        cases hgr : gtB (pk s (i + n)) with
        | true =>
          have HB := Lib.hid (HRR.out.trans (if_pos ⟨hin, .inr hgr⟩))
          rw [← pk_in s (i + n) hin, hgr, pk_in s (i + n) hin] at GC
          clear HRR hsm hgr PX h0
          go_enter Tryz.func120, Tryz.ntmps120
          go_wp2_with fail
          refine RC.out.mono ?_
          rintro e w1 ⟨rfl, n1, rfl⟩
          go_wp2_with fail
          refine (SC.out _).mono ?_
          rintro e w2 ⟨rfl, rfl⟩
          go_wp2_with fail
          refine (GC.out _).mono ?_
          rintro e w2 ⟨rfl, rfl⟩
          go_wp2_with fail
          refine (bad_c R s i0 line v _ _ (by exact HA.out)).mono ?_
          rintro e w2 ⟨rfl, rfl⟩
          go_wp2_with fail
          go_returns
          exact DgRes.mkBad HB.out ⟨rfl, rfl, rfl, Nat.le_refl _, fun _ _ => rfl⟩
        | false =>
          have HB := Lib.hid (HRR.out.trans (if_neg (by rintro ⟨_, h | h⟩; rw [hsm] at h; cases h; rw [hgr] at h; cases h)))
          rw [← pk_in s (i + n) hin, hgr, pk_in s (i + n) hin] at GC
          clear HRR hsm hgr h0
          go_enter Tryz.func120, Tryz.ntmps120
          go_wp2_with fail
          refine RC.out.mono ?_
          rintro e w1 ⟨rfl, n1, rfl⟩
          go_wp2_with fail
          refine (SC.out _).mono ?_
          rintro e w2 ⟨rfl, rfl⟩
          go_wp2_with fail
          refine (GC.out _).mono ?_
          rintro e w2 ⟨rfl, rfl⟩
          go_wp2_with fail
          have PY0 := PX.out (w.drewN n1) ⟨rfl, rfl, rfl, Nat.le_refl _, fun _ _ => rfl⟩
          have HB0 := HB.out
          rw [HS.out] at PY0
          have PY := Lib.hid PY0
          have HB1 := Lib.hid HB0
          clear PX PY0 HB0 HB
          refine PY.out.mono ?_
          rintro e w3 ⟨hb3, hres⟩
          have HB3 := Lib.hid hb3
          have e4 := (HE.out.below hb3 (by omega)).err.range
          have HA3 := Lib.hid (HA.out.below hb3 hlt)
          rcases hres with ⟨hbig, x, N, rfl⟩ | ⟨hbig, rfl⟩
          · have HF := Lib.hid (HB1.out.trans (if_pos hbig))
            clear hb3 hbig PY e1 e2
            go_wp2_with fail
            refine (bad_c R s i0 line v _ _ (by exact HA3.out)).mono ?_
            rintro e w2 ⟨rfl, rfl⟩
            go_wp2_with fail
            go_returns
            exact DgRes.mkBad HF.out HB3.out
          · have HF := Lib.hid (HB1.out.trans (if_neg hbig))
            clear hb3 hbig PY e1 e2
            go_wp2_with fail
            go_returns
            exact ⟨DgRes.mkOk HF.out, HB3.out⟩
    · have hdx : decide ((i : Int) + (n : Int) < (s.size : Int)) = false := by simp; omega
      have HB := Lib.hid (HRR.out.trans (if_neg (fun h => hin h.1)))
      clear HRR h0
      go_enter Tryz.func120, Tryz.ntmps120
      go_wp2_with fail
      refine RC.out.mono ?_
      rintro e w1 ⟨rfl, n1, rfl⟩
      go_wp2_with fail
      have PY0 := PX.out (w.drewN n1) ⟨rfl, rfl, rfl, Nat.le_refl _, fun _ _ => rfl⟩
      have HB0 := HB.out
      rw [HS.out] at PY0
      have PY := Lib.hid PY0
      have HB1 := Lib.hid HB0
      clear PX PY0 HB0 HB
      refine PY.out.mono ?_
      rintro e w3 ⟨hb3, hres⟩
      have HB3 := Lib.hid hb3
      have e4 := (HE.out.below hb3 (by omega)).err.range
      have HA3 := Lib.hid (HA.out.below hb3 hlt)
      rcases hres with ⟨hbig, x, N, rfl⟩ | ⟨hbig, rfl⟩
      · have HF := Lib.hid (HB1.out.trans (if_pos hbig))
        clear hb3 hbig PY e1 e2
        go_wp2_with fail
        refine (bad_c R s i0 line v _ _ (by exact HA3.out)).mono ?_
        rintro e w2 ⟨rfl, rfl⟩
        go_wp2_with fail
        go_returns
        exact DgRes.mkBad HF.out HB3.out
      · have HF := Lib.hid (HB1.out.trans (if_neg hbig))
        clear hb3 hbig PY e1 e2
        go_wp2_with fail
        go_returns
        exact ⟨DgRes.mkOk HF.out, HB3.out⟩
  · have hgt : decide ((1 : Int) < (n : Int)) = true := by simp; omega
    have hgt' : decide ((n : Int) > 1) = true := by simp; omega
    by_cases hin : i + n < s.size
    · have hdx : decide ((i : Int) + (n : Int) < (s.size : Int)) = true := by simp; omega
      have hdy : (i : Int) + (n : Int) < (s.size : Int) := by omega
      have SC := Lib.hid (fun W => by have := small_c (pk s (i + n)) W; rw [pk_in s (i + n) hin] at this; exact this)
      have GC := Lib.hid (fun W => by have := great_c (pk s (i + n)) W; rw [pk_in s (i + n) hin] at this; exact this)
      cases hsm : smB (pk s (i + n)) with
      | true =>
        have HB := Lib.hid (HRR.out.trans (if_pos ⟨hin, .inl hsm⟩))
        rw [← pk_in s (i + n) hin, hsm, pk_in s (i + n) hin] at SC
        clear HRR hsm PX GC h0
        go_enter Tryz.func120, Tryz.ntmps120
        go_wp2_with fail
        refine RC.out.mono ?_
        rintro e w1 ⟨rfl, n1, rfl⟩
        go_wp2_with fail
        refine (SC.out _).mono ?_
        rintro e w2 ⟨rfl, rfl⟩
        go_wp2_with fail
        refine (bad_c R s i0 line v _ _ (by exact HA.out)).mono ?_
        rintro e w2 ⟨rfl, rfl⟩
        go_wp2_with fail
        go_returns
        exact DgRes.mkBad HB.out ⟨rfl, rfl, rfl, Nat.le_refl _, fun _ _ => rfl⟩
      | false =>
        rw [← pk_in s (i + n) hin, hsm, pk_in s (i + n) hin] at SC
        cases hgr : gtB (pk s (i + n)) with
        | true =>
          have HB := Lib.hid (HRR.out.trans (if_pos ⟨hin, .inr hgr⟩))
          rw [← pk_in s (i + n) hin, hgr, pk_in s (i + n) hin] at GC
          clear HRR hsm hgr PX h0
          go_enter Tryz.func120, Tryz.ntmps120
          go_wp2_with fail
          refine RC.out.mono ?_
          rintro e w1 ⟨rfl, n1, rfl⟩
          go_wp2_with fail
          refine (SC.out _).mono ?_
          rintro e w2 ⟨rfl, rfl⟩
          go_wp2_with fail
          refine (GC.out _).mono ?_
          rintro e w2 ⟨rfl, rfl⟩
          go_wp2_with fail
          refine (bad_c R s i0 line v _ _ (by exact HA.out)).mono ?_
          rintro e w2 ⟨rfl, rfl⟩
          go_wp2_with fail
          go_returns
          exact DgRes.mkBad HB.out ⟨rfl, rfl, rfl, Nat.le_refl _, fun _ _ => rfl⟩
        | false =>
          have HB := Lib.hid (HRR.out.trans (if_neg (by rintro ⟨_, h | h⟩; rw [hsm] at h; cases h; rw [hgr] at h; cases h)))
          rw [← pk_in s (i + n) hin, hgr, pk_in s (i + n) hin] at GC
          clear HRR hsm hgr h0
          go_enter Tryz.func120, Tryz.ntmps120
          go_wp2_with fail
          refine RC.out.mono ?_
          rintro e w1 ⟨rfl, n1, rfl⟩
          go_wp2_with fail
          refine (SC.out _).mono ?_
          rintro e w2 ⟨rfl, rfl⟩
          go_wp2_with fail
          refine (GC.out _).mono ?_
          rintro e w2 ⟨rfl, rfl⟩
          go_wp2_with fail
          have PY0 := PX.out (w.drewN n1) ⟨rfl, rfl, rfl, Nat.le_refl _, fun _ _ => rfl⟩
          have HB0 := HB.out
          rw [HS.out] at PY0
          have PY := Lib.hid PY0
          have HB1 := Lib.hid HB0
          clear PX PY0 HB0 HB
          refine PY.out.mono ?_
          rintro e w3 ⟨hb3, hres⟩
          have HB3 := Lib.hid hb3
          have e4 := (HE.out.below hb3 (by omega)).err.range
          have HA3 := Lib.hid (HA.out.below hb3 hlt)
          rcases hres with ⟨hbig, x, N, rfl⟩ | ⟨hbig, rfl⟩
          · have HF := Lib.hid (HB1.out.trans (if_pos hbig))
            clear hb3 hbig PY e1 e2
            go_wp2_with fail
            refine (bad_c R s i0 line v _ _ (by exact HA3.out)).mono ?_
            rintro e w2 ⟨rfl, rfl⟩
            go_wp2_with fail
            go_returns
            exact DgRes.mkBad HF.out HB3.out
          · have HF := Lib.hid (HB1.out.trans (if_neg hbig))
            clear hb3 hbig PY e1 e2
            go_wp2_with fail
            go_returns
            exact ⟨DgRes.mkOk HF.out, HB3.out⟩
    · have hdx : decide ((i : Int) + (n : Int) < (s.size : Int)) = false := by simp; omega
      have HB := Lib.hid (HRR.out.trans (if_neg (fun h => hin h.1)))
      clear HRR h0
      go_enter Tryz.func120, Tryz.ntmps120
      go_wp2_with fail
      refine RC.out.mono ?_
      rintro e w1 ⟨rfl, n1, rfl⟩
      go_wp2_with fail
      have PY0 := PX.out (w.drewN n1) ⟨rfl, rfl, rfl, Nat.le_refl _, fun _ _ => rfl⟩
      have HB0 := HB.out
      rw [HS.out] at PY0
      have PY := Lib.hid PY0
      have HB1 := Lib.hid HB0
      clear PX PY0 HB0 HB
      refine PY.out.mono ?_
      rintro e w3 ⟨hb3, hres⟩
      have HB3 := Lib.hid hb3
      have e4 := (HE.out.below hb3 (by omega)).err.range
      have HA3 := Lib.hid (HA.out.below hb3 hlt)
      rcases hres with ⟨hbig, x, N, rfl⟩ | ⟨hbig, rfl⟩
      · have HF := Lib.hid (HB1.out.trans (if_pos hbig))
        clear hb3 hbig PY e1 e2
        go_wp2_with fail
        refine (bad_c R s i0 line v _ _ (by exact HA3.out)).mono ?_
        rintro e w2 ⟨rfl, rfl⟩
        go_wp2_with fail
        go_returns
        exact DgRes.mkBad HF.out HB3.out
      · have HF := Lib.hid (HB1.out.trans (if_neg hbig))
        clear hb3 hbig PY e1 e2
        go_wp2_with fail
        go_returns
        exact ⟨DgRes.mkOk HF.out, HB3.out⟩
end Go.Proofs.YtggngahmafbihaaGreatDoor
namespace Go.Proofs.YtggngahmafbihaaGreatDoor
open Go.RowKit Go.Lib
set_option linter.unusedVariables false

theorem dgs_inr {s : ByteArray} {i n : Nat} {v : Int} (h : dgsSp s i = .inr (v, n)) (hi : i ≤ s.size) : 1 ≤ n ∧ i + n ≤ s.size ∧ 0 ≤ v ∧ v ≤ 9223372036854775807 := by
  unfold dgsSp at h
  simp only at h
  split at h
  · cases h
  · rename_i hc
    split at h
    · cases h
    · rename_i hv
      injection h with h
      injection h with h1 h2
      subst h1; subst h2
      refine ⟨?_, run_le s digB i hi, by omega, by omega⟩
      rcases Nat.eq_zero_or_pos (run s digB i) with h0 | h0
      · exact absurd (.inl h0) hc
      · exact h0
def intR (s : ByteArray) (i : Nat) (line : Int) : WR := match dgsSp s i with
  | .inl e => .bad e
  | .inr (v, n) => .word n ⟨3, line, ⟨#[]⟩, 0, v, ⟨#[]⟩⟩
theorem wordR_int {s : ByteArray} {i : Nat} {line : Int} (h0 : smB (pk s i) = false) (h : digB (pk s i) = true) : wordR s i line = intR s i line := by
  unfold wordR intR
  simp only [h0, h, Bool.false_eq_true, if_false, if_true]
  cases dgsSp s i with
  | inl e => rfl
  | inr p => rfl
def objR (s : ByteArray) (i : Nat) (line : Int) : WR :=
  let neg := pk s (i + 1) == 45
  let j := if neg then i + 2 else i + 1
  match dgsSp s j with
  | .inl e => .bad e
  | .inr (v, n) =>
    if neg = true ∧ v = 0 then .bad 111
    else
      let v := if neg then -v else v
      if v < -2147483648 ∨ 2147483647 < v then .bad 105 else .word (j + n - i) ⟨3, line, ⟨#[]⟩, 1, v, ⟨#[]⟩⟩
theorem wordR_obj {s : ByteArray} {i : Nat} {line : Int} (h : pk s i = 35) : wordR s i line = objR s i line := by
  have h1 : smB (35 : UInt8) = false := by decide
  have h2 : digB (35 : UInt8) = false := by decide
  have h3 : gtB (35 : UInt8) = false := by decide
  unfold wordR objR
  simp only [h, h1, h2, h3, Bool.false_eq_true, if_false, if_true]
  cases dgsSp s (if (pk s (i + 1) == 45) = true then i + 2 else i + 1) with
  | inl e => rfl
  | inr p => rfl

set_option maxRecDepth 100000 in
set_option maxHeartbeats 2000000 in
theorem integer_c (R : Nat) (s : ByteArray) (i : Nat) (line : Int) (l : List Tok) (ea : Nat → Addr) (w : World) (h : LxSt w R s i line l) (he : LxEnv w ea) (hi : i < s.size) (hs : s.size ≤ 1000000000) (hR : 24 ≤ R) :
    Calls Tryz.prog 76 #[.pointer (some ⟨R, 0, none⟩)] w (LxRes ea R s i line l (intR s i line) w) := by
  have hlt := h.lt
  obtain ⟨v, L, ha, _⟩ := id h
  have hc1 := ha.c1
  have DC := digits_c R s i line v i ea w ha he (by omega) hs hR
  have HH := Lib.hid h
  unfold intR
  clear h he ha
  cases hq : dgsSp s i with
  | inl c =>
    rw [hq] at DC
    have DD := Lib.hid DC
    clear hq DC
    go_enter Tryz.func76, Tryz.ntmps76
    go_wp2_with fail
    refine DD.out.mono ?_
    rintro e w2 ⟨⟨A, hA, hh, rfl⟩, hb⟩
    have HX := Lib.hid hA
    have HY := Lib.hid hh
    have HB := Lib.hid hb
    clear hA hh hb
    go_wp2_with fail
    go_ret
    exact ⟨below_le' HB.out (Nat.le_of_lt hlt), _, Nat.le_trans (Nat.le_of_lt hlt) HX.out, HY.out, rfl⟩
  | inr p =>
    obtain ⟨x, n⟩ := p
    obtain ⟨hn1, hn2, hx1, hx2⟩ := dgs_inr hq (by omega)
    rw [hq] at DC
    have DD := Lib.hid DC
    clear hq DC
    go_enter Tryz.func76, Tryz.ntmps76
    go_wp2_with fail
    refine DD.out.mono ?_
    rintro e w2 ⟨he2, hb⟩
    have he2' : e = .returned (.tuple #[.int .i64 x, .int .i64 n, .nilIface]) := he2
    subst he2'
    have HB := Lib.hid hb
    clear hb he2
    go_wp2_with fail
    refine (put_c R s i line l _ (HH.out.below_self HB.out) n hn1 hn2 hs ⟨3, 0, ⟨#[]⟩, 0, x, ⟨#[]⟩⟩ 0 none 0).mono ?_
    rintro e w3 ⟨rfl, hb3, hst⟩
    go_wp2_with fail
    go_ret
    exact LxRes.mkWord rfl ((below_le' HB.out (Nat.le_of_lt hlt)).trans hb3) hst

set_option maxRecDepth 100000 in
set_option maxHeartbeats 4000000 in
theorem object_c (R : Nat) (s : ByteArray) (i : Nat) (line : Int) (l : List Tok) (ea : Nat → Addr) (w : World) (h : LxSt w R s i line l) (he : LxEnv w ea) (hi : i < s.size) (hs : s.size ≤ 1000000000) (hR : 24 ≤ R) :
    Calls Tryz.prog 79 #[.pointer (some ⟨R, 0, none⟩)] w (LxRes ea R s i line l (objR s i line) w) := by
  have hlt := h.lt
  obtain ⟨v, L, ha, _⟩ := id h
  have hc0 := ha.c0; have hc1 := ha.c1
  have HH := Lib.hid h
  have HA := Lib.hid ha
  have HE := Lib.hid he
  obtain ⟨r, hr⟩ : ∃ r, r = objR s i line := ⟨_, rfl⟩
  rw [← hr]
  have hsz : (i : Int) + 1 ≤ (s.size : Int) := by omega
  have hib : (i : Int) ≤ 1000000000 := by omega
  clear h he ha
  by_cases hin : i + 1 < s.size
  · by_cases h45 : pk s (i + 1) = 45
    · have DC := digits_c R s i line v (i + 2) ea w HA.out HE.out (by omega) hs hR
      rw [show (((i + 2 : Nat)) : Int) = ((i : Int) + 1 + 1) from by omega] at DC
      have hp : (pk s (i + 1) == 45) = true := by rw [h45]; rfl
      have hlt1 : (i : Int) + 1 < (s.size : Int) := by omega
      have hd1 : decide ((i : Int) + 1 < (s.size : Int)) = true := by simp; omega
      have hq1 : (((s[i + 1]'hin).toNat : Int) == 45) = true := by rw [← pk_in s (i + 1) hin, h45]; rfl
      clear h45
      cases hq : dgsSp s (i + 2) with
      | inl c =>
        have HRR := Lib.hid (show r = .bad c by rw [hr]; unfold objR; simp only [hp, if_true, hq])
        rw [hq] at DC
        have DD := Lib.hid DC
        clear hq DC hr hp
        go_enter Tryz.func79, Tryz.ntmps79
        go_wp2_with fail
        refine DD.out.mono ?_
        rintro e w2 ⟨⟨A, hA, hh, rfl⟩, hb⟩
        have HX := Lib.hid hA
        have HY := Lib.hid hh
        have HB := Lib.hid hb
        clear hA hh hb
        go_wp2_with fail
        go_ret
        rw [HRR.out]
        exact ⟨below_le' HB.out (Nat.le_of_lt hlt), _, Nat.le_trans (Nat.le_of_lt hlt) HX.out, HY.out, rfl⟩
      | inr p =>
        obtain ⟨x, n⟩ := p
        obtain ⟨hn1, hn2, hx1, hx2⟩ := dgs_inr hq (by omega)
        rw [hq] at DC
        have DD := Lib.hid DC
        by_cases h0 : x = 0
        · have HRR := Lib.hid (show r = .bad 111 by rw [hr]; unfold objR; simp only [hp, if_true, hq]; rw [if_pos ⟨trivial, h0⟩])
          have hx0 : (x == 0) = true := by rw [h0]; rfl
          clear hq DC hr hp h0
          go_enter Tryz.func79, Tryz.ntmps79
          go_wp2_with fail
          refine DD.out.mono ?_
          rintro e w2 ⟨he2, hb⟩
          have he2' : e = .returned (.tuple #[.int .i64 x, .int .i64 n, .nilIface]) := he2
          subst he2'
          have HB := Lib.hid hb
          have HA2 := Lib.hid (HA.out.below hb hlt)
          have c12 := HA2.out.c1
          have e1 := (HE.out.below hb (by omega)).err.syn
          have e2 := (HE.out.below hb (by omega)).err.range
          clear hb he2
          go_wp2_with fail
          refine (bad_c R s i line v _ _ (by exact HA2.out)).mono ?_
          rintro e w3 ⟨rfl, rfl⟩
          go_wp2_with fail
          go_ret
          exact LxRes.mkBad HRR.out (below_le' HB.out (Nat.le_of_lt hlt)) (Nat.le_trans (Nat.le_of_lt hlt) HB.out.size)
        · have hx0 : (x == 0) = false := by rw [beq_eq_false_iff_ne]; exact h0
          have hx3 : 1 ≤ x := by omega
          by_cases hlo : -x < -2147483648
          · have HRR := Lib.hid (show r = .bad 105 by rw [hr]; unfold objR; simp only [hp, if_true, hq]; rw [if_neg (by rintro ⟨_, h⟩; omega), if_pos (.inl hlo)])
            clear hq DC hr hp
            go_enter Tryz.func79, Tryz.ntmps79
            go_wp2_with fail
            refine DD.out.mono ?_
            rintro e w2 ⟨he2, hb⟩
            have he2' : e = .returned (.tuple #[.int .i64 x, .int .i64 n, .nilIface]) := he2
            subst he2'
            have HB := Lib.hid hb
            have HA2 := Lib.hid (HA.out.below hb hlt)
            have c12 := HA2.out.c1
            have e1 := (HE.out.below hb (by omega)).err.syn
            have e2 := (HE.out.below hb (by omega)).err.range
            clear hb he2
            go_wp2_with fail
            refine (bad_c R s i line v _ _ (by exact HA2.out)).mono ?_
            rintro e w3 ⟨rfl, rfl⟩
            go_wp2_with fail
            go_ret
            exact LxRes.mkBad HRR.out (below_le' HB.out (Nat.le_of_lt hlt)) (Nat.le_trans (Nat.le_of_lt hlt) HB.out.size)
          · have HRR := Lib.hid (show r = .word (2 + n) ⟨3, line, ⟨#[]⟩, 1, -x, ⟨#[]⟩⟩ by rw [hr]; unfold objR; simp only [hp, if_true, hq]; rw [if_neg (by rintro ⟨_, h⟩; omega), if_neg (by omega), show i + 2 + n - i = 2 + n from by omega])
            have hlo' : -2147483648 ≤ -x := by omega
            have hhi' : -x ≤ 2147483647 := by omega
            clear hq DC hr hp
            go_enter Tryz.func79, Tryz.ntmps79
            go_wp2_with fail
            refine DD.out.mono ?_
            rintro e w2 ⟨he2, hb⟩
            have he2' : e = .returned (.tuple #[.int .i64 x, .int .i64 n, .nilIface]) := he2
            subst he2'
            have HB := Lib.hid hb
            have HA2 := Lib.hid (HA.out.below hb hlt)
            have c12 := HA2.out.c1
            have e1 := (HE.out.below hb (by omega)).err.syn
            have e2 := (HE.out.below hb (by omega)).err.range
            clear hb he2
            go_wp2_with fail
            obtain ⟨m, hm⟩ : ∃ m : Nat, m = (2 + n) := ⟨_, rfl⟩
            rw [show (((i : Int) + 1 + 1) + (n : Int) - (i : Int)) = (m : Int) from by omega]
            refine (put_c R s i line l _ (HH.out.below_self HB.out) m (by omega) (by omega) hs ⟨3, 0, ⟨#[]⟩, 1, -x, ⟨#[]⟩⟩ 0 none 0).mono ?_
            rintro e w3 ⟨rfl, hb3, hst⟩
            go_wp2_with fail
            go_ret
            exact LxRes.mkWord (by rw [HRR.out, hm]) ((below_le' HB.out (Nat.le_of_lt hlt)).trans hb3) hst
    · have DC := digits_c R s i line v (i + 1) ea w HA.out HE.out (by omega) hs hR
      rw [show (((i + 1 : Nat)) : Int) = ((i : Int) + 1) from by omega] at DC
      have hp : (pk s (i + 1) == 45) = false := by rw [beq_eq_false_iff_ne]; exact h45
      have hlt1 : (i : Int) + 1 < (s.size : Int) := by omega
      have hd1 : decide ((i : Int) + 1 < (s.size : Int)) = true := by simp; omega
      have hq1 : (((s[i + 1]'hin).toNat : Int) == 45) = false := by rw [beq_eq_false_iff_ne, ← pk_in s (i + 1) hin]; intro e; exact h45 (UInt8.toNat_inj.1 (by show (pk s (i + 1)).toNat = 45; omega))
      clear h45
      cases hq : dgsSp s (i + 1) with
      | inl c =>
        have HRR := Lib.hid (show r = .bad c by rw [hr]; unfold objR; simp only [hp, Bool.false_eq_true, if_false, hq])
        rw [hq] at DC
        have DD := Lib.hid DC
        clear hq DC hr hp
        go_enter Tryz.func79, Tryz.ntmps79
        go_wp2_with fail
        refine DD.out.mono ?_
        rintro e w2 ⟨⟨A, hA, hh, rfl⟩, hb⟩
        have HX := Lib.hid hA
        have HY := Lib.hid hh
        have HB := Lib.hid hb
        clear hA hh hb
        go_wp2_with fail
        go_ret
        rw [HRR.out]
        exact ⟨below_le' HB.out (Nat.le_of_lt hlt), _, Nat.le_trans (Nat.le_of_lt hlt) HX.out, HY.out, rfl⟩
      | inr p =>
        obtain ⟨x, n⟩ := p
        obtain ⟨hn1, hn2, hx1, hx2⟩ := dgs_inr hq (by omega)
        rw [hq] at DC
        have DD := Lib.hid DC
        by_cases hhi : 2147483647 < x
        · have HRR := Lib.hid (show r = .bad 105 by rw [hr]; unfold objR; simp only [hp, Bool.false_eq_true, if_false, hq]; rw [if_neg (by rintro ⟨h, _⟩; exact h), if_pos (.inr hhi)])
          clear hq DC hr hp
          go_enter Tryz.func79, Tryz.ntmps79
          go_wp2_with fail
          refine DD.out.mono ?_
          rintro e w2 ⟨he2, hb⟩
          have he2' : e = .returned (.tuple #[.int .i64 x, .int .i64 n, .nilIface]) := he2
          subst he2'
          have HB := Lib.hid hb
          have HA2 := Lib.hid (HA.out.below hb hlt)
          have c12 := HA2.out.c1
          have e1 := (HE.out.below hb (by omega)).err.syn
          have e2 := (HE.out.below hb (by omega)).err.range
          clear hb he2
          go_wp2_with fail
          refine (bad_c R s i line v _ _ (by exact HA2.out)).mono ?_
          rintro e w3 ⟨rfl, rfl⟩
          go_wp2_with fail
          go_ret
          exact LxRes.mkBad HRR.out (below_le' HB.out (Nat.le_of_lt hlt)) (Nat.le_trans (Nat.le_of_lt hlt) HB.out.size)
        · have HRR := Lib.hid (show r = .word (1 + n) ⟨3, line, ⟨#[]⟩, 1, x, ⟨#[]⟩⟩ by rw [hr]; unfold objR; simp only [hp, Bool.false_eq_true, if_false, hq]; rw [if_neg (by rintro ⟨h, _⟩; exact h), if_neg (by omega), show i + 1 + n - i = 1 + n from by omega])
          have hhi' : x ≤ 2147483647 := by omega
          clear hq DC hr hp
          go_enter Tryz.func79, Tryz.ntmps79
          go_wp2_with fail
          refine DD.out.mono ?_
          rintro e w2 ⟨he2, hb⟩
          have he2' : e = .returned (.tuple #[.int .i64 x, .int .i64 n, .nilIface]) := he2
          subst he2'
          have HB := Lib.hid hb
          have HA2 := Lib.hid (HA.out.below hb hlt)
          have c12 := HA2.out.c1
          have e1 := (HE.out.below hb (by omega)).err.syn
          have e2 := (HE.out.below hb (by omega)).err.range
          clear hb he2
          go_wp2_with fail
          obtain ⟨m, hm⟩ : ∃ m : Nat, m = (1 + n) := ⟨_, rfl⟩
          rw [show (((i : Int) + 1) + (n : Int) - (i : Int)) = (m : Int) from by omega]
          refine (put_c R s i line l _ (HH.out.below_self HB.out) m (by omega) (by omega) hs ⟨3, 0, ⟨#[]⟩, 1, x, ⟨#[]⟩⟩ 0 none 0).mono ?_
          rintro e w3 ⟨rfl, hb3, hst⟩
          go_wp2_with fail
          go_ret
          exact LxRes.mkWord (by rw [HRR.out, hm]) ((below_le' HB.out (Nat.le_of_lt hlt)).trans hb3) hst
  · have DC := digits_c R s i line v (i + 1) ea w HA.out HE.out (by omega) hs hR
    rw [show (((i + 1 : Nat)) : Int) = ((i : Int) + 1) from by omega] at DC
    have hp : (pk s (i + 1) == 45) = false := by rw [pk_out s (i + 1) hin]; rfl
    have hd1 : decide ((i : Int) + 1 < (s.size : Int)) = false := by simp; omega
    clear hsz
    cases hq : dgsSp s (i + 1) with
    | inl c =>
      have HRR := Lib.hid (show r = .bad c by rw [hr]; unfold objR; simp only [hp, Bool.false_eq_true, if_false, hq])
      rw [hq] at DC
      have DD := Lib.hid DC
      clear hq DC hr hp hin
      go_enter Tryz.func79, Tryz.ntmps79
      go_wp2_with fail
      refine DD.out.mono ?_
      rintro e w2 ⟨⟨A, hA, hh, rfl⟩, hb⟩
      have HX := Lib.hid hA
      have HY := Lib.hid hh
      have HB := Lib.hid hb
      clear hA hh hb
      go_wp2_with fail
      go_ret
      rw [HRR.out]
      exact ⟨below_le' HB.out (Nat.le_of_lt hlt), _, Nat.le_trans (Nat.le_of_lt hlt) HX.out, HY.out, rfl⟩
    | inr p =>
      obtain ⟨x, n⟩ := p
      obtain ⟨hn1, hn2, hx1, hx2⟩ := dgs_inr hq (by omega)
      rw [hq] at DC
      have DD := Lib.hid DC
      by_cases hhi : 2147483647 < x
      · have HRR := Lib.hid (show r = .bad 105 by rw [hr]; unfold objR; simp only [hp, Bool.false_eq_true, if_false, hq]; rw [if_neg (by rintro ⟨h, _⟩; exact h), if_pos (.inr hhi)])
        clear hq DC hr hp
        clear hin
        go_enter Tryz.func79, Tryz.ntmps79
        go_wp2_with fail
        refine DD.out.mono ?_
        rintro e w2 ⟨he2, hb⟩
        have he2' : e = .returned (.tuple #[.int .i64 x, .int .i64 n, .nilIface]) := he2
        subst he2'
        have HB := Lib.hid hb
        have HA2 := Lib.hid (HA.out.below hb hlt)
        have c12 := HA2.out.c1
        have e1 := (HE.out.below hb (by omega)).err.syn
        have e2 := (HE.out.below hb (by omega)).err.range
        clear hb he2
        go_wp2_with fail
        refine (bad_c R s i line v _ _ (by exact HA2.out)).mono ?_
        rintro e w3 ⟨rfl, rfl⟩
        go_wp2_with fail
        go_ret
        exact LxRes.mkBad HRR.out (below_le' HB.out (Nat.le_of_lt hlt)) (Nat.le_trans (Nat.le_of_lt hlt) HB.out.size)
      · have HRR := Lib.hid (show r = .word (1 + n) ⟨3, line, ⟨#[]⟩, 1, x, ⟨#[]⟩⟩ by rw [hr]; unfold objR; simp only [hp, Bool.false_eq_true, if_false, hq]; rw [if_neg (by rintro ⟨h, _⟩; exact h), if_neg (by omega), show i + 1 + n - i = 1 + n from by omega])
        have hhi' : x ≤ 2147483647 := by omega
        clear hq DC hr hp
        clear hin
        go_enter Tryz.func79, Tryz.ntmps79
        go_wp2_with fail
        refine DD.out.mono ?_
        rintro e w2 ⟨he2, hb⟩
        have he2' : e = .returned (.tuple #[.int .i64 x, .int .i64 n, .nilIface]) := he2
        subst he2'
        have HB := Lib.hid hb
        have HA2 := Lib.hid (HA.out.below hb hlt)
        have c12 := HA2.out.c1
        have e1 := (HE.out.below hb (by omega)).err.syn
        have e2 := (HE.out.below hb (by omega)).err.range
        clear hb he2
        go_wp2_with fail
        obtain ⟨m, hm⟩ : ∃ m : Nat, m = (1 + n) := ⟨_, rfl⟩
        rw [show (((i : Int) + 1) + (n : Int) - (i : Int)) = (m : Int) from by omega]
        refine (put_c R s i line l _ (HH.out.below_self HB.out) m (by omega) (by omega) hs ⟨3, 0, ⟨#[]⟩, 1, x, ⟨#[]⟩⟩ 0 none 0).mono ?_
        rintro e w3 ⟨rfl, hb3, hst⟩
        go_wp2_with fail
        go_ret
        exact LxRes.mkWord (by rw [HRR.out, hm]) ((below_le' HB.out (Nat.le_of_lt hlt)).trans hb3) hst
end Go.Proofs.YtggngahmafbihaaGreatDoor
