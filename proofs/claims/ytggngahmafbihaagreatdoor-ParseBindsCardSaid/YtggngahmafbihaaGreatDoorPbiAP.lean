/- Contracts of the functions that the statement reaches, and the plain mathematics beneath: several texts joined. -/
import Derived.Stop.Asserts
import Derived.Test.YtggngahmafbihaaGreatDoorPbiAI
import Derived.Test.YtggngahmafbihaaGreatDoorPbiAF
import Derived.Test.YtggngahmafbihaaGreatDoorPbiAM
namespace Go.Proofs.YtggngahmafbihaaGreatDoor
open Go.RowKit Go.Lib
set_option linter.unusedVariables false

theorem uintM_big : ∀ (l : List UInt8) (acc : Nat), (∀ c ∈ l, isDg c = true) → acc ≤ 18446744073709551615 → 18446744073709551615 < dval acc l → parseUintM 18446744073709551615 acc l = .range
  | [], acc, _, h0, h => by rw [dval_nil] at h; omega
  | c :: r, acc, hd, h0, h => by
    have hc := isDg_iff.1 (hd c (by simp))
    rw [dval_cons, dg1_eq] at h
    rw [parseUintM, if_pos hc]
    by_cases h1 : 1844674407370955162 ≤ acc
    · rw [if_pos h1]
    · rw [if_neg h1]
      by_cases h2 : 18446744073709551615 < acc * 10 + (c.toNat - 48)
      · rw [if_pos h2]
      · rw [if_neg h2]
        exact uintM_big r _ (fun x hx => hd x (by simp [hx])) (by omega) h
theorem parse_digits {l : List UInt8} (hd : ∀ c ∈ l, isDg c = true) (hne : l ≠ []) : parseIntB 64 l = if 9223372036854775807 < dval 0 l then .range else .ok (dval 0 l : Int) := by
  obtain ⟨a, r, rfl⟩ : ∃ a r, l = a :: r := by cases l with | nil => exact absurd rfl hne | cons a r => exact ⟨a, r, rfl⟩
  have ha := isDg_iff.1 (hd a (by simp))
  unfold parseIntB parseUintB
  simp only
  rw [if_neg (show ¬ (a.toNat = 43 ∨ a.toNat = 45) by omega)]
  simp only [if_neg hne]
  rw [show (2 : Nat) ^ 64 - 1 = 18446744073709551615 from by decide]
  by_cases hb : 18446744073709551615 < dval 0 (a :: r)
  · rw [uintM_big _ 0 hd (by omega) hb, if_pos (by omega)]
  · rw [uintM_digits _ 0 hd (by omega)]
    simp only
    by_cases h2 : 9223372036854775807 < dval 0 (a :: r)
    · rw [if_pos h2, if_pos (by omega)]
    · rw [if_neg h2, if_neg (by omega), if_neg (by omega), if_neg (by omega)]
/-- The bytes of a run are of its sort. -/
theorem run_all (s : ByteArray) (p : UInt8 → Bool) (i : Nat) (h : i ≤ s.size) : ∀ c ∈ (s.extract i (i + run s p i)).data.toList, p c = true := by
  obtain ⟨a, r, h1, h2, h3⟩ := runN_drop s p (s.size + 1) i h
  intro c hc
  rw [show run s p i = a.length from h2.symm, ext_split h1] at hc
  exact h3 c hc
theorem run_ext_len (s : ByteArray) (p : UInt8 → Bool) (i : Nat) (h : i ≤ s.size) : (s.extract i (i + run s p i)).size = run s p i := by
  have := run_le s p i h
  rw [ByteArray.size_extract]; omega
theorem run_head (s : ByteArray) (n i : Nat) (h1 : 1 ≤ n) (h : i + n ≤ s.size) : pk (s.extract i (i + n)) 0 = pk s i := by
  unfold pk
  rw [ByteArray.data_extract, Array.toList_extract, List.extract_eq_take_drop, List.getD_eq_getElem?_getD, List.getD_eq_getElem?_getD, List.getElem?_take_of_lt (by omega), List.getElem?_drop, Nat.add_zero]

/-- What a number's walk shows. -/
def DgRes (ea : Nat → Addr) (B : Nat) (line : Int) (r : Nat ⊕ (Int × Nat)) (e : Ending) (w' : World) : Prop := match r with
  | .inl c => ∃ A, B ≤ A ∧ w'.heap[A]? = some (.cells #[.int .i64 line, .iface 270 (.pointer (some (ea c)))] 73 (0, 0)) ∧ e = .returned (.tuple #[.int .i64 0, .int .i64 0, .iface 70 (.pointer (some ⟨A, 0, none⟩))])
  | .inr (v, n) => e = .returned (.tuple #[.int .i64 v, .int .i64 n, .nilIface])
theorem DgRes.mkBad {ea : Nat → Addr} {c : Nat} {line : Int} {r : Nat ⊕ (Int × Nat)} {w w1 : World} (hr : r = .inl c) (hb : Below w.heap.size w w1) :
    DgRes ea w.heap.size line r (.returned (.tuple #[.int .i64 0, .int .i64 0, .iface 70 (.pointer (some ⟨w1.heap.size, 0, none⟩))])) (w1.alloc (.cells #[.int .i64 line, .iface 270 (.pointer (some (ea c)))] 73)) ∧
    Below w.heap.size w (w1.alloc (.cells #[.int .i64 line, .iface 270 (.pointer (some (ea c)))] 73)) := by
  subst hr
  exact ⟨⟨_, hb.size, heap_alloc_new w1 _, rfl⟩, hb.alloc hb.size _⟩
theorem DgRes.mkOk {ea : Nat → Addr} {B n : Nat} {v line : Int} {r : Nat ⊕ (Int × Nat)} {w' : World} (hr : r = .inr (v, n)) : DgRes ea B line r (.returned (.tuple #[.int .i64 v, .int .i64 n, .nilIface])) w' := by
  subst hr; exact rfl

set_option maxRecDepth 100000 in
set_option maxHeartbeats 4000000 in
theorem digits_c (R : Nat) (s : ByteArray) (i0 : Nat) (line : Int) (v : Value) (i : Nat) (ea : Nat → Addr) (w : World) (ha : LxAt w R s i0 line v) (he : LxEnv w ea) (hi : i ≤ s.size) (hs : s.size ≤ 1000000000) (hR : 24 ≤ R) :
    Calls Tryz.prog 120 #[.pointer (some ⟨R, 0, none⟩), .int .i64 i] w fun e w' => DgRes ea w.heap.size line (dgsSp s i) e w' ∧ Below w.heap.size w w' := by
  have hlt := ha.lt
  have hc0 := ha.c0
  have RC := Lib.hid (run_c _ _ enters_digit digit_is R s i0 line v i w ha hi hs)
  obtain ⟨n, hn⟩ : ∃ n, n = run s digB i := ⟨_, rfl⟩
  have hn2 : i + n ≤ s.size := by rw [hn]; exact run_le s _ i hi
  obtain ⟨sub, hsub⟩ : ∃ sub, sub = s.extract i (i + n) := ⟨_, rfl⟩
  have hall : ∀ c ∈ sub.data.toList, digB c = true := by rw [hsub, hn]; exact run_all s digB i hi
  have hsz : sub.size = n := by rw [hsub, hn]; exact run_ext_len s digB i hi
  obtain ⟨r, hr⟩ : ∃ r, r = dgsSp s i := ⟨_, rfl⟩
  have HR : Hid (r = if n = 0 ∨ (1 < n ∧ pk s i = 48) ∨ (i + n < s.size ∧ (smB (pk s (i + n)) = true ∨ gtB (pk s (i + n)) = true)) then .inl 111
      else if 9223372036854775807 < dval 0 sub.data.toList then .inl 105 else .inr (dval 0 sub.data.toList, n)) := by rw [hr, hsub, hn]; rfl
  rw [← hr]
  rw [← hn] at RC
  have HA := Lib.hid ha
  have HE := Lib.hid he
  have e1 := he.err.syn
  have e2 := he.err.range
  have HS := Lib.hid hsub
  have HSZ := Lib.hid hsz
  obtain ⟨g1, g2, g3⟩ := sum_in i n (by omega)
  have hdz : (i : Int) + (n : Int) ≤ (s.size : Int) := by omega
  have hdw : (i : Int) ≤ (i : Int) + (n : Int) := by omega
  clear hr hn he ha hsub
  by_cases h0 : n = 0
  · have HB := Lib.hid (HR.out.trans (if_pos (.inl h0)))
    have hz : (((n : Nat) : Int) == 0) = true := by subst h0; rfl
    clear HR h0 hsz hall
    go_enter Tryz.func120, Tryz.ntmps120
    go_wp2_with fail
    refine RC.out.mono ?_
    rintro e w1 ⟨rfl, n1, rfl⟩
    go_wp2_with fail
    refine (bad_c R s i0 line v _ _ (by exact HA.out)).mono ?_
    rintro e w2 ⟨rfl, rfl⟩
    go_wp2_with fail
    go_returns
    exact DgRes.mkBad HB.out ⟨rfl, rfl, rfl, Nat.le_refl _, fun _ _ => rfl⟩
  have h1 : 1 ≤ n := by omega
  have hz : (((n : Nat) : Int) == 0) = false := by rw [beq_eq_false_iff_ne]; omega
  have hpk : pk (s.extract i (i + n)) 0 = pk s i := run_head s n i h1 hn2
  have hp0 : (0 : Nat) < (s.extract i (i + n)).size := by rw [← HS.out]; omega
  have hpq := pk_in (s.extract i (i + n)) 0 hp0
  have hz0 : (0 : Int) < ((s.extract i (i + n)).size : Int) := by omega
  by_cases hB : 1 < n ∧ pk s i = 48
  · have HB := Lib.hid (HR.out.trans (if_pos (.inr (.inl hB))))
    have hgt : decide ((1 : Int) < (n : Int)) = true := by simp; omega
    have hgt' : decide ((n : Int) > 1) = true := by simp; omega
    have h48 : ((((s.extract i (i + n))[0]'hp0).toNat : Int) == 48) = true := by rw [← hpq, hpk, hB.2]; rfl
    clear HR h0 hsz hall hpk hpq hB
    go_enter Tryz.func120, Tryz.ntmps120
    go_wp2_with fail
    refine RC.out.mono ?_
    rintro e w1 ⟨rfl, n1, rfl⟩
    go_wp2_with fail
    refine (bad_c R s i0 line v _ _ (by exact HA.out)).mono ?_
    rintro e w2 ⟨rfl, rfl⟩
    go_wp2_with fail
    go_returns
    exact DgRes.mkBad HB.out ⟨rfl, rfl, rfl, Nat.le_refl _, fun _ _ => rfl⟩
  have hlo : (n = 1) ∨ (1 < n ∧ ((((s.extract i (i + n))[0]'hp0).toNat : Int) == 48) = false) := by
    rcases Nat.lt_or_ge 1 n with h | h
    · refine .inr ⟨h, ?_⟩
      rw [beq_eq_false_iff_ne, ← hpq, hpk]
      intro e
      exact hB ⟨h, UInt8.toNat_inj.1 (by show (pk s i).toNat = 48; omega)⟩
    · exact .inl (by omega)
  have hBn : ¬ (n = 0 ∨ (1 < n ∧ pk s i = 48)) := by rintro (h | h); exact h0 h; exact hB h
  have hrest : r = if i + n < s.size ∧ (smB (pk s (i + n)) = true ∨ gtB (pk s (i + n)) = true) then .inl 111
      else if 9223372036854775807 < dval 0 sub.data.toList then .inl 105 else .inr (dval 0 sub.data.toList, n) := by
    rw [HR.out]
    by_cases hc : i + n < s.size ∧ (smB (pk s (i + n)) = true ∨ gtB (pk s (i + n)) = true)
    · rw [if_pos hc, if_pos (.inr (.inr hc))]
    · rw [if_neg hc, if_neg (by rintro (h | h | h); exact h0 h; exact hB h; exact hc h)]
  have hne : sub.data.toList ≠ [] := by
    intro e; have : sub.size = 0 := by rw [ByteArray.size, ← Array.length_toList, e]; rfl
    omega
  have hpi := parse_digits (fun c hc => by rw [← digB_isDg]; exact hall c hc) hne
  obtain ⟨V, hV⟩ : ∃ V : Nat, V = dval 0 sub.data.toList := ⟨_, rfl⟩
  rw [← hV] at hrest hpi
  have HRR := Lib.hid hrest
  have PX : Hid (∀ W, Below w.heap.size w W → Calls Tryz.prog 156 #[.string sub, .int .i64 10, .int .i64 64] W fun e w' => Below w.heap.size w w' ∧
      ((9223372036854775807 < V ∧ ∃ x N, e = .returned (.tuple #[.int .i64 x, .iface 232 (.pointer (some ⟨N, 0, none⟩))])) ∨
       (¬ 9223372036854775807 < V ∧ e = .returned (.tuple #[.int .i64 (V), .nilIface])))) := by
    intro W hW
    by_cases hbig : 9223372036854775807 < V
    · rw [if_pos hbig] at hpi
      obtain ⟨te, pe, hv⟩ := (HE.out.str.below hW (Nat.le_refl _)).rng
      refine (Tryz.strconv_ParseInt_10_at64_range sub (by omega) hpi _ W hv (.inr ⟨te, pe, rfl⟩)).mono ?_
      rintro e w' ⟨N, h1, _, _, h4⟩
      exact ⟨hW.trans (below_le' h4 hW.size), .inl ⟨hbig, _, N, h1⟩⟩
    · rw [if_neg hbig] at hpi
      refine (Tryz.strconv_ParseInt_10_at64_ok sub (by omega) _ hpi W).mono ?_
      rintro e w' ⟨h1, hw⟩
      refine ⟨hW.trans (below_le' ?_ hW.size), .inr ⟨hbig, h1⟩⟩
      rcases hw with rfl | ⟨t, rfl⟩
      · exact Below.refl _ _
      · exact bytesWorld_below _ _ _
  clear hV hrest HR hall hpk hpq hB hBn hpi hne hsz
  rcases hlo with hlo0 | ⟨hlo0, h48⟩
  · have hgt : decide ((1 : Int) < (n : Int)) = false := by simp; omega
    have hgt' : decide ((n : Int) > 1) = false := by simp; omega
    have hle1 : (n : Int) ≤ 1 := by omega
    clear hlo0
    by_cases hin : i + n < s.size
    · have hdx : decide ((i : Int) + (n : Int) < (s.size : Int)) = true := by simp; omega
      have hdy : (i : Int) + (n : Int) < (s.size : Int) := by omega
      have SC := Lib.hid (fun W => by have := small_c (pk s (i + n)) W; rw [pk_in s (i + n) hin] at this; exact this)
      have GC := Lib.hid (fun W => by have := great_c (pk s (i + n)) W; rw [pk_in s (i + n) hin] at this; exact this)
      cases hsm : smB (pk s (i + n)) with
      | true =>
        have HB := Lib.hid (HRR.out.trans (if_pos ⟨hin, .inl hsm⟩))
        rw [← pk_in s (i + n) hin, hsm, pk_in s (i + n) hin] at SC
        clear HRR hsm PX GC h0
        go_enter Tryz.func120, Tryz.ntmps120
        go_wp2_with fail
        refine RC.out.mono ?_
        rintro e w1 ⟨rfl, n1, rfl⟩
        go_wp2_with fail
        refine (SC.out _).mono ?_
        rintro e w2 ⟨rfl, rfl⟩
        go_wp2_with fail
        refine (bad_c R s i0 line v _ _ (by exact HA.out)).mono ?_
        rintro e w2 ⟨rfl, rfl⟩
        go_wp2_with fail
        go_returns
        exact DgRes.mkBad HB.out ⟨rfl, rfl, rfl, Nat.le_refl _, fun _ _ => rfl⟩
      | false =>
        rw [← pk_in s (i + n) hin, hsm, pk_in s (i + n) hin] at SC
        cases hgr : gtB (pk s (i + n)) with
        | true =>
          have HB := Lib.hid (HRR.out.trans (if_pos ⟨hin, .inr hgr⟩))
          rw [← pk_in s (i + n) hin, hgr, pk_in s (i + n) hin] at GC
          clear HRR hsm hgr PX h0
          go_enter Tryz.func120, Tryz.ntmps120
          go_wp2_with fail
          refine RC.out.mono ?_
          rintro e w1 ⟨rfl, n1, rfl⟩
          go_wp2_with fail
          refine (SC.out _).mono ?_
          rintro e w2 ⟨rfl, rfl⟩
          go_wp2_with fail
          refine (GC.out _).mono ?_
          rintro e w2 ⟨rfl, rfl⟩
          go_wp2_with fail
          refine (bad_c R s i0 line v _ _ (by exact HA.out)).mono ?_
          rintro e w2 ⟨rfl, rfl⟩
          go_wp2_with fail
          go_returns
          exact DgRes.mkBad HB.out ⟨rfl, rfl, rfl, Nat.le_refl _, fun _ _ => rfl⟩
        | false =>
          have HB := Lib.hid (HRR.out.trans (if_neg (by rintro ⟨_, h | h⟩; rw [hsm] at h; cases h; rw [hgr] at h; cases h)))
          rw [← pk_in s (i + n) hin, hgr, pk_in s (i + n) hin] at GC
          clear HRR hsm hgr h0
          go_enter Tryz.func120, Tryz.ntmps120
          go_wp2_with fail
          refine RC.out.mono ?_
          rintro e w1 ⟨rfl, n1, rfl⟩
          go_wp2_with fail
          refine (SC.out _).mono ?_
          rintro e w2 ⟨rfl, rfl⟩
          go_wp2_with fail
          refine (GC.out _).mono ?_
          rintro e w2 ⟨rfl, rfl⟩
          go_wp2_with fail
          have PY0 := PX.out (w.drewN n1) ⟨rfl, rfl, rfl, Nat.le_refl _, fun _ _ => rfl⟩
          have HB0 := HB.out
          rw [HS.out] at PY0
          have PY := Lib.hid PY0
          have HB1 := Lib.hid HB0
          clear PX PY0 HB0 HB
          refine PY.out.mono ?_
          rintro e w3 ⟨hb3, hres⟩
          have HB3 := Lib.hid hb3
          have e4 := (HE.out.below hb3 (by omega)).err.range
          have HA3 := Lib.hid (HA.out.below hb3 hlt)
          rcases hres with ⟨hbig, x, N, rfl⟩ | ⟨hbig, rfl⟩
          · have HF := Lib.hid (HB1.out.trans (if_pos hbig))
            clear hb3 hbig PY e1 e2
            go_wp2_with fail
            refine (bad_c R s i0 line v _ _ (by exact HA3.out)).mono ?_
            rintro e w2 ⟨rfl, rfl⟩
            go_wp2_with fail
            go_returns
            exact DgRes.mkBad HF.out HB3.out
          · have HF := Lib.hid (HB1.out.trans (if_neg hbig))
            clear hb3 hbig PY e1 e2
            go_wp2_with fail
            go_returns
            exact ⟨DgRes.mkOk HF.out, HB3.out⟩
    · have hdx : decide ((i : Int) + (n : Int) < (s.size : Int)) = false := by simp; omega
      have HB := Lib.hid (HRR.out.trans (if_neg (fun h => hin h.1)))
      clear HRR h0
      go_enter Tryz.func120, Tryz.ntmps120
      go_wp2_with fail
      refine RC.out.mono ?_
      rintro e w1 ⟨rfl, n1, rfl⟩
      go_wp2_with fail
      have PY0 := PX.out (w.drewN n1) ⟨rfl, rfl, rfl, Nat.le_refl _, fun _ _ => rfl⟩
      have HB0 := HB.out
      rw [HS.out] at PY0
      have PY := Lib.hid PY0
      have HB1 := Lib.hid HB0
      clear PX PY0 HB0 HB
      refine PY.out.mono ?_
      rintro e w3 ⟨hb3, hres⟩
      have HB3 := Lib.hid hb3
      have e4 := (HE.out.below hb3 (by omega)).err.range
      have HA3 := Lib.hid (HA.out.below hb3 hlt)
      rcases hres with ⟨hbig, x, N, rfl⟩ | ⟨hbig, rfl⟩
      · have HF := Lib.hid (HB1.out.trans (if_pos hbig))
        clear hb3 hbig PY e1 e2
        go_wp2_with fail
        refine (bad_c R s i0 line v _ _ (by exact HA3.out)).mono ?_
        rintro e w2 ⟨rfl, rfl⟩
        go_wp2_with fail
        go_returns
        exact DgRes.mkBad HF.out HB3.out
      · have HF := Lib.hid (HB1.out.trans (if_neg hbig))
        clear hb3 hbig PY e1 e2
        go_wp2_with fail
        go_returns
        exact ⟨DgRes.mkOk HF.out, HB3.out⟩
  · have hgt : decide ((1 : Int) < (n : Int)) = true := by simp; omega
    have hgt' : decide ((n : Int) > 1) = true := by simp; omega
    by_cases hin : i + n < s.size
    · have hdx : decide ((i : Int) + (n : Int) < (s.size : Int)) = true := by simp; omega
      have hdy : (i : Int) + (n : Int) < (s.size : Int) := by omega
      have SC := Lib.hid (fun W => by have := small_c (pk s (i + n)) W; rw [pk_in s (i + n) hin] at this; exact this)
      have GC := Lib.hid (fun W => by have := great_c (pk s (i + n)) W; rw [pk_in s (i + n) hin] at this; exact this)
      cases hsm : smB (pk s (i + n)) with
      | true =>
        have HB := Lib.hid (HRR.out.trans (if_pos ⟨hin, .inl hsm⟩))
        rw [← pk_in s (i + n) hin, hsm, pk_in s (i + n) hin] at SC
        clear HRR hsm PX GC h0
        go_enter Tryz.func120, Tryz.ntmps120
        go_wp2_with fail
        refine RC.out.mono ?_
        rintro e w1 ⟨rfl, n1, rfl⟩
        go_wp2_with fail
        refine (SC.out _).mono ?_
        rintro e w2 ⟨rfl, rfl⟩
        go_wp2_with fail
        refine (bad_c R s i0 line v _ _ (by exact HA.out)).mono ?_
        rintro e w2 ⟨rfl, rfl⟩
        go_wp2_with fail
        go_returns
        exact DgRes.mkBad HB.out ⟨rfl, rfl, rfl, Nat.le_refl _, fun _ _ => rfl⟩
      | false =>
        rw [← pk_in s (i + n) hin, hsm, pk_in s (i + n) hin] at SC
        cases hgr : gtB (pk s (i + n)) with
        | true =>
          have HB := Lib.hid (HRR.out.trans (if_pos ⟨hin, .inr hgr⟩))
          rw [← pk_in s (i + n) hin, hgr, pk_in s (i + n) hin] at GC
          clear HRR hsm hgr PX h0
          go_enter Tryz.func120, Tryz.ntmps120
          go_wp2_with fail
          refine RC.out.mono ?_
          rintro e w1 ⟨rfl, n1, rfl⟩
          go_wp2_with fail
          refine (SC.out _).mono ?_
          rintro e w2 ⟨rfl, rfl⟩
          go_wp2_with fail
          refine (GC.out _).mono ?_
          rintro e w2 ⟨rfl, rfl⟩
          go_wp2_with fail
          refine (bad_c R s i0 line v _ _ (by exact HA.out)).mono ?_
          rintro e w2 ⟨rfl, rfl⟩
          go_wp2_with fail
          go_returns
          exact DgRes.mkBad HB.out ⟨rfl, rfl, rfl, Nat.le_refl _, fun _ _ => rfl⟩
        | false =>
          have HB := Lib.hid (HRR.out.trans (if_neg (by rintro ⟨_, h | h⟩; rw [hsm] at h; cases h; rw [hgr] at h; cases h)))
          rw [← pk_in s (i + n) hin, hgr, pk_in s (i + n) hin] at GC
          clear HRR hsm hgr h0
          go_enter Tryz.func120, Tryz.ntmps120
          go_wp2_with fail
          refine RC.out.mono ?_
          rintro e w1 ⟨rfl, n1, rfl⟩
          go_wp2_with fail
          refine (SC.out _).mono ?_
          rintro e w2 ⟨rfl, rfl⟩
          go_wp2_with fail
          refine (GC.out _).mono ?_
          rintro e w2 ⟨rfl, rfl⟩
          go_wp2_with fail
          have PY0 := PX.out (w.drewN n1) ⟨rfl, rfl, rfl, Nat.le_refl _, fun _ _ => rfl⟩
          have HB0 := HB.out
          rw [HS.out] at PY0
          have PY := Lib.hid PY0
          have HB1 := Lib.hid HB0
          clear PX PY0 HB0 HB
          refine PY.out.mono ?_
          rintro e w3 ⟨hb3, hres⟩
          have HB3 := Lib.hid hb3
          have e4 := (HE.out.below hb3 (by omega)).err.range
          have HA3 := Lib.hid (HA.out.below hb3 hlt)
          rcases hres with ⟨hbig, x, N, rfl⟩ | ⟨hbig, rfl⟩
          · have HF := Lib.hid (HB1.out.trans (if_pos hbig))
            clear hb3 hbig PY e1 e2
            go_wp2_with fail
            refine (bad_c R s i0 line v _ _ (by exact HA3.out)).mono ?_
            rintro e w2 ⟨rfl, rfl⟩
            go_wp2_with fail
            go_returns
            exact DgRes.mkBad HF.out HB3.out
          · have HF := Lib.hid (HB1.out.trans (if_neg hbig))
            clear hb3 hbig PY e1 e2
            go_wp2_with fail
            go_returns
            exact ⟨DgRes.mkOk HF.out, HB3.out⟩
    · have hdx : decide ((i : Int) + (n : Int) < (s.size : Int)) = false := by simp; omega
      have HB := Lib.hid (HRR.out.trans (if_neg (fun h => hin h.1)))
      clear HRR h0
      go_enter Tryz.func120, Tryz.ntmps120
      go_wp2_with fail
      refine RC.out.mono ?_
      rintro e w1 ⟨rfl, n1, rfl⟩
      go_wp2_with fail
      have PY0 := PX.out (w.drewN n1) ⟨rfl, rfl, rfl, Nat.le_refl _, fun _ _ => rfl⟩
      have HB0 := HB.out
      rw [HS.out] at PY0
      have PY := Lib.hid PY0
      have HB1 := Lib.hid HB0
      clear PX PY0 HB0 HB
      refine PY.out.mono ?_
      rintro e w3 ⟨hb3, hres⟩
      have HB3 := Lib.hid hb3
      have e4 := (HE.out.below hb3 (by omega)).err.range
      have HA3 := Lib.hid (HA.out.below hb3 hlt)
      rcases hres with ⟨hbig, x, N, rfl⟩ | ⟨hbig, rfl⟩
      · have HF := Lib.hid (HB1.out.trans (if_pos hbig))
        clear hb3 hbig PY e1 e2
        go_wp2_with fail
        refine (bad_c R s i0 line v _ _ (by exact HA3.out)).mono ?_
        rintro e w2 ⟨rfl, rfl⟩
        go_wp2_with fail
        go_returns
        exact DgRes.mkBad HF.out HB3.out
      · have HF := Lib.hid (HB1.out.trans (if_neg hbig))
        clear hb3 hbig PY e1 e2
        go_wp2_with fail
        go_returns
        exact ⟨DgRes.mkOk HF.out, HB3.out⟩
end Go.Proofs.YtggngahmafbihaaGreatDoor
namespace Go.Proofs.YtggngahmafbihaaGreatDoor
open Go.RowKit Go.Lib
set_option linter.unusedVariables false

def strRw (i j : Nat) (line : Int) : Nat ⊕ ByteArray → WR
  | .inl e => .bad e
  | .inr t => .word (j - i) ⟨3, line, ⟨#[]⟩, 2, 0, t⟩
def strRq (s : ByteArray) (i : Nat) (line : Int) : Option Nat → WR
  | none => .bad 111
  | some j => strRw i j line (strW (s.extract i j))
def strR (s : ByteArray) (i : Nat) (line : Int) : WR := strRq s i line (quoEnd s (s.size + 1) (i + 1))
theorem wordR_str {s : ByteArray} {i : Nat} {line : Int} (h : pk s i = 34) : wordR s i line = strR s i line := by
  have h1 : smB (34 : UInt8) = false := by decide
  have h2 : digB (34 : UInt8) = false := by decide
  have h3 : gtB (34 : UInt8) = false := by decide
  have h4 : ¬ (34 : UInt8) = 35 := by decide
  unfold wordR strR
  simp only [h, h1, h2, h3, h4, Bool.false_eq_true, if_false, if_true]
  cases quoEnd s (s.size + 1) (i + 1) with
  | none => rfl
  | some j => unfold strRq strRw; simp only; cases strW (s.extract i j) <;> rfl
theorem rdV_str {sub : ByteArray} (h : pk sub 0 = 34) : rdV sub = ((strSp sub 0).1, (strSp sub 0).2.1, val1 2 0 ⟨(strSp sub 0).2.2.toArray⟩ .nil) := by
  have h2 : ¬ (34 : UInt8) = 35 := by decide
  have h3 : ¬ ((34 : UInt8) = 45 ∨ digB 34 = true) := by decide
  unfold rdV
  rw [show 2 * sub.size + 2 = (2 * sub.size + 1) + 1 from rfl, valSp]
  simp only [h, h2, h3, if_false, if_true]
/-- What reading such a text comes to. -/
theorem strW_cases {sub : ByteArray} (h34 : pk sub 0 = 34) (h0 : 0 < sub.size) :
    (rdBad sub ∧ strW sub = .inl 111) ∨ ∃ t, ¬ rdBad sub ∧ (rdV sub).2.2 = val1 2 0 t .nil ∧ ((walk1 2 0 t .nil 1 4096).1 = 104 ∧ strW sub = .inl 105 ∨ (walk1 2 0 t .nil 1 4096).1 = 0 ∧ strW sub = .inr t) := by
  have hv := rdV_str h34
  by_cases hb : (strSp sub 0).2.1 = true ∧ sub.size ≤ (strSp sub 0).1
  · refine .inr ⟨⟨(strSp sub 0).2.2.toArray⟩, ?_, by rw [hv], ?_⟩
    · unfold rdBad; rw [hv]; exact fun h => h hb
    · have hp : prB (strSp sub 0).2.2 = true := by
        refine (strSp_inv (s := sub) (i := 0) (j := (strSp sub 0).1) (l := (strSp sub 0).2.2) h0 h34 ?_).2
        rw [← hb.1]
      have hm : mOf 2 ⟨(strSp sub 0).2.2.toArray⟩ = ((strSp sub 0).2.2.length : Int) := by
        unfold mOf; rw [if_pos rfl]
        congr 1
      have ho : ownE 2 0 ⟨(strSp sub 0).2.2.toArray⟩ VL.nil.len = 0 := by
        have : VL.nil.len = 0 := rfl
        unfold ownE; simp [hp, this]
      unfold walk1 strW
      simp only
      rw [if_pos hb, hm, if_neg (by decide)]
      by_cases hbig : 4096 ≤ (strSp sub 0).2.2.length
      · rw [if_pos (by omega), if_pos hbig]; exact .inl ⟨rfl, rfl⟩
      · rw [if_neg (by omega), if_neg hbig, if_pos ho]; exact .inr ⟨rfl, rfl⟩
  · refine .inl ⟨?_, ?_⟩
    · unfold rdBad; rw [hv]; exact hb
    · unfold strW; simp only; rw [if_neg hb]
/-- Reading it. -/
def RdStr (ea : Nat → Addr) (r : Nat ⊕ ByteArray) (W : World) (e : Ending) (w' : World) : Prop :=
  Below W.heap.size W w' ∧ match r with
  | .inr t => ∃ (sa : Option Addr) (sc : Nat), e = .returned (.tuple #[.agg #[.int .i64 2, .int .i64 0, .string t, .slice sa 0 sc], .nilIface])
  | .inl c => if c = 105 then e = .returned (.tuple #[.agg #[.int .i64 0, .int .i64 0, .string ⟨#[]⟩, .slice none 0 0], .iface 270 (.pointer (some (ea 104)))])
      else c = 111 ∧ ∃ A : Nat, e = .returned (.tuple #[.agg #[.int .i64 0, .int .i64 0, .string ⟨#[]⟩, .slice none 0 0], .iface 70 (.pointer (some ⟨A, 0, none⟩))])
theorem readStr_c (sub : ByteArray) (ea : Nat → Addr) (W : World) (he : ErrsAt W ea) (hs : sub.size ≤ 1000000000) (h34 : pk sub 0 = 34) (h0 : 0 < sub.size) : Calls Tryz.prog 123 #[.string sub] W (RdStr ea (strW sub) W) := by
  refine (read_c sub ea W he hs).mono ?_
  rintro e w' ⟨hb, hr⟩
  refine ⟨hb, ?_⟩
  rcases strW_cases h34 h0 with ⟨hbad, hw⟩ | ⟨t, hgood, hv, hw⟩
  · rw [hw]
    rcases hr with ⟨_, A, _, _, h4⟩ | ⟨h, _⟩
    · simp only; rw [if_neg (by decide)]; exact ⟨trivial, A, h4⟩
    · exact absurd hbad h
  · rcases hr with ⟨h, _⟩ | ⟨_, k, n, t', sb, h2, h3⟩
    · exact absurd h hgood
    · rw [hv] at h2
      unfold val1 at h2
      injection h2 with a1 a2 a3 a4 _
      subst a1; subst a2; subst a3; subst a4
      rcases hw with ⟨hw1, hw2⟩ | ⟨hw1, hw2⟩
      · rw [hw2]
        rcases h3 with ⟨_, h5⟩ | ⟨h4, _⟩
        · simp only; rw [if_pos trivial, h5, hw1]; rfl
        · rw [hw1] at h4; cases h4
      · rw [hw2]
        rcases h3 with ⟨h4, _⟩ | ⟨_, sa, sc, _, _, h5⟩
        · exact absurd hw1 h4
        · exact ⟨sa, sc, h5⟩
theorem LxRes.mkBad2 {ea : Nat → Addr} {R c z : Nat} {s : ByteArray} {i : Nat} {line : Int} {l : List Tok} {r : WR} {w w1 : World} (hr : r = .bad c) (hb : Below R w w1) (hR : R ≤ z) (hz : w1.heap.size = z) :
    LxRes ea R s i line l r w (.returned (.iface 70 (.pointer (some ⟨z, 0, none⟩)))) (w1.alloc (.cells #[.int .i64 line, .iface 270 (.pointer (some (ea c)))] 73)) := by
  subst hz
  exact LxRes.mkBad hr hb hR
theorem str_keep {wq W : World} {R : Nat} {a b : Value} (hR : R < wq.heap.size) (h : W.cell? ⟨R, 0, none⟩ = some a ∧ W.cell? ⟨R, 1, none⟩ = some b ∧ Below wq.heap.size wq W) (k : Nat) (u : Value) :
    (W.setCell ⟨wq.heap.size, k, none⟩ u).cell? ⟨R, 0, none⟩ = some a ∧ (W.setCell ⟨wq.heap.size, k, none⟩ u).cell? ⟨R, 1, none⟩ = some b ∧ Below wq.heap.size wq (W.setCell ⟨wq.heap.size, k, none⟩ u) := by
  have hb : ∀ o, (W.setCell ⟨wq.heap.size, k, none⟩ u).cell? ⟨R, o, none⟩ = W.cell? ⟨R, o, none⟩ := fun o => World.cell?_of_block (w := W) (Below.heap_setCell W _ u R (by show R ≠ wq.heap.size; omega))
  exact ⟨(hb 0).trans h.1, (hb 1).trans h.2.1, h.2.2.setCell (Nat.le_refl _) u⟩
theorem zero_below {wq w5 : World} {a b c d : Value} (h : Below ((wq.alloc (.cells #[a, b, c, d] 28)).drew).heap.size ((wq.alloc (.cells #[a, b, c, d] 28)).drew) w5) : StB w5 wq.heap.size a b c d :=
  StB.below (w := (wq.alloc (.cells #[a, b, c, d] 28)).drew) (StB.new wq a b c d) h (by show wq.heap.size < (wq.alloc _).heap.size; simp)

set_option maxRecDepth 100000 in
set_option maxHeartbeats 8000000 in
theorem str_w (R : Nat) (s : ByteArray) (i : Nat) (line : Int) (l : List Tok) (ea : Nat → Addr) (w : World) (h : LxSt w R s i line l) (he : LxEnv w ea) (hi : i < s.size) (hs : s.size ≤ 1000000000) (hR : 24 ≤ R) (h34 : pk s i = 34) :
    Calls Tryz.prog 80 #[.pointer (some ⟨R, 0, none⟩)] w (LxRes ea R s i line l (strR s i line) w) := by
  have hlt := h.lt
  obtain ⟨v, L, ha, _⟩ := id h
  obtain ⟨r, hr⟩ : ∃ r, r = strR s i line := ⟨_, rfl⟩
  obtain ⟨Q, hQ⟩ : ∃ Q, Q = quoEnd s (s.size + 1) (i + 1) := ⟨_, rfl⟩
  have HR : Hid (r = strRq s i line Q) := by rw [hr, hQ]; rfl
  rw [← hr]
  have hc0 := ha.c0; have hc1 := ha.c1
  have HH := Lib.hid h
  have HA := Lib.hid ha
  have HE := Lib.hid he
  have HQ0 := Lib.hid hQ
  have H34 := Lib.hid h34
  have HI := Lib.hid hi
  have e1 := he.err.syn
  obtain ⟨ii, hii, hiic⟩ := info_part (P := Tryz.prog) (t := 270) (f := fun i => i.comparable) (b := true) (by kernel_rfl)
  obtain ⟨jj, hjj, hjjc⟩ := info_part (P := Tryz.prog) (t := 272) (f := fun i => i.size) (b := 1) (by kernel_rfl)
  have EQS := Lib.hid (fun W => run_eql_iface_ptr_same (P := Tryz.prog) (ti := 33) W (ea 104) Tryz.underlying33 Tryz.underlying270 hii hiic hjj)
  have EQT := Lib.hid (fun W (A : Nat) => run_eql_iface_types (P := Tryz.prog) (ti := 33) 70 270 (.pointer (some ⟨A, 0, none⟩)) (.pointer (some (ea 104))) Tryz.underlying33 (by decide) W)
  clear hr h he ha hQ h34 hii hiic hjj hjjc
  go_enter Tryz.func80, Tryz.ntmps80
  go_wp2_with fail
  go_loopg [3] (s.size + 1) (fun k nv wr => ∃ n m : Nat, nv = .int .i64 (n : Int) ∧ 1 ≤ n ∧ i + n ≤ s.size + 1 ∧ s.size + 2 ≤ n + k ∧ wr = w.drewN m ∧ Hid (quoEnd s k (i + n) = Q))
  case atStart => exact ⟨1, 0, rfl, by omega, by omega, by omega, rfl, HQ0.out.symm⟩
  case round =>
    obtain ⟨n, m, rfl, hn1, hn2, hk, rfl, hq⟩ := hrel
    have g1 : IntKind.i64.wrap ((i : Int) + (n : Int)) = (i : Int) + (n : Int) := IntWalk.i64_in _ (by omega)
    have g2 : (0 : Int) ≤ (i : Int) + (n : Int) := by omega
    have g3 : ((i : Int) + (n : Int)).toNat = i + n := by omega
    by_cases hin : i + n < s.size
    · have hd1 : decide ((s.size : Int) ≤ (i : Int) + (n : Int)) = false := by simp; omega
      have hdy : (i : Int) + (n : Int) < (s.size : Int) := by omega
      obtain ⟨c, hc⟩ : ∃ c, c = s[i + n]'hin := ⟨_, rfl⟩
      have hpc : pk s (i + n) = c := by rw [hc]; exact pk_in s (i + n) hin
      obtain ⟨k, rfl⟩ : ∃ k, gk = k + 1 := ⟨gk - 1, by omega⟩
      by_cases hpr : prC c = true
      · have hpr2 : 32 ≤ c.toNat ∧ c.toNat ≤ 126 := of_decide_eq_true hpr
        have hb1 : decide (((s[i + n]'hin).toNat : Int) < 32) = false := by rw [← hc]; simp; omega
        have hb2 : decide ((126 : Int) < ((s[i + n]'hin).toNat : Int)) = false := by rw [← hc]; simp; omega
        have hqs : quoEnd s (k + 1) (i + n) = if c = 34 then some (i + n + 1) else if c = 92 then quoEnd s k (i + n + 2) else quoEnd s k (i + n + 1) := by
          rw [quoEnd, if_pos ⟨hin, by rw [hpc]; exact hpr⟩, hpc]
        have hqq := hqs.symm.trans hq.out
        by_cases c34 : c = 34
        · have HQ : Hid (Q = some (i + n + 1)) := by rw [← hqq, if_pos c34]; rfl
          have ht1 : (((s[i + n]'hin).toNat : Int) == 34) = true := by rw [← hc, c34]; rfl
          obtain ⟨sub, hsub⟩ : ∃ sub, sub = s.extract i (i + (n + 1)) := ⟨_, rfl⟩
          have hr2 : r = strRw i (i + (n + 1)) line (strW sub) := by
            rw [HR.out, HQ.out, hsub, show i + n + 1 = i + (n + 1) from by omega]; rfl
          have hsz : sub.size = n + 1 := by rw [hsub, ByteArray.size_extract]; omega
          have hs34 : pk sub 0 = 34 := by rw [hsub, run_head s (n + 1) i (by omega) (by omega)]; exact H34.out
          have HR2 := Lib.hid hr2
          have HS := Lib.hid hsub
          have g4 : IntKind.i64.wrap ((i : Int) + ((n : Int) + 1)) = (i : Int) + ((n : Int) + 1) := IntWalk.i64_in _ (by omega)
          have g5 : (0 : Int) ≤ (i : Int) + ((n : Int) + 1) := by omega
          have g6 : ((i : Int) + ((n : Int) + 1)).toNat = i + (n + 1) := by omega
          have g7 : (i : Int) ≤ (i : Int) + ((n : Int) + 1) := by omega
          have g8 : (i : Int) + ((n : Int) + 1) ≤ (s.size : Int) := by omega
          have RC := fun W (hW : ErrsAt W ea) => readStr_c sub ea W hW (by omega) hs34 (by omega)
          have h105 : ∀ c, strW sub = .inl c → c = 105 ∨ c = 111 := by
            intro c hcc
            rcases strW_cases hs34 (by omega) with ⟨_, hw⟩ | ⟨t, _, _, ⟨_, hw⟩ | ⟨_, hw⟩⟩
            · rw [hw] at hcc; injection hcc with hcc; exact .inr hcc.symm
            · rw [hw] at hcc; injection hcc with hcc; exact .inl hcc.symm
            · rw [hw] at hcc; cases hcc
          clear hq hqs hqq hpr c34 hpc hc hr2 hsz hs34 hsub
          cases hw : strW sub with
          | inl c =>
            rw [hw] at RC
            have HB := Lib.hid (HR2.out.trans (show _ = WR.bad c by rw [hw]; rfl))
            rcases h105 c hw with rfl | rfl
            · clear h105 hw HR2
              go_wp2_with fail
              go_quiet (fail)
              go_wp2_with fail
              go_quiet (fail)
              go_wp2_with fail
              generalize hwq : World.drewN _ _ = wq
              have hqb : Below w.heap.size w wq := by rw [← hwq]; exact ⟨rfl, rfl, rfl, Nat.le_refl _, fun _ _ => rfl⟩
              have HAQ := HA.out.below hqb hlt
              have q0 := HAQ.c0
              have q1 := HAQ.c1
              have hqz := hqb.size
              have hroom : 24 < wq.heap.size := by omega
              have K1 := Lib.hid (fun W (h : W.cell? ⟨R, 0, none⟩ = some (.string s) ∧ W.cell? ⟨R, 1, none⟩ = some (.int .i64 i) ∧ Below wq.heap.size wq W) => (RC W (HE.out.err.below (hqb.trans (below_le' h.2.2 hqb.size)) (by omega))).mono (R' := fun e W' => (e = .returned (.tuple #[.agg #[.int .i64 0, .int .i64 0, .string ⟨#[]⟩, .slice none 0 0], .iface 270 (.pointer (some (ea 104)))])) ∧ Below W.heap.size W W' ∧ (W'.cell? ⟨R, 0, none⟩ = some (.string s) ∧ W'.cell? ⟨R, 1, none⟩ = some (.int .i64 i) ∧ Below wq.heap.size wq W')) fun e W' ⟨h1, h2⟩ =>
                have hz : R < W.heap.size := Nat.lt_of_lt_of_le (Nat.lt_of_lt_of_le hlt hqb.size) h.2.2.size
                ⟨by simpa using h2, h1, cell_below7 h1 h.1 hz, cell_below7 h1 h.2.1 hz, h.2.2.trans (below_le' h1 h.2.2.size)⟩)
              have KA := Lib.hid (fun W o (h : W.cell? ⟨R, 0, none⟩ = some (.string s) ∧ W.cell? ⟨R, 1, none⟩ = some (.int .i64 i) ∧ Below wq.heap.size wq W) =>
                have hz : R < W.heap.size := Nat.lt_of_lt_of_le (Nat.lt_of_lt_of_le hlt hqb.size) h.2.2.size
                (⟨cell_below7 ((Below.refl W.heap.size W).alloc (Nat.le_refl _) o) h.1 hz, cell_below7 ((Below.refl W.heap.size W).alloc (Nat.le_refl _) o) h.2.1 hz, h.2.2.alloc h.2.2.size o⟩ : (W.alloc o).cell? ⟨R, 0, none⟩ = some (.string s) ∧ (W.alloc o).cell? ⟨R, 1, none⟩ = some (.int .i64 i) ∧ Below wq.heap.size wq (W.alloc o)))
              have K0 : wq.drew.cell? ⟨R, 0, none⟩ = some (.string s) ∧ wq.drew.cell? ⟨R, 1, none⟩ = some (.int .i64 i) ∧ Below wq.heap.size wq wq.drew := ⟨q0, q1, (Below.refl _ _).drew⟩
              have K0A := Lib.hid (fun o : Obj => (have hh := KA.out wq o ⟨q0, q1, Below.refl _ _⟩; ⟨hh.1, hh.2.1, hh.2.2.drew⟩ : (wq.alloc o).drew.cell? ⟨R, 0, none⟩ = some (.string s) ∧ (wq.alloc o).drew.cell? ⟨R, 1, none⟩ = some (.int .i64 i) ∧ Below wq.heap.size wq (wq.alloc o).drew))
              have KS := Lib.hid (fun (W : World) (k : Nat) (u : Value) (h : W.cell? ⟨R, 0, none⟩ = some (.string s) ∧ W.cell? ⟨R, 1, none⟩ = some (.int .i64 i) ∧ Below wq.heap.size wq W) => (str_keep (show R < wq.heap.size by omega) h k u : (W.setCell ⟨wq.heap.size, k, none⟩ u).cell? ⟨R, 0, none⟩ = some (.string s) ∧ (W.setCell ⟨wq.heap.size, k, none⟩ u).cell? ⟨R, 1, none⟩ = some (.int .i64 i) ∧ Below wq.heap.size wq (W.setCell ⟨wq.heap.size, k, none⟩ u)))
              have HQB := Lib.hid hqb
              rw [HS.out] at K1
              have HN := Lib.hid (show 1 ≤ n ∧ i + (n + 1) ≤ s.size from ⟨hn1, by omega⟩)
              clear hwq hqb HAQ RC g1 hb1 hb2 ht1 hd1 hk e1 hc0 hc1
              go_region_held3 (fun W => W.cell? ⟨R, 0, none⟩ = some (.string s) ∧ W.cell? ⟨R, 1, none⟩ = some (.int .i64 i) ∧ Below wq.heap.size wq W)
                (first | (with_reducible assumption) | (with_reducible exact K0) | (with_reducible exact K0A.out _) | ((with_reducible refine KA.out _ _ ?_); with_reducible assumption) | ((repeat (with_reducible refine KS.out _ _ _ ?_)); with_reducible assumption))
                (first
                  | (go_at_call 123; refine (K1.out _ ?_).mono ?_; (with_reducible assumption); rintro e w5 ⟨rfl, hbw, hss⟩
                     (with_reducible (have hz := zero_below hbw))
                     have z0 := hz.c0; have z1 := hz.c1; have z2 := hz.c2; have z3 := hz.c3; have y0 := hz.fr 0; have y1 := hz.fr 1; have y2 := hz.fr 2; have y3 := hz.fr 3)
                  | (go_at_call 123; refine (K1.out _ ?_).mono ?_; (with_reducible assumption); rintro e w5 ⟨rfl, hbw, hss⟩))
              all_goals
                have HB5 := Lib.hid (HQB.out.trans (below_le' hss.2.2 HQB.out.size))
                have hz5 := hss.2.2.size
                have hz55 := HB5.out.size
                have ee1 := (HE.out.err.below HB5.out (by omega)).syn
                have ee2 := (HE.out.err.below HB5.out (by omega)).range
                have ee3 := (HE.out.err.below HB5.out (by omega)).many
                have gg1 := fun o => ((HE.out.err.below HB5.out (by omega)).below ((Below.refl w5.heap.size w5).alloc (Nat.le_refl _) o) (by omega)).syn
                have gg2 := fun o => ((HE.out.err.below HB5.out (by omega)).below ((Below.refl w5.heap.size w5).alloc (Nat.le_refl _) o) (by omega)).range
                have gg3 := fun o => ((HE.out.err.below HB5.out (by omega)).below ((Below.refl w5.heap.size w5).alloc (Nat.le_refl _) o) (by omega)).many
                have hroom5 : 24 < w5.heap.size := by omega
                have HA5 := HA.out.below HB5.out hlt
                have a0 := HA5.c0; have a1 := HA5.c1; have a2 := HA5.c2
                clear hss hbw HA5 K0
                have eqs := EQS.out
                go_wp2_with fail
                refine (bad_c R s i line v _ _ ?_).mono ?_
                · exact HA.out.below (by repeat (first | exact HB5.out | refine Below.drew ?_ | refine Below.setCell ?_ (by first | exact HQB.out.size | (simp; omega)) _ | refine Below.alloc ?_ (by first | exact HB5.out.size | omega | (simp; omega)) _)) hlt
                rintro e w7 ⟨rfl, rfl⟩
                go_wp2_with fail
                go_ret
                first
                  | (refine LxRes.mkBad2 (z := w5.heap.size) HB.out ?_ ?_ ?_
                     · exact below_le' (B := w.heap.size) (by repeat (first | exact HB5.out | refine Below.drew ?_ | refine Below.setCell ?_ (by first | exact HQB.out.size | (simp; omega)) _ | refine Below.alloc ?_ (by first | exact HB5.out.size | omega | (simp; omega)) _)) (Nat.le_of_lt hlt)
                     · exact Nat.le_trans (Nat.le_of_lt hlt) (by omega)
                     · first | rfl | simp [World.setCell])
                  | (refine LxRes.mkBad2 (z := w5.heap.size + 1) HB.out ?_ ?_ ?_
                     · exact below_le' (B := w.heap.size) (by repeat (first | exact HB5.out | refine Below.drew ?_ | refine Below.setCell ?_ (by first | exact HQB.out.size | (simp; omega)) _ | refine Below.alloc ?_ (by first | exact HB5.out.size | omega | (simp; omega)) _)) (Nat.le_of_lt hlt)
                     · exact Nat.le_trans (Nat.le_of_lt hlt) (by omega)
                     · first | rfl | simp)
            · clear h105 hw HR2
              go_wp2_with fail
              go_quiet (fail)
              go_wp2_with fail
              go_quiet (fail)
              go_wp2_with fail
              generalize hwq : World.drewN _ _ = wq
              have hqb : Below w.heap.size w wq := by rw [← hwq]; exact ⟨rfl, rfl, rfl, Nat.le_refl _, fun _ _ => rfl⟩
              have HAQ := HA.out.below hqb hlt
              have q0 := HAQ.c0
              have q1 := HAQ.c1
              have hqz := hqb.size
              have hroom : 24 < wq.heap.size := by omega
              have K1 := Lib.hid (fun W (h : W.cell? ⟨R, 0, none⟩ = some (.string s) ∧ W.cell? ⟨R, 1, none⟩ = some (.int .i64 i) ∧ Below wq.heap.size wq W) => (RC W (HE.out.err.below (hqb.trans (below_le' h.2.2 hqb.size)) (by omega))).mono (R' := fun e W' => (∃ A : Nat, e = .returned (.tuple #[.agg #[.int .i64 0, .int .i64 0, .string ⟨#[]⟩, .slice none 0 0], .iface 70 (.pointer (some ⟨A, 0, none⟩))])) ∧ Below W.heap.size W W' ∧ (W'.cell? ⟨R, 0, none⟩ = some (.string s) ∧ W'.cell? ⟨R, 1, none⟩ = some (.int .i64 i) ∧ Below wq.heap.size wq W')) fun e W' ⟨h1, h2⟩ =>
                have hz : R < W.heap.size := Nat.lt_of_lt_of_le (Nat.lt_of_lt_of_le hlt hqb.size) h.2.2.size
                ⟨by simpa using h2, h1, cell_below7 h1 h.1 hz, cell_below7 h1 h.2.1 hz, h.2.2.trans (below_le' h1 h.2.2.size)⟩)
              have KA := Lib.hid (fun W o (h : W.cell? ⟨R, 0, none⟩ = some (.string s) ∧ W.cell? ⟨R, 1, none⟩ = some (.int .i64 i) ∧ Below wq.heap.size wq W) =>
                have hz : R < W.heap.size := Nat.lt_of_lt_of_le (Nat.lt_of_lt_of_le hlt hqb.size) h.2.2.size
                (⟨cell_below7 ((Below.refl W.heap.size W).alloc (Nat.le_refl _) o) h.1 hz, cell_below7 ((Below.refl W.heap.size W).alloc (Nat.le_refl _) o) h.2.1 hz, h.2.2.alloc h.2.2.size o⟩ : (W.alloc o).cell? ⟨R, 0, none⟩ = some (.string s) ∧ (W.alloc o).cell? ⟨R, 1, none⟩ = some (.int .i64 i) ∧ Below wq.heap.size wq (W.alloc o)))
              have K0 : wq.drew.cell? ⟨R, 0, none⟩ = some (.string s) ∧ wq.drew.cell? ⟨R, 1, none⟩ = some (.int .i64 i) ∧ Below wq.heap.size wq wq.drew := ⟨q0, q1, (Below.refl _ _).drew⟩
              have K0A := Lib.hid (fun o : Obj => (have hh := KA.out wq o ⟨q0, q1, Below.refl _ _⟩; ⟨hh.1, hh.2.1, hh.2.2.drew⟩ : (wq.alloc o).drew.cell? ⟨R, 0, none⟩ = some (.string s) ∧ (wq.alloc o).drew.cell? ⟨R, 1, none⟩ = some (.int .i64 i) ∧ Below wq.heap.size wq (wq.alloc o).drew))
              have KS := Lib.hid (fun (W : World) (k : Nat) (u : Value) (h : W.cell? ⟨R, 0, none⟩ = some (.string s) ∧ W.cell? ⟨R, 1, none⟩ = some (.int .i64 i) ∧ Below wq.heap.size wq W) => (str_keep (show R < wq.heap.size by omega) h k u : (W.setCell ⟨wq.heap.size, k, none⟩ u).cell? ⟨R, 0, none⟩ = some (.string s) ∧ (W.setCell ⟨wq.heap.size, k, none⟩ u).cell? ⟨R, 1, none⟩ = some (.int .i64 i) ∧ Below wq.heap.size wq (W.setCell ⟨wq.heap.size, k, none⟩ u)))
              have HQB := Lib.hid hqb
              rw [HS.out] at K1
              have HN := Lib.hid (show 1 ≤ n ∧ i + (n + 1) ≤ s.size from ⟨hn1, by omega⟩)
              clear hwq hqb HAQ RC g1 hb1 hb2 ht1 hd1 hk e1 hc0 hc1
              go_region_held3 (fun W => W.cell? ⟨R, 0, none⟩ = some (.string s) ∧ W.cell? ⟨R, 1, none⟩ = some (.int .i64 i) ∧ Below wq.heap.size wq W)
                (first | (with_reducible assumption) | (with_reducible exact K0) | (with_reducible exact K0A.out _) | ((with_reducible refine KA.out _ _ ?_); with_reducible assumption) | ((repeat (with_reducible refine KS.out _ _ _ ?_)); with_reducible assumption))
                (first
                  | (go_at_call 123; refine (K1.out _ ?_).mono ?_; (with_reducible assumption); rintro e w5 ⟨⟨A, rfl⟩, hbw, hss⟩
                     (with_reducible (have hz := zero_below hbw))
                     have z0 := hz.c0; have z1 := hz.c1; have z2 := hz.c2; have z3 := hz.c3; have y0 := hz.fr 0; have y1 := hz.fr 1; have y2 := hz.fr 2; have y3 := hz.fr 3)
                  | (go_at_call 123; refine (K1.out _ ?_).mono ?_; (with_reducible assumption); rintro e w5 ⟨⟨A, rfl⟩, hbw, hss⟩))
              all_goals
                have HB5 := Lib.hid (HQB.out.trans (below_le' hss.2.2 HQB.out.size))
                have hz5 := hss.2.2.size
                have hz55 := HB5.out.size
                have ee1 := (HE.out.err.below HB5.out (by omega)).syn
                have ee2 := (HE.out.err.below HB5.out (by omega)).range
                have ee3 := (HE.out.err.below HB5.out (by omega)).many
                have gg1 := fun o => ((HE.out.err.below HB5.out (by omega)).below ((Below.refl w5.heap.size w5).alloc (Nat.le_refl _) o) (by omega)).syn
                have gg2 := fun o => ((HE.out.err.below HB5.out (by omega)).below ((Below.refl w5.heap.size w5).alloc (Nat.le_refl _) o) (by omega)).range
                have gg3 := fun o => ((HE.out.err.below HB5.out (by omega)).below ((Below.refl w5.heap.size w5).alloc (Nat.le_refl _) o) (by omega)).many
                have hroom5 : 24 < w5.heap.size := by omega
                have HA5 := HA.out.below HB5.out hlt
                have a0 := HA5.c0; have a1 := HA5.c1; have a2 := HA5.c2
                clear hss hbw HA5 K0
                have eqs := fun W => EQT.out W A
                go_wp2_with fail
                refine (bad_c R s i line v _ _ ?_).mono ?_
                · exact HA.out.below (by repeat (first | exact HB5.out | refine Below.drew ?_ | refine Below.setCell ?_ (by first | exact HQB.out.size | (simp; omega)) _ | refine Below.alloc ?_ (by first | exact HB5.out.size | omega | (simp; omega)) _)) hlt
                rintro e w7 ⟨rfl, rfl⟩
                go_wp2_with fail
                go_ret
                first
                  | (refine LxRes.mkBad2 (z := w5.heap.size) HB.out ?_ ?_ ?_
                     · exact below_le' (B := w.heap.size) (by repeat (first | exact HB5.out | refine Below.drew ?_ | refine Below.setCell ?_ (by first | exact HQB.out.size | (simp; omega)) _ | refine Below.alloc ?_ (by first | exact HB5.out.size | omega | (simp; omega)) _)) (Nat.le_of_lt hlt)
                     · exact Nat.le_trans (Nat.le_of_lt hlt) (by omega)
                     · first | rfl | simp [World.setCell])
                  | (refine LxRes.mkBad2 (z := w5.heap.size + 1) HB.out ?_ ?_ ?_
                     · exact below_le' (B := w.heap.size) (by repeat (first | exact HB5.out | refine Below.drew ?_ | refine Below.setCell ?_ (by first | exact HQB.out.size | (simp; omega)) _ | refine Below.alloc ?_ (by first | exact HB5.out.size | omega | (simp; omega)) _)) (Nat.le_of_lt hlt)
                     · exact Nat.le_trans (Nat.le_of_lt hlt) (by omega)
                     · first | rfl | simp)
          | inr tx =>
            rw [hw] at RC
            have HB := Lib.hid (HR2.out.trans (show _ = WR.word (n + 1) ⟨3, line, ⟨#[]⟩, 2, 0, tx⟩ by rw [hw]; unfold strRw; simp only; rw [show i + (n + 1) - i = n + 1 from by omega]))
            clear h105 hw HR2
            go_wp2_with fail
            go_quiet (fail)
            go_wp2_with fail
            go_quiet (fail)
            go_wp2_with fail
            generalize hwq : World.drewN _ _ = wq
            have hqb : Below w.heap.size w wq := by rw [← hwq]; exact ⟨rfl, rfl, rfl, Nat.le_refl _, fun _ _ => rfl⟩
            have HAQ := HA.out.below hqb hlt
            have q0 := HAQ.c0
            have q1 := HAQ.c1
            have hqz := hqb.size
            have hroom : 24 < wq.heap.size := by omega
            have K1 := Lib.hid (fun W (h : W.cell? ⟨R, 0, none⟩ = some (.string s) ∧ W.cell? ⟨R, 1, none⟩ = some (.int .i64 i) ∧ Below wq.heap.size wq W) => (RC W (HE.out.err.below (hqb.trans (below_le' h.2.2 hqb.size)) (by omega))).mono (R' := fun e W' => (∃ (sa : Option Addr) (sc : Nat), e = .returned (.tuple #[.agg #[.int .i64 2, .int .i64 0, .string tx, .slice sa 0 sc], .nilIface])) ∧ Below W.heap.size W W' ∧ (W'.cell? ⟨R, 0, none⟩ = some (.string s) ∧ W'.cell? ⟨R, 1, none⟩ = some (.int .i64 i) ∧ Below wq.heap.size wq W')) fun e W' ⟨h1, h2⟩ =>
              have hz : R < W.heap.size := Nat.lt_of_lt_of_le (Nat.lt_of_lt_of_le hlt hqb.size) h.2.2.size
              ⟨h2, h1, cell_below7 h1 h.1 hz, cell_below7 h1 h.2.1 hz, h.2.2.trans (below_le' h1 h.2.2.size)⟩)
            have KA := Lib.hid (fun W o (h : W.cell? ⟨R, 0, none⟩ = some (.string s) ∧ W.cell? ⟨R, 1, none⟩ = some (.int .i64 i) ∧ Below wq.heap.size wq W) =>
              have hz : R < W.heap.size := Nat.lt_of_lt_of_le (Nat.lt_of_lt_of_le hlt hqb.size) h.2.2.size
              (⟨cell_below7 ((Below.refl W.heap.size W).alloc (Nat.le_refl _) o) h.1 hz, cell_below7 ((Below.refl W.heap.size W).alloc (Nat.le_refl _) o) h.2.1 hz, h.2.2.alloc h.2.2.size o⟩ : (W.alloc o).cell? ⟨R, 0, none⟩ = some (.string s) ∧ (W.alloc o).cell? ⟨R, 1, none⟩ = some (.int .i64 i) ∧ Below wq.heap.size wq (W.alloc o)))
            have K0 : wq.drew.cell? ⟨R, 0, none⟩ = some (.string s) ∧ wq.drew.cell? ⟨R, 1, none⟩ = some (.int .i64 i) ∧ Below wq.heap.size wq wq.drew := ⟨q0, q1, (Below.refl _ _).drew⟩
            have K0A := Lib.hid (fun o : Obj => (have hh := KA.out wq o ⟨q0, q1, Below.refl _ _⟩; ⟨hh.1, hh.2.1, hh.2.2.drew⟩ : (wq.alloc o).drew.cell? ⟨R, 0, none⟩ = some (.string s) ∧ (wq.alloc o).drew.cell? ⟨R, 1, none⟩ = some (.int .i64 i) ∧ Below wq.heap.size wq (wq.alloc o).drew))
            have KS := Lib.hid (fun (W : World) (k : Nat) (u : Value) (h : W.cell? ⟨R, 0, none⟩ = some (.string s) ∧ W.cell? ⟨R, 1, none⟩ = some (.int .i64 i) ∧ Below wq.heap.size wq W) => (str_keep (show R < wq.heap.size by omega) h k u : (W.setCell ⟨wq.heap.size, k, none⟩ u).cell? ⟨R, 0, none⟩ = some (.string s) ∧ (W.setCell ⟨wq.heap.size, k, none⟩ u).cell? ⟨R, 1, none⟩ = some (.int .i64 i) ∧ Below wq.heap.size wq (W.setCell ⟨wq.heap.size, k, none⟩ u)))
            have HQB := Lib.hid hqb
            rw [HS.out] at K1
            have HN := Lib.hid (show 1 ≤ n ∧ i + (n + 1) ≤ s.size from ⟨hn1, by omega⟩)
            clear hwq hqb HAQ RC g1 hb1 hb2 ht1 hd1 hk e1 hc0 hc1
            go_region_held3 (fun W => W.cell? ⟨R, 0, none⟩ = some (.string s) ∧ W.cell? ⟨R, 1, none⟩ = some (.int .i64 i) ∧ Below wq.heap.size wq W)
              (first | (with_reducible assumption) | (with_reducible exact K0) | (with_reducible exact K0A.out _) | ((with_reducible refine KA.out _ _ ?_); with_reducible assumption) | ((repeat (with_reducible refine KS.out _ _ _ ?_)); with_reducible assumption))
              (first
                | (go_at_call 123; refine (K1.out _ ?_).mono ?_; (with_reducible assumption); rintro e w5 ⟨⟨sa, sc, rfl⟩, hbw, hss⟩
                   (with_reducible (have hz := zero_below hbw))
                   have z0 := hz.c0; have z1 := hz.c1; have z2 := hz.c2; have z3 := hz.c3; have y0 := hz.fr 0; have y1 := hz.fr 1; have y2 := hz.fr 2; have y3 := hz.fr 3)
                | (go_at_call 123; refine (K1.out _ ?_).mono ?_; (with_reducible assumption); rintro e w5 ⟨⟨sa, sc, rfl⟩, hbw, hss⟩))
            all_goals
              have HB5 := Lib.hid (HQB.out.trans (below_le' hss.2.2 HQB.out.size))
              have hz5 := hss.2.2.size
              have hz55 := HB5.out.size
              have ee1 := (HE.out.err.below HB5.out (by omega)).syn
              have ee2 := (HE.out.err.below HB5.out (by omega)).range
              have ee3 := (HE.out.err.below HB5.out (by omega)).many
              have gg1 := fun o => ((HE.out.err.below HB5.out (by omega)).below ((Below.refl w5.heap.size w5).alloc (Nat.le_refl _) o) (by omega)).syn
              have gg2 := fun o => ((HE.out.err.below HB5.out (by omega)).below ((Below.refl w5.heap.size w5).alloc (Nat.le_refl _) o) (by omega)).range
              have gg3 := fun o => ((HE.out.err.below HB5.out (by omega)).below ((Below.refl w5.heap.size w5).alloc (Nat.le_refl _) o) (by omega)).many
              have hroom5 : 24 < w5.heap.size := by omega
              have HA5 := HA.out.below HB5.out hlt
              have a0 := HA5.c0; have a1 := HA5.c1; have a2 := HA5.c2
              clear hss hbw HA5 K0
              go_wp2_with fail
              rw [show ((n : Int) + 1) = ((n + 1 : Nat) : Int) from by omega]
              refine (put_c R s i line l _ ?_ (n + 1) (by omega) HN.out.2 hs ⟨3, 0, ⟨#[]⟩, 2, 0, tx⟩ 0 sa sc).mono ?_
              · exact HH.out.below_self (by repeat (first | exact HB5.out | refine Below.drew ?_ | refine Below.setCell ?_ (by first | exact HQB.out.size | (simp; omega)) _ | refine Below.alloc ?_ (by first | exact HB5.out.size | omega | (simp; omega)) _))
              rintro e w7 ⟨rfl, hb7, hst7⟩
              go_wp2_with fail
              go_ret
              refine LxRes.mkWord HB.out (Below.trans ?_ hb7) hst7
              exact below_le' (B := w.heap.size) (by repeat (first | exact HB5.out | refine Below.drew ?_ | refine Below.setCell ?_ (by first | exact HQB.out.size | (simp; omega)) _ | refine Below.alloc ?_ (by first | exact HB5.out.size | omega | (simp; omega)) _)) (Nat.le_of_lt hlt)
        · by_cases c92 : c = 92
          · have ht1 : (((s[i + n]'hin).toNat : Int) == 34) = false := by rw [← hc, beq_eq_false_iff_ne]; intro e; exact c34 (UInt8.toNat_inj.1 (by show c.toNat = 34; omega))
            have ht2 : (((s[i + n]'hin).toNat : Int) == 92) = true := by rw [← hc, c92]; rfl
            have HQ : Hid (quoEnd s k (i + (n + 2)) = Q) := by rw [← hqq, if_neg c34, if_pos c92]; rfl
            clear hq hqs hqq hpr c34 c92 hpc hc
            go_wp2_with fail
            go_quiet (fail)
            go_wp2_with fail
            go_quiet (fail)
            go_wp2_with fail
            go_roundg k
            case measure => omega
            case rel => exact ⟨n + 2, _, by go_num, by omega, by omega, by omega, rfl, HQ.out⟩
          · have ht1 : (((s[i + n]'hin).toNat : Int) == 34) = false := by rw [← hc, beq_eq_false_iff_ne]; intro e; exact c34 (UInt8.toNat_inj.1 (by show c.toNat = 34; omega))
            have ht2 : (((s[i + n]'hin).toNat : Int) == 92) = false := by rw [← hc, beq_eq_false_iff_ne]; intro e; exact c92 (UInt8.toNat_inj.1 (by show c.toNat = 92; omega))
            have HQ : Hid (quoEnd s k (i + (n + 1)) = Q) := by rw [← hqq, if_neg c34, if_neg c92]; rfl
            clear hq hqs hqq hpr c34 c92 hpc hc
            go_wp2_with fail
            go_quiet (fail)
            go_wp2_with fail
            go_quiet (fail)
            go_wp2_with fail
            go_roundg k
            case measure => omega
            case rel => exact ⟨n + 1, _, by go_num, by omega, by omega, by omega, rfl, HQ.out⟩
      · have HB : Hid (r = .bad 111) := by
          rw [HR.out, ← hq.out, quoEnd, if_neg (by rintro ⟨_, h⟩; rw [hpc] at h; exact hpr h)]; rfl
        by_cases hlo : c.toNat < 32
        · have hb1 : decide (((s[i + n]'hin).toNat : Int) < 32) = true := by rw [← hc]; simp; omega
          clear hq hpr hpc hc hlo
          go_wp2_with fail
          go_quiet (fail)
          go_wp2_with fail
          refine (bad_c R s i line v _ _ (by exact HA.out)).mono ?_
          rintro e w2 ⟨rfl, rfl⟩
          go_wp2_with fail
          go_ret
          exact LxRes.mkBad HB.out ⟨rfl, rfl, rfl, Nat.le_refl _, fun _ _ => rfl⟩ (Nat.le_of_lt hlt)
        · have hb1 : decide (((s[i + n]'hin).toNat : Int) < 32) = false := by rw [← hc]; simp; omega
          have hhi : 126 < c.toNat := by
            rcases Nat.lt_or_ge 126 c.toNat with h | h
            · exact h
            · exact absurd (decide_eq_true (show 32 ≤ c.toNat ∧ c.toNat ≤ 126 by omega)) hpr
          have hb2 : decide ((126 : Int) < ((s[i + n]'hin).toNat : Int)) = true := by rw [← hc]; simp; omega
          clear hq hpr hpc hc hlo hhi
          go_wp2_with fail
          go_quiet (fail)
          go_wp2_with fail
          refine (bad_c R s i line v _ _ (by exact HA.out)).mono ?_
          rintro e w2 ⟨rfl, rfl⟩
          go_wp2_with fail
          go_ret
          exact LxRes.mkBad HB.out ⟨rfl, rfl, rfl, Nat.le_refl _, fun _ _ => rfl⟩ (Nat.le_of_lt hlt)
    · have hd1 : decide ((s.size : Int) ≤ (i : Int) + (n : Int)) = true := by simp; omega
      have HB : Hid (r = .bad 111) := by
        have hnone : quoEnd s gk (i + n) = none := by
          cases gk with
          | zero => rfl
          | succ k => rw [quoEnd, if_neg (fun h => hin h.1)]
        rw [HR.out, ← hq.out, hnone]; rfl
      clear hq
      go_wp2_with fail
      go_quiet (fail)
      go_wp2_with fail
      refine (bad_c R s i line v _ _ (by exact HA.out)).mono ?_
      rintro e w2 ⟨rfl, rfl⟩
      go_wp2_with fail
      go_ret
      exact LxRes.mkBad HB.out ⟨rfl, rfl, rfl, Nat.le_refl _, fun _ _ => rfl⟩ (Nat.le_of_lt hlt)
end Go.Proofs.YtggngahmafbihaaGreatDoor
