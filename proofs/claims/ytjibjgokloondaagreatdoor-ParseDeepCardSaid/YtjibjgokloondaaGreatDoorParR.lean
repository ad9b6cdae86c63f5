/- Contracts of the functions that the statement reaches, and the plain mathematics beneath: several texts joined. -/
import Derived.Test.YtjibjgokloondaaGreatDoorParP
import Derived.Test.YtjibjgokloondaaGreatDoorParN
import Derived.Test.YtjibjgokloondaaGreatDoorParQ
import Derived.Test.YtjibjgokloondaaGreatDoorParA
import Derived.Test.YtjibjgokloondaaGreatDoorParB
import Derived.Test.YtjibjgokloondaaGreatDoorParC
import Derived.Test.YtjibjgokloondaaGreatDoorParD
import Derived.Test.YtjibjgokloondaaGreatDoorParE
import Derived.Test.YtjibjgokloondaaGreatDoorParF
import Derived.Test.YtjibjgokloondaaGreatDoorParG
import Derived.Test.YtjibjgokloondaaGreatDoorParH
import Derived.Test.YtjibjgokloondaaGreatDoorParI
import Derived.Test.YtjibjgokloondaaGreatDoorParJ
import Derived.Test.YtjibjgokloondaaGreatDoorParK
import Derived.Test.YtjibjgokloondaaGreatDoorParL
import Derived.Test.YtjibjgokloondaaGreatDoorParM
import Derived.Test.YtjibjgokloondaaGreatDoorParO
namespace Go.Proofs.YtjibjgokloondaaGreatDoor
open Go.RowKit Go.Lib
set_option linter.unusedVariables false

theorem uintM_big : ∀ (l : List UInt8) (acc : Nat), (∀ c ∈ l, isDg c = true) → acc ≤ 18446744073709551615 → 18446744073709551615 < dval acc l → parseUintM 18446744073709551615 acc l = .range
  | [], acc, _, h0, h => by rw [dval_nil] at h; omega
  | c :: r, acc, hd, h0, h => by
    have hc := isDg_iff.1 (hd c (by simp))
    rw [dval_cons, dg1_eq] at h
    rw [parseUintM, if_pos hc]
    by_cases h1 : 1844674407370955162 ≤ acc
    · rw [if_pos h1]
    · rw [if_neg h1]
      by_cases h2 : 18446744073709551615 < acc * 10 + (c.toNat - 48)
      · rw [if_pos h2]
      · rw [if_neg h2]
        exact uintM_big r _ (fun x hx => hd x (by simp [hx])) (by omega) h
theorem parse_digits {l : List UInt8} (hd : ∀ c ∈ l, isDg c = true) (hne : l ≠ []) : parseIntB 64 l = if 9223372036854775807 < dval 0 l then .range else .ok (dval 0 l : Int) := by
  obtain ⟨a, r, rfl⟩ : ∃ a r, l = a :: r := by cases l with | nil => exact absurd rfl hne | cons a r => exact ⟨a, r, rfl⟩
  have ha := isDg_iff.1 (hd a (by simp))
  unfold parseIntB parseUintB
  simp only
  rw [if_neg (show ¬ (a.toNat = 43 ∨ a.toNat = 45) by omega)]
  simp only [if_neg hne]
  rw [show (2 : Nat) ^ 64 - 1 = 18446744073709551615 from by decide]
  by_cases hb : 18446744073709551615 < dval 0 (a :: r)
  · rw [uintM_big _ 0 hd (by omega) hb, if_pos (by omega)]
  · rw [uintM_digits _ 0 hd (by omega)]
    simp only
    by_cases h2 : 9223372036854775807 < dval 0 (a :: r)
    · rw [if_pos h2, if_pos (by omega)]
    · rw [if_neg h2, if_neg (by omega), if_neg (by omega), if_neg (by omega)]
/-- The bytes of a run are of its sort. -/
theorem run_all (s : ByteArray) (p : UInt8 → Bool) (i : Nat) (h : i ≤ s.size) : ∀ c ∈ (s.extract i (i + run s p i)).data.toList, p c = true := by
  obtain ⟨a, r, h1, h2, h3⟩ := runN_drop s p (s.size + 1) i h
  intro c hc
  rw [show run s p i = a.length from h2.symm, ext_split h1] at hc
  exact h3 c hc
theorem run_ext_len (s : ByteArray) (p : UInt8 → Bool) (i : Nat) (h : i ≤ s.size) : (s.extract i (i + run s p i)).size = run s p i := by
  have := run_le s p i h
  rw [ByteArray.size_extract]; omega
theorem run_head (s : ByteArray) (n i : Nat) (h1 : 1 ≤ n) (h : i + n ≤ s.size) : pk (s.extract i (i + n)) 0 = pk s i := by
  unfold pk
  rw [ByteArray.data_extract, Array.toList_extract, List.extract_eq_take_drop, List.getD_eq_getElem?_getD, List.getD_eq_getElem?_getD, List.getElem?_take_of_lt (by omega), List.getElem?_drop, Nat.add_zero]

/-- What a number's walk shows. -/
def DgRes (ea : Nat → Addr) (B : Nat) (line : Int) (r : Nat ⊕ (Int × Nat)) (e : Ending) (w' : World) : Prop := match r with
  | .inl c => ∃ A, B ≤ A ∧ w'.heap[A]? = some (.cells #[.int .i64 line, .iface 204 (.pointer (some (ea c)))] 61 (0, 0)) ∧ e = .returned (.tuple #[.int .i64 0, .int .i64 0, .iface 58 (.pointer (some ⟨A, 0, none⟩))])
  | .inr (v, n) => e = .returned (.tuple #[.int .i64 v, .int .i64 n, .nilIface])
theorem DgRes.mkBad {ea : Nat → Addr} {c : Nat} {line : Int} {r : Nat ⊕ (Int × Nat)} {w w1 : World} (hr : r = .inl c) (hb : Below w.heap.size w w1) :
    DgRes ea w.heap.size line r (.returned (.tuple #[.int .i64 0, .int .i64 0, .iface 58 (.pointer (some ⟨w1.heap.size, 0, none⟩))])) (w1.alloc (.cells #[.int .i64 line, .iface 204 (.pointer (some (ea c)))] 61)) ∧
    Below w.heap.size w (w1.alloc (.cells #[.int .i64 line, .iface 204 (.pointer (some (ea c)))] 61)) := by
  subst hr
  exact ⟨⟨_, hb.size, heap_alloc_new w1 _, rfl⟩, hb.alloc hb.size _⟩
theorem DgRes.mkOk {ea : Nat → Addr} {B n : Nat} {v line : Int} {r : Nat ⊕ (Int × Nat)} {w' : World} (hr : r = .inr (v, n)) : DgRes ea B line r (.returned (.tuple #[.int .i64 v, .int .i64 n, .nilIface])) w' := by
  subst hr; exact rfl

set_option maxRecDepth 100000 in
set_option maxHeartbeats 4000000 in
theorem digits_c (R : Nat) (s : ByteArray) (i0 : Nat) (line : Int) (v : Value) (i : Nat) (ea : Nat → Addr) (w : World) (ha : LxAt w R s i0 line v) (he : LxEnv w ea) (hi : i ≤ s.size) (hs : s.size ≤ 1000000000) (hR : 24 ≤ R) :
    Calls Tryz.prog 73 #[.pointer (some ⟨R, 0, none⟩), .int .i64 i] w fun e w' => DgRes ea w.heap.size line (dgsSp s i) e w' ∧ Below w.heap.size w w' := by
  have hlt := ha.lt
  have hc0 := ha.c0
  have RC := Lib.hid (run_c _ _ enters_digit digit_is R s i0 line v i w ha hi hs)
  obtain ⟨n, hn⟩ : ∃ n, n = run s digB i := ⟨_, rfl⟩
  have hn2 : i + n ≤ s.size := by rw [hn]; exact run_le s _ i hi
  obtain ⟨sub, hsub⟩ : ∃ sub, sub = s.extract i (i + n) := ⟨_, rfl⟩
  have hall : ∀ c ∈ sub.data.toList, digB c = true := by rw [hsub, hn]; exact run_all s digB i hi
  have hsz : sub.size = n := by rw [hsub, hn]; exact run_ext_len s digB i hi
  obtain ⟨r, hr⟩ : ∃ r, r = dgsSp s i := ⟨_, rfl⟩
  have HR : Hid (r = if n = 0 ∨ (1 < n ∧ pk s i = 48) ∨ (i + n < s.size ∧ (smB (pk s (i + n)) = true ∨ gtB (pk s (i + n)) = true)) then .inl 111
      else if 9223372036854775807 < dval 0 sub.data.toList then .inl 105 else .inr (dval 0 sub.data.toList, n)) := by rw [hr, hsub, hn]; rfl
  rw [← hr]
  rw [← hn] at RC
  have HA := Lib.hid ha
  have HE := Lib.hid he
  have e1 := he.err.syn
  have e2 := he.err.range
  have HS := Lib.hid hsub
  have HSZ := Lib.hid hsz
  obtain ⟨g1, g2, g3⟩ := sum_in i n (by omega)
  have hdz : (i : Int) + (n : Int) ≤ (s.size : Int) := by omega
  have hdw : (i : Int) ≤ (i : Int) + (n : Int) := by omega
  clear hr hn he ha hsub
  by_cases h0 : n = 0
  · have HB := Lib.hid (HR.out.trans (if_pos (.inl h0)))
    have hz : (((n : Nat) : Int) == 0) = true := by subst h0; rfl
    clear HR h0 hsz hall
    go_enter Tryz.func73, Tryz.ntmps73
    go_wp2_with fail
    refine RC.out.mono ?_
    rintro e w1 ⟨rfl, n1, rfl⟩
    go_wp2_with fail
    refine (bad_c R s i0 line v _ _ (by exact HA.out)).mono ?_
    rintro e w2 ⟨rfl, rfl⟩
    go_wp2_with fail
    go_returns
    exact DgRes.mkBad HB.out ⟨rfl, rfl, rfl, Nat.le_refl _, fun _ _ => rfl⟩
  have h1 : 1 ≤ n := by omega
  have hz : (((n : Nat) : Int) == 0) = false := by rw [beq_eq_false_iff_ne]; omega
  have hpk : pk (s.extract i (i + n)) 0 = pk s i := run_head s n i h1 hn2
  have hp0 : (0 : Nat) < (s.extract i (i + n)).size := by rw [← HS.out]; omega
  have hpq := pk_in (s.extract i (i + n)) 0 hp0
  have hz0 : (0 : Int) < ((s.extract i (i + n)).size : Int) := by omega
  by_cases hB : 1 < n ∧ pk s i = 48
  · have HB := Lib.hid (HR.out.trans (if_pos (.inr (.inl hB))))
    have hgt : decide ((1 : Int) < (n : Int)) = true := by simp; omega
    have hgt' : decide ((n : Int) > 1) = true := by simp; omega
    have h48 : ((((s.extract i (i + n))[0]'hp0).toNat : Int) == 48) = true := by rw [← hpq, hpk, hB.2]; rfl
    clear HR h0 hsz hall hpk hpq hB
    go_enter Tryz.func73, Tryz.ntmps73
    go_wp2_with fail
    refine RC.out.mono ?_
    rintro e w1 ⟨rfl, n1, rfl⟩
    go_wp2_with fail
    refine (bad_c R s i0 line v _ _ (by exact HA.out)).mono ?_
    rintro e w2 ⟨rfl, rfl⟩
    go_wp2_with fail
    go_returns
    exact DgRes.mkBad HB.out ⟨rfl, rfl, rfl, Nat.le_refl _, fun _ _ => rfl⟩
  have hlo : (n = 1) ∨ (1 < n ∧ ((((s.extract i (i + n))[0]'hp0).toNat : Int) == 48) = false) := by
    rcases Nat.lt_or_ge 1 n with h | h
    · refine .inr ⟨h, ?_⟩
      rw [beq_eq_false_iff_ne, ← hpq, hpk]
      intro e
      exact hB ⟨h, UInt8.toNat_inj.1 (by show (pk s i).toNat = 48; omega)⟩
    · exact .inl (by omega)
  have hBn : ¬ (n = 0 ∨ (1 < n ∧ pk s i = 48)) := by rintro (h | h); exact h0 h; exact hB h
  have hrest : r = if i + n < s.size ∧ (smB (pk s (i + n)) = true ∨ gtB (pk s (i + n)) = true) then .inl 111
      else if 9223372036854775807 < dval 0 sub.data.toList then .inl 105 else .inr (dval 0 sub.data.toList, n) := by
    rw [HR.out]
    by_cases hc : i + n < s.size ∧ (smB (pk s (i + n)) = true ∨ gtB (pk s (i + n)) = true)
    · rw [if_pos hc, if_pos (.inr (.inr hc))]
    · rw [if_neg hc, if_neg (by rintro (h | h | h); exact h0 h; exact hB h; exact hc h)]
  have hne : sub.data.toList ≠ [] := by
    intro e; have : sub.size = 0 := by rw [ByteArray.size, ← Array.length_toList, e]; rfl
    omega
  have hpi := parse_digits (fun c hc => by rw [← digB_isDg]; exact hall c hc) hne
  obtain ⟨V, hV⟩ : ∃ V : Nat, V = dval 0 sub.data.toList := ⟨_, rfl⟩
  rw [← hV] at hrest hpi
  have HRR := Lib.hid hrest
  have PX : Hid (∀ W, Below w.heap.size w W → Calls Tryz.prog 90 #[.string sub, .int .i64 10, .int .i64 64] W fun e w' => Below w.heap.size w w' ∧
      ((9223372036854775807 < V ∧ ∃ x N, e = .returned (.tuple #[.int .i64 x, .iface 170 (.pointer (some ⟨N, 0, none⟩))])) ∨
       (¬ 9223372036854775807 < V ∧ e = .returned (.tuple #[.int .i64 (V), .nilIface])))) := by
    intro W hW
    by_cases hbig : 9223372036854775807 < V
    · rw [if_pos hbig] at hpi
      obtain ⟨te, pe, hv⟩ := (HE.out.str.below hW (Nat.le_refl _)).rng
      refine (Tryz.strconv_ParseInt_10_at64_range sub (by omega) hpi _ W hv (.inr ⟨te, pe, rfl⟩)).mono ?_
      rintro e w' ⟨N, h1, _, _, h4⟩
      exact ⟨hW.trans (below_le' h4 hW.size), .inl ⟨hbig, _, N, h1⟩⟩
    · rw [if_neg hbig] at hpi
      refine (Tryz.strconv_ParseInt_10_at64_ok sub (by omega) _ hpi W).mono ?_
      rintro e w' ⟨h1, hw⟩
      refine ⟨hW.trans (below_le' ?_ hW.size), .inr ⟨hbig, h1⟩⟩
      rcases hw with rfl | ⟨t, rfl⟩
      · exact Below.refl _ _
      · exact bytesWorld_below _ _ _
  clear hV hrest HR hall hpk hpq hB hBn hpi hne hsz
  rcases hlo with hlo0 | ⟨hlo0, h48⟩
  · have hgt : decide ((1 : Int) < (n : Int)) = false := by simp; omega
    have hgt' : decide ((n : Int) > 1) = false := by simp; omega
    have hle1 : (n : Int) ≤ 1 := by omega
    clear hlo0
    by_cases hin : i + n < s.size
    · have hdx : decide ((i : Int) + (n : Int) < (s.size : Int)) = true := by simp; omega
      have hdy : (i : Int) + (n : Int) < (s.size : Int) := by omega
      have SC := Lib.hid (fun W => by have := small_c (pk s (i + n)) W; rw [pk_in s (i + n) hin] at this; exact this)
      have GC := Lib.hid (fun W => by have := great_c (pk s (i + n)) W; rw [pk_in s (i + n) hin] at this; exact this)
      cases hsm : smB (pk s (i + n)) with
      | true =>
        have HB := Lib.hid (HRR.out.trans (if_pos ⟨hin, .inl hsm⟩))
        rw [← pk_in s (i + n) hin, hsm, pk_in s (i + n) hin] at SC
        clear HRR hsm PX GC h0
        go_enter Tryz.func73, Tryz.ntmps73
        go_wp2_with fail
        refine RC.out.mono ?_
        rintro e w1 ⟨rfl, n1, rfl⟩
        go_wp2_with fail
        refine (SC.out _).mono ?_
        rintro e w2 ⟨rfl, rfl⟩
        go_wp2_with fail
        refine (bad_c R s i0 line v _ _ (by exact HA.out)).mono ?_
        rintro e w2 ⟨rfl, rfl⟩
        go_wp2_with fail
        go_returns
        exact DgRes.mkBad HB.out ⟨rfl, rfl, rfl, Nat.le_refl _, fun _ _ => rfl⟩
      | false =>
        rw [← pk_in s (i + n) hin, hsm, pk_in s (i + n) hin] at SC
        cases hgr : gtB (pk s (i + n)) with
        | true =>
          have HB := Lib.hid (HRR.out.trans (if_pos ⟨hin, .inr hgr⟩))
          rw [← pk_in s (i + n) hin, hgr, pk_in s (i + n) hin] at GC
          clear HRR hsm hgr PX h0
          go_enter Tryz.func73, Tryz.ntmps73
          go_wp2_with fail
          refine RC.out.mono ?_
          rintro e w1 ⟨rfl, n1, rfl⟩
          go_wp2_with fail
          refine (SC.out _).mono ?_
          rintro e w2 ⟨rfl, rfl⟩
          go_wp2_with fail
          refine (GC.out _).mono ?_
          rintro e w2 ⟨rfl, rfl⟩
          go_wp2_with fail
          refine (bad_c R s i0 line v _ _ (by exact HA.out)).mono ?_
          rintro e w2 ⟨rfl, rfl⟩
          go_wp2_with fail
          go_returns
          exact DgRes.mkBad HB.out ⟨rfl, rfl, rfl, Nat.le_refl _, fun _ _ => rfl⟩
        | false =>
          have HB := Lib.hid (HRR.out.trans (if_neg (by rintro ⟨_, h | h⟩; rw [hsm] at h; cases h; rw [hgr] at h; cases h)))
          rw [← pk_in s (i + n) hin, hgr, pk_in s (i + n) hin] at GC
          clear HRR hsm hgr h0
          go_enter Tryz.func73, Tryz.ntmps73
          go_wp2_with fail
          refine RC.out.mono ?_
          rintro e w1 ⟨rfl, n1, rfl⟩
          go_wp2_with fail
          refine (SC.out _).mono ?_
          rintro e w2 ⟨rfl, rfl⟩
          go_wp2_with fail
          refine (GC.out _).mono ?_
          rintro e w2 ⟨rfl, rfl⟩
          go_wp2_with fail
          have PY0 := PX.out (w.drewN n1) ⟨rfl, rfl, rfl, Nat.le_refl _, fun _ _ => rfl⟩
          have HB0 := HB.out
          rw [HS.out] at PY0
          have PY := Lib.hid PY0
          have HB1 := Lib.hid HB0
          clear PX PY0 HB0 HB
          refine PY.out.mono ?_
          rintro e w3 ⟨hb3, hres⟩
          have HB3 := Lib.hid hb3
          have e4 := (HE.out.below hb3 (by omega)).err.range
          have HA3 := Lib.hid (HA.out.below hb3 hlt)
          rcases hres with ⟨hbig, x, N, rfl⟩ | ⟨hbig, rfl⟩
          · have HF := Lib.hid (HB1.out.trans (if_pos hbig))
            clear hb3 hbig PY e1 e2
            go_wp2_with fail
            refine (bad_c R s i0 line v _ _ (by exact HA3.out)).mono ?_
            rintro e w2 ⟨rfl, rfl⟩
            go_wp2_with fail
            go_returns
            exact DgRes.mkBad HF.out HB3.out
          · have HF := Lib.hid (HB1.out.trans (if_neg hbig))
            clear hb3 hbig PY e1 e2
            go_wp2_with fail
            go_returns
            exact ⟨DgRes.mkOk HF.out, HB3.out⟩
    · have hdx : decide ((i : Int) + (n : Int) < (s.size : Int)) = false := by simp; omega
      have HB := Lib.hid (HRR.out.trans (if_neg (fun h => hin h.1)))
      clear HRR h0
      go_enter Tryz.func73, Tryz.ntmps73
      go_wp2_with fail
      refine RC.out.mono ?_
      rintro e w1 ⟨rfl, n1, rfl⟩
      go_wp2_with fail
      have PY0 := PX.out (w.drewN n1) ⟨rfl, rfl, rfl, Nat.le_refl _, fun _ _ => rfl⟩
      have HB0 := HB.out
      rw [HS.out] at PY0
      have PY := Lib.hid PY0
      have HB1 := Lib.hid HB0
      clear PX PY0 HB0 HB
      refine PY.out.mono ?_
      rintro e w3 ⟨hb3, hres⟩
      have HB3 := Lib.hid hb3
      have e4 := (HE.out.below hb3 (by omega)).err.range
      have HA3 := Lib.hid (HA.out.below hb3 hlt)
      rcases hres with ⟨hbig, x, N, rfl⟩ | ⟨hbig, rfl⟩
      · have HF := Lib.hid (HB1.out.trans (if_pos hbig))
        clear hb3 hbig PY e1 e2
        go_wp2_with fail
        refine (bad_c R s i0 line v _ _ (by exact HA3.out)).mono ?_
        rintro e w2 ⟨rfl, rfl⟩
        go_wp2_with fail
        go_returns
        exact DgRes.mkBad HF.out HB3.out
      · have HF := Lib.hid (HB1.out.trans (if_neg hbig))
        clear hb3 hbig PY e1 e2
        go_wp2_with fail
        go_returns
        exact ⟨DgRes.mkOk HF.out, HB3.out⟩
  · have hgt : decide ((1 : Int) < (n : Int)) = true := by simp; omega
    have hgt' : decide ((n : Int) > 1) = true := by simp; omega
    by_cases hin : i + n < s.size
    · have hdx : decide ((i : Int) + (n : Int) < (s.size : Int)) = true := by simp; omega
      have hdy : (i : Int) + (n : Int) < (s.size : Int) := by omega
      have SC := Lib.hid (fun W => by have := small_c (pk s (i + n)) W; rw [pk_in s (i + n) hin] at this; exact this)
      have GC := Lib.hid (fun W => by have := great_c (pk s (i + n)) W; rw [pk_in s (i + n) hin] at this; exact this)
      cases hsm : smB (pk s (i + n)) with
      | true =>
        have HB := Lib.hid (HRR.out.trans (if_pos ⟨hin, .inl hsm⟩))
        rw [← pk_in s (i + n) hin, hsm, pk_in s (i + n) hin] at SC
        clear HRR hsm PX GC h0
        go_enter Tryz.func73, Tryz.ntmps73
        go_wp2_with fail
        refine RC.out.mono ?_
        rintro e w1 ⟨rfl, n1, rfl⟩
        go_wp2_with fail
        refine (SC.out _).mono ?_
        rintro e w2 ⟨rfl, rfl⟩
        go_wp2_with fail
        refine (bad_c R s i0 line v _ _ (by exact HA.out)).mono ?_
        rintro e w2 ⟨rfl, rfl⟩
        go_wp2_with fail
        go_returns
        exact DgRes.mkBad HB.out ⟨rfl, rfl, rfl, Nat.le_refl _, fun _ _ => rfl⟩
      | false =>
        rw [← pk_in s (i + n) hin, hsm, pk_in s (i + n) hin] at SC
        cases hgr : gtB (pk s (i + n)) with
        | true =>
          have HB := Lib.hid (HRR.out.trans (if_pos ⟨hin, .inr hgr⟩))
          rw [← pk_in s (i + n) hin, hgr, pk_in s (i + n) hin] at GC
          clear HRR hsm hgr PX h0
          go_enter Tryz.func73, Tryz.ntmps73
          go_wp2_with fail
          refine RC.out.mono ?_
          rintro e w1 ⟨rfl, n1, rfl⟩
          go_wp2_with fail
          refine (SC.out _).mono ?_
          rintro e w2 ⟨rfl, rfl⟩
          go_wp2_with fail
          refine (GC.out _).mono ?_
          rintro e w2 ⟨rfl, rfl⟩
          go_wp2_with fail
          refine (bad_c R s i0 line v _ _ (by exact HA.out)).mono ?_
          rintro e w2 ⟨rfl, rfl⟩
          go_wp2_with fail
          go_returns
          exact DgRes.mkBad HB.out ⟨rfl, rfl, rfl, Nat.le_refl _, fun _ _ => rfl⟩
        | false =>
          have HB := Lib.hid (HRR.out.trans (if_neg (by rintro ⟨_, h | h⟩; rw [hsm] at h; cases h; rw [hgr] at h; cases h)))
          rw [← pk_in s (i + n) hin, hgr, pk_in s (i + n) hin] at GC
          clear HRR hsm hgr h0
          go_enter Tryz.func73, Tryz.ntmps73
          go_wp2_with fail
          refine RC.out.mono ?_
          rintro e w1 ⟨rfl, n1, rfl⟩
          go_wp2_with fail
          refine (SC.out _).mono ?_
          rintro e w2 ⟨rfl, rfl⟩
          go_wp2_with fail
          refine (GC.out _).mono ?_
          rintro e w2 ⟨rfl, rfl⟩
          go_wp2_with fail
          have PY0 := PX.out (w.drewN n1) ⟨rfl, rfl, rfl, Nat.le_refl _, fun _ _ => rfl⟩
          have HB0 := HB.out
          rw [HS.out] at PY0
          have PY := Lib.hid PY0
          have HB1 := Lib.hid HB0
          clear PX PY0 HB0 HB
          refine PY.out.mono ?_
          rintro e w3 ⟨hb3, hres⟩
          have HB3 := Lib.hid hb3
          have e4 := (HE.out.below hb3 (by omega)).err.range
          have HA3 := Lib.hid (HA.out.below hb3 hlt)
          rcases hres with ⟨hbig, x, N, rfl⟩ | ⟨hbig, rfl⟩
          · have HF := Lib.hid (HB1.out.trans (if_pos hbig))
            clear hb3 hbig PY e1 e2
            go_wp2_with fail
            refine (bad_c R s i0 line v _ _ (by exact HA3.out)).mono ?_
            rintro e w2 ⟨rfl, rfl⟩
            go_wp2_with fail
            go_returns
            exact DgRes.mkBad HF.out HB3.out
          · have HF := Lib.hid (HB1.out.trans (if_neg hbig))
            clear hb3 hbig PY e1 e2
            go_wp2_with fail
            go_returns
            exact ⟨DgRes.mkOk HF.out, HB3.out⟩
    · have hdx : decide ((i : Int) + (n : Int) < (s.size : Int)) = false := by simp; omega
      have HB := Lib.hid (HRR.out.trans (if_neg (fun h => hin h.1)))
      clear HRR h0
      go_enter Tryz.func73, Tryz.ntmps73
      go_wp2_with fail
      refine RC.out.mono ?_
      rintro e w1 ⟨rfl, n1, rfl⟩
      go_wp2_with fail
      have PY0 := PX.out (w.drewN n1) ⟨rfl, rfl, rfl, Nat.le_refl _, fun _ _ => rfl⟩
      have HB0 := HB.out
      rw [HS.out] at PY0
      have PY := Lib.hid PY0
      have HB1 := Lib.hid HB0
      clear PX PY0 HB0 HB
      refine PY.out.mono ?_
      rintro e w3 ⟨hb3, hres⟩
      have HB3 := Lib.hid hb3
      have e4 := (HE.out.below hb3 (by omega)).err.range
      have HA3 := Lib.hid (HA.out.below hb3 hlt)
      rcases hres with ⟨hbig, x, N, rfl⟩ | ⟨hbig, rfl⟩
      · have HF := Lib.hid (HB1.out.trans (if_pos hbig))
        clear hb3 hbig PY e1 e2
        go_wp2_with fail
        refine (bad_c R s i0 line v _ _ (by exact HA3.out)).mono ?_
        rintro e w2 ⟨rfl, rfl⟩
        go_wp2_with fail
        go_returns
        exact DgRes.mkBad HF.out HB3.out
      · have HF := Lib.hid (HB1.out.trans (if_neg hbig))
        clear hb3 hbig PY e1 e2
        go_wp2_with fail
        go_returns
        exact ⟨DgRes.mkOk HF.out, HB3.out⟩
end Go.Proofs.YtjibjgokloondaaGreatDoor
namespace Go.Proofs.YtjibjgokloondaaGreatDoor
open Go.RowKit Go.Lib
set_option linter.unusedVariables false

theorem dgs_inr {s : ByteArray} {i n : Nat} {v : Int} (h : dgsSp s i = .inr (v, n)) (hi : i ≤ s.size) : 1 ≤ n ∧ i + n ≤ s.size ∧ 0 ≤ v ∧ v ≤ 9223372036854775807 := by
  unfold dgsSp at h
  simp only at h
  split at h
  · cases h
  · rename_i hc
    split at h
    · cases h
    · rename_i hv
      injection h with h
      injection h with h1 h2
      subst h1; subst h2
      refine ⟨?_, run_le s digB i hi, by omega, by omega⟩
      rcases Nat.eq_zero_or_pos (run s digB i) with h0 | h0
      · exact absurd (.inl h0) hc
      · exact h0
def intR (s : ByteArray) (i : Nat) (line : Int) : WR := match dgsSp s i with
  | .inl e => .bad e
  | .inr (v, n) => .word n ⟨3, line, ⟨#[]⟩, 0, v, ⟨#[]⟩⟩
theorem wordR_int {s : ByteArray} {i : Nat} {line : Int} (h0 : smB (pk s i) = false) (h : digB (pk s i) = true) : wordR s i line = intR s i line := by
  unfold wordR intR
  simp only [h0, h, Bool.false_eq_true, if_false, if_true]
  cases dgsSp s i with
  | inl e => rfl
  | inr p => rfl
def objR (s : ByteArray) (i : Nat) (line : Int) : WR :=
  let neg := pk s (i + 1) == 45
  let j := if neg then i + 2 else i + 1
  match dgsSp s j with
  | .inl e => .bad e
  | .inr (v, n) =>
    if neg = true ∧ v = 0 then .bad 111
    else
      let v := if neg then -v else v
      if v < -2147483648 ∨ 2147483647 < v then .bad 105 else .word (j + n - i) ⟨3, line, ⟨#[]⟩, 1, v, ⟨#[]⟩⟩
theorem wordR_obj {s : ByteArray} {i : Nat} {line : Int} (h : pk s i = 35) : wordR s i line = objR s i line := by
  have h1 : smB (35 : UInt8) = false := by decide
  have h2 : digB (35 : UInt8) = false := by decide
  have h3 : gtB (35 : UInt8) = false := by decide
  unfold wordR objR
  simp only [h, h1, h2, h3, Bool.false_eq_true, if_false, if_true]
  cases dgsSp s (if (pk s (i + 1) == 45) = true then i + 2 else i + 1) with
  | inl e => rfl
  | inr p => rfl

set_option maxRecDepth 100000 in
set_option maxHeartbeats 2000000 in
theorem integer_c (R : Nat) (s : ByteArray) (i : Nat) (line : Int) (l : List Tok) (ea : Nat → Addr) (w : World) (h : LxSt w R s i line l) (he : LxEnv w ea) (hi : i < s.size) (hs : s.size ≤ 1000000000) (hR : 24 ≤ R) :
    Calls Tryz.prog 50 #[.pointer (some ⟨R, 0, none⟩)] w (LxRes ea R s i line l (intR s i line) w) := by
  have hlt := h.lt
  obtain ⟨v, L, ha, _⟩ := id h
  have hc1 := ha.c1
  have DC := digits_c R s i line v i ea w ha he (by omega) hs hR
  have HH := Lib.hid h
  unfold intR
  clear h he ha
  cases hq : dgsSp s i with
  | inl c =>
    rw [hq] at DC
    have DD := Lib.hid DC
    clear hq DC
    go_enter Tryz.func50, Tryz.ntmps50
    go_wp2_with fail
    refine DD.out.mono ?_
    rintro e w2 ⟨⟨A, hA, hh, rfl⟩, hb⟩
    have HX := Lib.hid hA
    have HY := Lib.hid hh
    have HB := Lib.hid hb
    clear hA hh hb
    go_wp2_with fail
    go_ret
    exact ⟨below_le' HB.out (Nat.le_of_lt hlt), _, Nat.le_trans (Nat.le_of_lt hlt) HX.out, HY.out, rfl⟩
  | inr p =>
    obtain ⟨x, n⟩ := p
    obtain ⟨hn1, hn2, hx1, hx2⟩ := dgs_inr hq (by omega)
    rw [hq] at DC
    have DD := Lib.hid DC
    clear hq DC
    go_enter Tryz.func50, Tryz.ntmps50
    go_wp2_with fail
    refine DD.out.mono ?_
    rintro e w2 ⟨he2, hb⟩
    have he2' : e = .returned (.tuple #[.int .i64 x, .int .i64 n, .nilIface]) := he2
    subst he2'
    have HB := Lib.hid hb
    clear hb he2
    go_wp2_with fail
    refine (put_c R s i line l _ (HH.out.below_self HB.out) n hn1 hn2 hs ⟨3, 0, ⟨#[]⟩, 0, x, ⟨#[]⟩⟩ 0 none 0).mono ?_
    rintro e w3 ⟨rfl, hb3, hst⟩
    go_wp2_with fail
    go_ret
    exact LxRes.mkWord rfl ((below_le' HB.out (Nat.le_of_lt hlt)).trans hb3) hst

set_option maxRecDepth 100000 in
set_option maxHeartbeats 4000000 in
theorem object_c (R : Nat) (s : ByteArray) (i : Nat) (line : Int) (l : List Tok) (ea : Nat → Addr) (w : World) (h : LxSt w R s i line l) (he : LxEnv w ea) (hi : i < s.size) (hs : s.size ≤ 1000000000) (hR : 24 ≤ R) :
    Calls Tryz.prog 53 #[.pointer (some ⟨R, 0, none⟩)] w (LxRes ea R s i line l (objR s i line) w) := by
  have hlt := h.lt
  obtain ⟨v, L, ha, _⟩ := id h
  have hc0 := ha.c0; have hc1 := ha.c1
  have HH := Lib.hid h
  have HA := Lib.hid ha
  have HE := Lib.hid he
  obtain ⟨r, hr⟩ : ∃ r, r = objR s i line := ⟨_, rfl⟩
  rw [← hr]
  have hsz : (i : Int) + 1 ≤ (s.size : Int) := by omega
  have hib : (i : Int) ≤ 1000000000 := by omega
  clear h he ha
  by_cases hin : i + 1 < s.size
  · by_cases h45 : pk s (i + 1) = 45
    · have DC := digits_c R s i line v (i + 2) ea w HA.out HE.out (by omega) hs hR
      rw [show (((i + 2 : Nat)) : Int) = ((i : Int) + 1 + 1) from by omega] at DC
      have hp : (pk s (i + 1) == 45) = true := by rw [h45]; rfl
      have hlt1 : (i : Int) + 1 < (s.size : Int) := by omega
      have hd1 : decide ((i : Int) + 1 < (s.size : Int)) = true := by simp; omega
      have hq1 : (((s[i + 1]'hin).toNat : Int) == 45) = true := by rw [← pk_in s (i + 1) hin, h45]; rfl
      clear h45
      cases hq : dgsSp s (i + 2) with
      | inl c =>
        have HRR := Lib.hid (show r = .bad c by rw [hr]; unfold objR; simp only [hp, if_true, hq])
        rw [hq] at DC
        have DD := Lib.hid DC
        clear hq DC hr hp
        go_enter Tryz.func53, Tryz.ntmps53
        go_wp2_with fail
        refine DD.out.mono ?_
        rintro e w2 ⟨⟨A, hA, hh, rfl⟩, hb⟩
        have HX := Lib.hid hA
        have HY := Lib.hid hh
        have HB := Lib.hid hb
        clear hA hh hb
        go_wp2_with fail
        go_ret
        rw [HRR.out]
        exact ⟨below_le' HB.out (Nat.le_of_lt hlt), _, Nat.le_trans (Nat.le_of_lt hlt) HX.out, HY.out, rfl⟩
      | inr p =>
        obtain ⟨x, n⟩ := p
        obtain ⟨hn1, hn2, hx1, hx2⟩ := dgs_inr hq (by omega)
        rw [hq] at DC
        have DD := Lib.hid DC
        by_cases h0 : x = 0
        · have HRR := Lib.hid (show r = .bad 111 by rw [hr]; unfold objR; simp only [hp, if_true, hq]; rw [if_pos ⟨trivial, h0⟩])
          have hx0 : (x == 0) = true := by rw [h0]; rfl
          clear hq DC hr hp h0
          go_enter Tryz.func53, Tryz.ntmps53
          go_wp2_with fail
          refine DD.out.mono ?_
          rintro e w2 ⟨he2, hb⟩
          have he2' : e = .returned (.tuple #[.int .i64 x, .int .i64 n, .nilIface]) := he2
          subst he2'
          have HB := Lib.hid hb
          have HA2 := Lib.hid (HA.out.below hb hlt)
          have c12 := HA2.out.c1
          have e1 := (HE.out.below hb (by omega)).err.syn
          have e2 := (HE.out.below hb (by omega)).err.range
          clear hb he2
          go_wp2_with fail
          refine (bad_c R s i line v _ _ (by exact HA2.out)).mono ?_
          rintro e w3 ⟨rfl, rfl⟩
          go_wp2_with fail
          go_ret
          exact LxRes.mkBad HRR.out (below_le' HB.out (Nat.le_of_lt hlt)) (Nat.le_trans (Nat.le_of_lt hlt) HB.out.size)
        · have hx0 : (x == 0) = false := by rw [beq_eq_false_iff_ne]; exact h0
          have hx3 : 1 ≤ x := by omega
          by_cases hlo : -x < -2147483648
          · have HRR := Lib.hid (show r = .bad 105 by rw [hr]; unfold objR; simp only [hp, if_true, hq]; rw [if_neg (by rintro ⟨_, h⟩; omega), if_pos (.inl hlo)])
            clear hq DC hr hp
            go_enter Tryz.func53, Tryz.ntmps53
            go_wp2_with fail
            refine DD.out.mono ?_
            rintro e w2 ⟨he2, hb⟩
            have he2' : e = .returned (.tuple #[.int .i64 x, .int .i64 n, .nilIface]) := he2
            subst he2'
            have HB := Lib.hid hb
            have HA2 := Lib.hid (HA.out.below hb hlt)
            have c12 := HA2.out.c1
            have e1 := (HE.out.below hb (by omega)).err.syn
            have e2 := (HE.out.below hb (by omega)).err.range
            clear hb he2
            go_wp2_with fail
            refine (bad_c R s i line v _ _ (by exact HA2.out)).mono ?_
            rintro e w3 ⟨rfl, rfl⟩
            go_wp2_with fail
            go_ret
            exact LxRes.mkBad HRR.out (below_le' HB.out (Nat.le_of_lt hlt)) (Nat.le_trans (Nat.le_of_lt hlt) HB.out.size)
          · have HRR := Lib.hid (show r = .word (2 + n) ⟨3, line, ⟨#[]⟩, 1, -x, ⟨#[]⟩⟩ by rw [hr]; unfold objR; simp only [hp, if_true, hq]; rw [if_neg (by rintro ⟨_, h⟩; omega), if_neg (by omega), show i + 2 + n - i = 2 + n from by omega])
            have hlo' : -2147483648 ≤ -x := by omega
            have hhi' : -x ≤ 2147483647 := by omega
            clear hq DC hr hp
            go_enter Tryz.func53, Tryz.ntmps53
            go_wp2_with fail
            refine DD.out.mono ?_
            rintro e w2 ⟨he2, hb⟩
            have he2' : e = .returned (.tuple #[.int .i64 x, .int .i64 n, .nilIface]) := he2
            subst he2'
            have HB := Lib.hid hb
            have HA2 := Lib.hid (HA.out.below hb hlt)
            have c12 := HA2.out.c1
            have e1 := (HE.out.below hb (by omega)).err.syn
            have e2 := (HE.out.below hb (by omega)).err.range
            clear hb he2
            go_wp2_with fail
            obtain ⟨m, hm⟩ : ∃ m : Nat, m = (2 + n) := ⟨_, rfl⟩
            rw [show (((i : Int) + 1 + 1) + (n : Int) - (i : Int)) = (m : Int) from by omega]
            refine (put_c R s i line l _ (HH.out.below_self HB.out) m (by omega) (by omega) hs ⟨3, 0, ⟨#[]⟩, 1, -x, ⟨#[]⟩⟩ 0 none 0).mono ?_
            rintro e w3 ⟨rfl, hb3, hst⟩
            go_wp2_with fail
            go_ret
            exact LxRes.mkWord (by rw [HRR.out, hm]) ((below_le' HB.out (Nat.le_of_lt hlt)).trans hb3) hst
    · have DC := digits_c R s i line v (i + 1) ea w HA.out HE.out (by omega) hs hR
      rw [show (((i + 1 : Nat)) : Int) = ((i : Int) + 1) from by omega] at DC
      have hp : (pk s (i + 1) == 45) = false := by rw [beq_eq_false_iff_ne]; exact h45
      have hlt1 : (i : Int) + 1 < (s.size : Int) := by omega
      have hd1 : decide ((i : Int) + 1 < (s.size : Int)) = true := by simp; omega
      have hq1 : (((s[i + 1]'hin).toNat : Int) == 45) = false := by rw [beq_eq_false_iff_ne, ← pk_in s (i + 1) hin]; intro e; exact h45 (UInt8.toNat_inj.1 (by show (pk s (i + 1)).toNat = 45; omega))
      clear h45
      cases hq : dgsSp s (i + 1) with
      | inl c =>
        have HRR := Lib.hid (show r = .bad c by rw [hr]; unfold objR; simp only [hp, Bool.false_eq_true, if_false, hq])
        rw [hq] at DC
        have DD := Lib.hid DC
        clear hq DC hr hp
        go_enter Tryz.func53, Tryz.ntmps53
        go_wp2_with fail
        refine DD.out.mono ?_
        rintro e w2 ⟨⟨A, hA, hh, rfl⟩, hb⟩
        have HX := Lib.hid hA
        have HY := Lib.hid hh
        have HB := Lib.hid hb
        clear hA hh hb
        go_wp2_with fail
        go_ret
        rw [HRR.out]
        exact ⟨below_le' HB.out (Nat.le_of_lt hlt), _, Nat.le_trans (Nat.le_of_lt hlt) HX.out, HY.out, rfl⟩
      | inr p =>
        obtain ⟨x, n⟩ := p
        obtain ⟨hn1, hn2, hx1, hx2⟩ := dgs_inr hq (by omega)
        rw [hq] at DC
        have DD := Lib.hid DC
        by_cases hhi : 2147483647 < x
        · have HRR := Lib.hid (show r = .bad 105 by rw [hr]; unfold objR; simp only [hp, Bool.false_eq_true, if_false, hq]; rw [if_neg (by rintro ⟨h, _⟩; exact h), if_pos (.inr hhi)])
          clear hq DC hr hp
          go_enter Tryz.func53, Tryz.ntmps53
          go_wp2_with fail
          refine DD.out.mono ?_
          rintro e w2 ⟨he2, hb⟩
          have he2' : e = .returned (.tuple #[.int .i64 x, .int .i64 n, .nilIface]) := he2
          subst he2'
          have HB := Lib.hid hb
          have HA2 := Lib.hid (HA.out.below hb hlt)
          have c12 := HA2.out.c1
          have e1 := (HE.out.below hb (by omega)).err.syn
          have e2 := (HE.out.below hb (by omega)).err.range
          clear hb he2
          go_wp2_with fail
          refine (bad_c R s i line v _ _ (by exact HA2.out)).mono ?_
          rintro e w3 ⟨rfl, rfl⟩
          go_wp2_with fail
          go_ret
          exact LxRes.mkBad HRR.out (below_le' HB.out (Nat.le_of_lt hlt)) (Nat.le_trans (Nat.le_of_lt hlt) HB.out.size)
        · have HRR := Lib.hid (show r = .word (1 + n) ⟨3, line, ⟨#[]⟩, 1, x, ⟨#[]⟩⟩ by rw [hr]; unfold objR; simp only [hp, Bool.false_eq_true, if_false, hq]; rw [if_neg (by rintro ⟨h, _⟩; exact h), if_neg (by omega), show i + 1 + n - i = 1 + n from by omega])
          have hhi' : x ≤ 2147483647 := by omega
          clear hq DC hr hp
          go_enter Tryz.func53, Tryz.ntmps53
          go_wp2_with fail
          refine DD.out.mono ?_
          rintro e w2 ⟨he2, hb⟩
          have he2' : e = .returned (.tuple #[.int .i64 x, .int .i64 n, .nilIface]) := he2
          subst he2'
          have HB := Lib.hid hb
          have HA2 := Lib.hid (HA.out.below hb hlt)
          have c12 := HA2.out.c1
          have e1 := (HE.out.below hb (by omega)).err.syn
          have e2 := (HE.out.below hb (by omega)).err.range
          clear hb he2
          go_wp2_with fail
          obtain ⟨m, hm⟩ : ∃ m : Nat, m = (1 + n) := ⟨_, rfl⟩
          rw [show (((i : Int) + 1) + (n : Int) - (i : Int)) = (m : Int) from by omega]
          refine (put_c R s i line l _ (HH.out.below_self HB.out) m (by omega) (by omega) hs ⟨3, 0, ⟨#[]⟩, 1, x, ⟨#[]⟩⟩ 0 none 0).mono ?_
          rintro e w3 ⟨rfl, hb3, hst⟩
          go_wp2_with fail
          go_ret
          exact LxRes.mkWord (by rw [HRR.out, hm]) ((below_le' HB.out (Nat.le_of_lt hlt)).trans hb3) hst
  · have DC := digits_c R s i line v (i + 1) ea w HA.out HE.out (by omega) hs hR
    rw [show (((i + 1 : Nat)) : Int) = ((i : Int) + 1) from by omega] at DC
    have hp : (pk s (i + 1) == 45) = false := by rw [pk_out s (i + 1) hin]; rfl
    have hd1 : decide ((i : Int) + 1 < (s.size : Int)) = false := by simp; omega
    clear hsz
    cases hq : dgsSp s (i + 1) with
    | inl c =>
      have HRR := Lib.hid (show r = .bad c by rw [hr]; unfold objR; simp only [hp, Bool.false_eq_true, if_false, hq])
      rw [hq] at DC
      have DD := Lib.hid DC
      clear hq DC hr hp hin
      go_enter Tryz.func53, Tryz.ntmps53
      go_wp2_with fail
      refine DD.out.mono ?_
      rintro e w2 ⟨⟨A, hA, hh, rfl⟩, hb⟩
      have HX := Lib.hid hA
      have HY := Lib.hid hh
      have HB := Lib.hid hb
      clear hA hh hb
      go_wp2_with fail
      go_ret
      rw [HRR.out]
      exact ⟨below_le' HB.out (Nat.le_of_lt hlt), _, Nat.le_trans (Nat.le_of_lt hlt) HX.out, HY.out, rfl⟩
    | inr p =>
      obtain ⟨x, n⟩ := p
      obtain ⟨hn1, hn2, hx1, hx2⟩ := dgs_inr hq (by omega)
      rw [hq] at DC
      have DD := Lib.hid DC
      by_cases hhi : 2147483647 < x
      · have HRR := Lib.hid (show r = .bad 105 by rw [hr]; unfold objR; simp only [hp, Bool.false_eq_true, if_false, hq]; rw [if_neg (by rintro ⟨h, _⟩; exact h), if_pos (.inr hhi)])
        clear hq DC hr hp
        clear hin
        go_enter Tryz.func53, Tryz.ntmps53
        go_wp2_with fail
        refine DD.out.mono ?_
        rintro e w2 ⟨he2, hb⟩
        have he2' : e = .returned (.tuple #[.int .i64 x, .int .i64 n, .nilIface]) := he2
        subst he2'
        have HB := Lib.hid hb
        have HA2 := Lib.hid (HA.out.below hb hlt)
        have c12 := HA2.out.c1
        have e1 := (HE.out.below hb (by omega)).err.syn
        have e2 := (HE.out.below hb (by omega)).err.range
        clear hb he2
        go_wp2_with fail
        refine (bad_c R s i line v _ _ (by exact HA2.out)).mono ?_
        rintro e w3 ⟨rfl, rfl⟩
        go_wp2_with fail
        go_ret
        exact LxRes.mkBad HRR.out (below_le' HB.out (Nat.le_of_lt hlt)) (Nat.le_trans (Nat.le_of_lt hlt) HB.out.size)
      · have HRR := Lib.hid (show r = .word (1 + n) ⟨3, line, ⟨#[]⟩, 1, x, ⟨#[]⟩⟩ by rw [hr]; unfold objR; simp only [hp, Bool.false_eq_true, if_false, hq]; rw [if_neg (by rintro ⟨h, _⟩; exact h), if_neg (by omega), show i + 1 + n - i = 1 + n from by omega])
        have hhi' : x ≤ 2147483647 := by omega
        clear hq DC hr hp
        clear hin
        go_enter Tryz.func53, Tryz.ntmps53
        go_wp2_with fail
        refine DD.out.mono ?_
        rintro e w2 ⟨he2, hb⟩
        have he2' : e = .returned (.tuple #[.int .i64 x, .int .i64 n, .nilIface]) := he2
        subst he2'
        have HB := Lib.hid hb
        have HA2 := Lib.hid (HA.out.below hb hlt)
        have c12 := HA2.out.c1
        have e1 := (HE.out.below hb (by omega)).err.syn
        have e2 := (HE.out.below hb (by omega)).err.range
        clear hb he2
        go_wp2_with fail
        obtain ⟨m, hm⟩ : ∃ m : Nat, m = (1 + n) := ⟨_, rfl⟩
        rw [show (((i : Int) + 1) + (n : Int) - (i : Int)) = (m : Int) from by omega]
        refine (put_c R s i line l _ (HH.out.below_self HB.out) m (by omega) (by omega) hs ⟨3, 0, ⟨#[]⟩, 1, x, ⟨#[]⟩⟩ 0 none 0).mono ?_
        rintro e w3 ⟨rfl, hb3, hst⟩
        go_wp2_with fail
        go_ret
        exact LxRes.mkWord (by rw [HRR.out, hm]) ((below_le' HB.out (Nat.le_of_lt hlt)).trans hb3) hst
end Go.Proofs.YtjibjgokloondaaGreatDoor
namespace Go.Proofs.YtjibjgokloondaaGreatDoor
open Go.RowKit Go.Lib
set_option linter.unusedVariables false

def codeR (s : ByteArray) (i : Nat) (line : Int) : WR :=
  let n := run s (fun c => gtB c || c == 95) i
  let k := codeOf (s.extract i (i + n))
  if k < 0 ∨ (i + n < s.size ∧ (smB (pk s (i + n)) = true ∨ digB (pk s (i + n)) = true)) then .bad 111
  else .word n ⟨3, line, ⟨#[]⟩, 3, k, ⟨#[]⟩⟩
theorem wordR_code {s : ByteArray} {i : Nat} {line : Int} (h0 : smB (pk s i) = false) (h1 : digB (pk s i) = false) (h : gtB (pk s i) = true) : wordR s i line = codeR s i line := by
  unfold wordR codeR
  simp only [h0, h1, h, Bool.false_eq_true, if_false, if_true]

set_option maxRecDepth 100000 in
set_option maxHeartbeats 4000000 in
theorem lcode_c (R : Nat) (s : ByteArray) (i : Nat) (line : Int) (l : List Tok) (ea : Nat → Addr) (w : World) (h : LxSt w R s i line l) (he : LxEnv w ea) (hi : i < s.size) (hs : s.size ≤ 1000000000) (hR : 24 ≤ R) (hgt : gtB (pk s i) = true) :
    Calls Tryz.prog 52 #[.pointer (some ⟨R, 0, none⟩)] w (LxRes ea R s i line l (codeR s i line) w) := by
  have hlt := h.lt
  obtain ⟨v, L, ha, _⟩ := id h
  have hc1 := ha.c1
  have RC := Lib.hid (run_c _ _ enters_code1 code_is R s i line v i w ha (by omega) hs)
  obtain ⟨n, hn⟩ : ∃ n, n = run s (fun c => gtB c || c == 95) i := ⟨_, rfl⟩
  have hn1 : 1 ≤ n := by rw [hn]; exact run_pos s _ i hi (by simp [hgt])
  have hn2 : i + n ≤ s.size := by rw [hn]; exact run_le s _ i (by omega)
  obtain ⟨r, hr⟩ : ∃ r, r = codeR s i line := ⟨_, rfl⟩
  obtain ⟨k, hk⟩ : ∃ k, k = codeOf (s.extract i (i + n)) := ⟨_, rfl⟩
  have HR : Hid (r = if k < 0 ∨ (i + n < s.size ∧ (smB (pk s (i + n)) = true ∨ digB (pk s (i + n)) = true)) then .bad 111 else .word n ⟨3, line, ⟨#[]⟩, 3, k, ⟨#[]⟩⟩) := by rw [hr, hk, hn]; rfl
  rw [← hr]
  rw [← hn] at RC
  have CC := fun W => code_l (s.extract i (i + n)) W
  rw [← hk] at CC
  have HH := Lib.hid h
  have HA := Lib.hid ha
  have HE := Lib.hid he
  obtain ⟨g1, g2, g3⟩ := sum_in i n (by omega)
  have hdz : (i : Int) + (n : Int) ≤ (s.size : Int) := by omega
  have hdw : (i : Int) ≤ (i : Int) + (n : Int) := by omega
  clear hr hn h he ha hk
  by_cases hneg : k < 0
  · have HB := Lib.hid (HR.out.trans (if_pos (.inl hneg)))
    clear HR
    go_enter Tryz.func52, Tryz.ntmps52
    go_wp2_with fail
    refine RC.out.mono ?_
    rintro e w1 ⟨rfl, n1, rfl⟩
    go_wp2_with fail
    generalize hwq : World.drewN _ _ = wq
    have hqb : Below w.heap.size w wq := by rw [← hwq]; exact ⟨rfl, rfl, rfl, Nat.le_refl _, fun _ _ => rfl⟩
    have HAQ := HA.out.below hqb hlt
    have q0 := HAQ.c0
    have q1 := HAQ.c1
    have K1 := Lib.hid (fun W (h : W.cell? ⟨R, 0, none⟩ = some (.string s) ∧ W.cell? ⟨R, 1, none⟩ = some (.int .i64 i) ∧ Below wq.heap.size wq W) => (CC W).mono (R' := fun e W' => e = .returned (.tuple #[.int .i64 0, .bool false]) ∧ (W'.cell? ⟨R, 0, none⟩ = some (.string s) ∧ W'.cell? ⟨R, 1, none⟩ = some (.int .i64 i) ∧ Below wq.heap.size wq W')) fun e W' ⟨h1, h2⟩ =>
      have hz : R < W.heap.size := Nat.lt_of_lt_of_le (Nat.lt_of_lt_of_le hlt hqb.size) h.2.2.size
      ⟨by rw [h1, if_pos hneg, show decide (0 ≤ k) = false by simp; omega], cell_below7 h2 h.1 hz, cell_below7 h2 h.2.1 hz, h.2.2.trans (below_le' h2 h.2.2.size)⟩)
    have K0 : wq.drew.cell? ⟨R, 0, none⟩ = some (.string s) ∧ wq.drew.cell? ⟨R, 1, none⟩ = some (.int .i64 i) ∧ Below wq.heap.size wq wq.drew := ⟨q0, q1, (Below.refl _ _).drew⟩
    have HQ := Lib.hid hqb
    clear hwq hqb HAQ
    go_region_held3 (fun W => W.cell? ⟨R, 0, none⟩ = some (.string s) ∧ W.cell? ⟨R, 1, none⟩ = some (.int .i64 i) ∧ Below wq.heap.size wq W)
      (first | assumption | exact K0 | exact ⟨by assumption, by assumption, by assumption⟩)
      (first
        | (go_at_call 75; refine (K1.out _ ?_).mono ?_; assumption; rintro e w5 ⟨rfl, hss⟩))
    have hb5 : Below w.heap.size w w5 := HQ.out.trans (below_le' hss.2.2 HQ.out.size)
    have HB5 := Lib.hid hb5
    have HA5 := HA.out.below hb5 hlt
    have a0 := HA5.c0
    have a1 := HA5.c1
    have e5 := (HE.out.below hb5 (by omega)).err.syn
    have HAX := Lib.hid HA5
    clear hss hb5 HA5 K1 K0 q0 q1
    go_wp2_with fail
    go_quiet (fail)
    go_wp2_with fail
    refine (bad_c R s i line v _ _ (by exact HAX.out)).mono ?_
    rintro e w2 ⟨rfl, rfl⟩
    go_wp2_with fail
    go_ret
    exact LxRes.mkBad HB.out (Below.trans (below_le' HB5.out (Nat.le_of_lt hlt)) ⟨rfl, rfl, rfl, Nat.le_refl _, fun _ _ => rfl⟩) (Nat.le_trans (Nat.le_of_lt hlt) HB5.out.size)
  have hrest : r = if i + n < s.size ∧ (smB (pk s (i + n)) = true ∨ digB (pk s (i + n)) = true) then .bad 111 else .word n ⟨3, line, ⟨#[]⟩, 3, k, ⟨#[]⟩⟩ := by
    rw [HR.out]
    by_cases hc : i + n < s.size ∧ (smB (pk s (i + n)) = true ∨ digB (pk s (i + n)) = true)
    · rw [if_pos hc, if_pos (.inr hc)]
    · rw [if_neg hc, if_neg (by rintro (h | h); exact hneg h; exact hc h)]
  have HRR := Lib.hid hrest
  have hk0 : 0 ≤ k := by omega
  clear HR hrest
  by_cases hin : i + n < s.size
  · have hdx : decide ((i : Int) + (n : Int) < (s.size : Int)) = true := by simp; omega
    have hdy : (i : Int) + (n : Int) < (s.size : Int) := by omega
    have SC := Lib.hid (fun W => by have := small_c (pk s (i + n)) W; rw [pk_in s (i + n) hin] at this; exact this)
    have GC := Lib.hid (fun W => by have := ldigit_c (pk s (i + n)) W; rw [pk_in s (i + n) hin] at this; exact this)
    cases hsm : smB (pk s (i + n)) with
    | true =>
      have HB := Lib.hid (HRR.out.trans (if_pos ⟨hin, .inl hsm⟩))
      rw [← pk_in s (i + n) hin, hsm, pk_in s (i + n) hin] at SC
      clear HRR hsm GC
      go_enter Tryz.func52, Tryz.ntmps52
      go_wp2_with fail
      refine RC.out.mono ?_
      rintro e w1 ⟨rfl, n1, rfl⟩
      go_wp2_with fail
      generalize hwq : World.drewN _ _ = wq
      have hqb : Below w.heap.size w wq := by rw [← hwq]; exact ⟨rfl, rfl, rfl, Nat.le_refl _, fun _ _ => rfl⟩
      have HAQ := HA.out.below hqb hlt
      have q0 := HAQ.c0
      have q1 := HAQ.c1
      have K1 := Lib.hid (fun W (h : W.cell? ⟨R, 0, none⟩ = some (.string s) ∧ W.cell? ⟨R, 1, none⟩ = some (.int .i64 i) ∧ Below wq.heap.size wq W) => (CC W).mono (R' := fun e W' => e = .returned (.tuple #[.int .i64 k, .bool true]) ∧ (W'.cell? ⟨R, 0, none⟩ = some (.string s) ∧ W'.cell? ⟨R, 1, none⟩ = some (.int .i64 i) ∧ Below wq.heap.size wq W')) fun e W' ⟨h1, h2⟩ =>
        have hz : R < W.heap.size := Nat.lt_of_lt_of_le (Nat.lt_of_lt_of_le hlt hqb.size) h.2.2.size
        ⟨by rw [h1, if_neg (show ¬ k < 0 by omega), show decide (0 ≤ k) = true by simp; omega], cell_below7 h2 h.1 hz, cell_below7 h2 h.2.1 hz, h.2.2.trans (below_le' h2 h.2.2.size)⟩)
      have K0 : wq.drew.cell? ⟨R, 0, none⟩ = some (.string s) ∧ wq.drew.cell? ⟨R, 1, none⟩ = some (.int .i64 i) ∧ Below wq.heap.size wq wq.drew := ⟨q0, q1, (Below.refl _ _).drew⟩
      have HQ := Lib.hid hqb
      clear hwq hqb HAQ
      go_region_held3 (fun W => W.cell? ⟨R, 0, none⟩ = some (.string s) ∧ W.cell? ⟨R, 1, none⟩ = some (.int .i64 i) ∧ Below wq.heap.size wq W)
        (first | assumption | exact K0 | exact ⟨by assumption, by assumption, by assumption⟩)
        (first
          | (go_at_call 75; refine (K1.out _ ?_).mono ?_; assumption; rintro e w5 ⟨rfl, hss⟩))
      have hb5 : Below w.heap.size w w5 := HQ.out.trans (below_le' hss.2.2 HQ.out.size)
      have HB5 := Lib.hid hb5
      have HA5 := HA.out.below hb5 hlt
      have a0 := HA5.c0
      have a1 := HA5.c1
      have e5 := (HE.out.below hb5 (by omega)).err.syn
      have HAX := Lib.hid HA5
      clear hss hb5 HA5 K1 K0 q0 q1
      go_wp2_with fail
      go_quiet ((first | (go_at_call 47; exact quiet_add_left (SC.out _)) | (go_at_call 49; exact quiet_add_left (GC.out _)) | (go_at_call 47; exact quiet_left (SC.out _)) | (go_at_call 49; exact quiet_left (GC.out _))))
      go_wp2_with fail
      refine (bad_c R s i line v _ _ (by exact HAX.out)).mono ?_
      rintro e w2 ⟨rfl, rfl⟩
      go_wp2_with fail
      go_ret
      exact LxRes.mkBad HB.out (Below.trans (below_le' HB5.out (Nat.le_of_lt hlt)) ⟨rfl, rfl, rfl, Nat.le_refl _, fun _ _ => rfl⟩) (Nat.le_trans (Nat.le_of_lt hlt) HB5.out.size)
    | false =>
      rw [← pk_in s (i + n) hin, hsm, pk_in s (i + n) hin] at SC
      cases hgr : digB (pk s (i + n)) with
      | true =>
        have HB := Lib.hid (HRR.out.trans (if_pos ⟨hin, .inr hgr⟩))
        rw [← pk_in s (i + n) hin, hgr, pk_in s (i + n) hin] at GC
        clear HRR hsm hgr
        go_enter Tryz.func52, Tryz.ntmps52
        go_wp2_with fail
        refine RC.out.mono ?_
        rintro e w1 ⟨rfl, n1, rfl⟩
        go_wp2_with fail
        generalize hwq : World.drewN _ _ = wq
        have hqb : Below w.heap.size w wq := by rw [← hwq]; exact ⟨rfl, rfl, rfl, Nat.le_refl _, fun _ _ => rfl⟩
        have HAQ := HA.out.below hqb hlt
        have q0 := HAQ.c0
        have q1 := HAQ.c1
        have K1 := Lib.hid (fun W (h : W.cell? ⟨R, 0, none⟩ = some (.string s) ∧ W.cell? ⟨R, 1, none⟩ = some (.int .i64 i) ∧ Below wq.heap.size wq W) => (CC W).mono (R' := fun e W' => e = .returned (.tuple #[.int .i64 k, .bool true]) ∧ (W'.cell? ⟨R, 0, none⟩ = some (.string s) ∧ W'.cell? ⟨R, 1, none⟩ = some (.int .i64 i) ∧ Below wq.heap.size wq W')) fun e W' ⟨h1, h2⟩ =>
          have hz : R < W.heap.size := Nat.lt_of_lt_of_le (Nat.lt_of_lt_of_le hlt hqb.size) h.2.2.size
          ⟨by rw [h1, if_neg (show ¬ k < 0 by omega), show decide (0 ≤ k) = true by simp; omega], cell_below7 h2 h.1 hz, cell_below7 h2 h.2.1 hz, h.2.2.trans (below_le' h2 h.2.2.size)⟩)
        have K0 : wq.drew.cell? ⟨R, 0, none⟩ = some (.string s) ∧ wq.drew.cell? ⟨R, 1, none⟩ = some (.int .i64 i) ∧ Below wq.heap.size wq wq.drew := ⟨q0, q1, (Below.refl _ _).drew⟩
        have HQ := Lib.hid hqb
        clear hwq hqb HAQ
        go_region_held3 (fun W => W.cell? ⟨R, 0, none⟩ = some (.string s) ∧ W.cell? ⟨R, 1, none⟩ = some (.int .i64 i) ∧ Below wq.heap.size wq W)
          (first | assumption | exact K0 | exact ⟨by assumption, by assumption, by assumption⟩)
          (first
            | (go_at_call 75; refine (K1.out _ ?_).mono ?_; assumption; rintro e w5 ⟨rfl, hss⟩))
        have hb5 : Below w.heap.size w w5 := HQ.out.trans (below_le' hss.2.2 HQ.out.size)
        have HB5 := Lib.hid hb5
        have HA5 := HA.out.below hb5 hlt
        have a0 := HA5.c0
        have a1 := HA5.c1
        have e5 := (HE.out.below hb5 (by omega)).err.syn
        have HAX := Lib.hid HA5
        clear hss hb5 HA5 K1 K0 q0 q1
        go_wp2_with fail
        go_quiet ((first | (go_at_call 47; exact quiet_add_left (SC.out _)) | (go_at_call 49; exact quiet_add_left (GC.out _)) | (go_at_call 47; exact quiet_left (SC.out _)) | (go_at_call 49; exact quiet_left (GC.out _))))
        go_wp2_with fail
        refine (bad_c R s i line v _ _ (by exact HAX.out)).mono ?_
        rintro e w2 ⟨rfl, rfl⟩
        go_wp2_with fail
        go_ret
        exact LxRes.mkBad HB.out (Below.trans (below_le' HB5.out (Nat.le_of_lt hlt)) ⟨rfl, rfl, rfl, Nat.le_refl _, fun _ _ => rfl⟩) (Nat.le_trans (Nat.le_of_lt hlt) HB5.out.size)
      | false =>
        have HB := Lib.hid (HRR.out.trans (if_neg (by rintro ⟨_, h | h⟩; rw [hsm] at h; cases h; rw [hgr] at h; cases h)))
        rw [← pk_in s (i + n) hin, hgr, pk_in s (i + n) hin] at GC
        clear HRR hsm hgr
        go_enter Tryz.func52, Tryz.ntmps52
        go_wp2_with fail
        refine RC.out.mono ?_
        rintro e w1 ⟨rfl, n1, rfl⟩
        go_wp2_with fail
        generalize hwq : World.drewN _ _ = wq
        have hqb : Below w.heap.size w wq := by rw [← hwq]; exact ⟨rfl, rfl, rfl, Nat.le_refl _, fun _ _ => rfl⟩
        have HAQ := HA.out.below hqb hlt
        have q0 := HAQ.c0
        have q1 := HAQ.c1
        have K1 := Lib.hid (fun W (h : W.cell? ⟨R, 0, none⟩ = some (.string s) ∧ W.cell? ⟨R, 1, none⟩ = some (.int .i64 i) ∧ Below wq.heap.size wq W) => (CC W).mono (R' := fun e W' => e = .returned (.tuple #[.int .i64 k, .bool true]) ∧ (W'.cell? ⟨R, 0, none⟩ = some (.string s) ∧ W'.cell? ⟨R, 1, none⟩ = some (.int .i64 i) ∧ Below wq.heap.size wq W')) fun e W' ⟨h1, h2⟩ =>
          have hz : R < W.heap.size := Nat.lt_of_lt_of_le (Nat.lt_of_lt_of_le hlt hqb.size) h.2.2.size
          ⟨by rw [h1, if_neg (show ¬ k < 0 by omega), show decide (0 ≤ k) = true by simp; omega], cell_below7 h2 h.1 hz, cell_below7 h2 h.2.1 hz, h.2.2.trans (below_le' h2 h.2.2.size)⟩)
        have K0 : wq.drew.cell? ⟨R, 0, none⟩ = some (.string s) ∧ wq.drew.cell? ⟨R, 1, none⟩ = some (.int .i64 i) ∧ Below wq.heap.size wq wq.drew := ⟨q0, q1, (Below.refl _ _).drew⟩
        have HQ := Lib.hid hqb
        clear hwq hqb HAQ
        go_region_held3 (fun W => W.cell? ⟨R, 0, none⟩ = some (.string s) ∧ W.cell? ⟨R, 1, none⟩ = some (.int .i64 i) ∧ Below wq.heap.size wq W)
          (first | assumption | exact K0 | exact ⟨by assumption, by assumption, by assumption⟩)
          (first
            | (go_at_call 75; refine (K1.out _ ?_).mono ?_; assumption; rintro e w5 ⟨rfl, hss⟩))
        have hb5 : Below w.heap.size w w5 := HQ.out.trans (below_le' hss.2.2 HQ.out.size)
        have HB5 := Lib.hid hb5
        have HA5 := HA.out.below hb5 hlt
        have a0 := HA5.c0
        have a1 := HA5.c1
        have e5 := (HE.out.below hb5 (by omega)).err.syn
        have HAX := Lib.hid HA5
        clear hss hb5 HA5 K1 K0 q0 q1
        go_wp2_with fail
        go_quiet ((first | (go_at_call 47; exact quiet_add_left (SC.out _)) | (go_at_call 49; exact quiet_add_left (GC.out _)) | (go_at_call 47; exact quiet_left (SC.out _)) | (go_at_call 49; exact quiet_left (GC.out _))))
        go_wp2_with fail
        refine (put_c R s i line l _ ?_ n hn1 hn2 hs ⟨3, 0, ⟨#[]⟩, 3, k, ⟨#[]⟩⟩ 0 none 0).mono ?_
        · exact HH.out.below_self (HB5.out.trans ⟨rfl, rfl, rfl, Nat.le_refl _, fun _ _ => rfl⟩)
        rintro e w3 ⟨rfl, hb3, hst⟩
        go_wp2_with fail
        go_ret
        exact LxRes.mkWord HB.out (Below.trans (below_le' HB5.out (Nat.le_of_lt hlt)) (Below.trans (below_drewN (Below.refl _ _) _) hb3)) hst
  · have hdx : decide ((i : Int) + (n : Int) < (s.size : Int)) = false := by simp; omega
    have HB := Lib.hid (HRR.out.trans (if_neg (fun h => hin h.1)))
    clear HRR
    go_enter Tryz.func52, Tryz.ntmps52
    go_wp2_with fail
    refine RC.out.mono ?_
    rintro e w1 ⟨rfl, n1, rfl⟩
    go_wp2_with fail
    generalize hwq : World.drewN _ _ = wq
    have hqb : Below w.heap.size w wq := by rw [← hwq]; exact ⟨rfl, rfl, rfl, Nat.le_refl _, fun _ _ => rfl⟩
    have HAQ := HA.out.below hqb hlt
    have q0 := HAQ.c0
    have q1 := HAQ.c1
    have K1 := Lib.hid (fun W (h : W.cell? ⟨R, 0, none⟩ = some (.string s) ∧ W.cell? ⟨R, 1, none⟩ = some (.int .i64 i) ∧ Below wq.heap.size wq W) => (CC W).mono (R' := fun e W' => e = .returned (.tuple #[.int .i64 k, .bool true]) ∧ (W'.cell? ⟨R, 0, none⟩ = some (.string s) ∧ W'.cell? ⟨R, 1, none⟩ = some (.int .i64 i) ∧ Below wq.heap.size wq W')) fun e W' ⟨h1, h2⟩ =>
      have hz : R < W.heap.size := Nat.lt_of_lt_of_le (Nat.lt_of_lt_of_le hlt hqb.size) h.2.2.size
      ⟨by rw [h1, if_neg (show ¬ k < 0 by omega), show decide (0 ≤ k) = true by simp; omega], cell_below7 h2 h.1 hz, cell_below7 h2 h.2.1 hz, h.2.2.trans (below_le' h2 h.2.2.size)⟩)
    have K0 : wq.drew.cell? ⟨R, 0, none⟩ = some (.string s) ∧ wq.drew.cell? ⟨R, 1, none⟩ = some (.int .i64 i) ∧ Below wq.heap.size wq wq.drew := ⟨q0, q1, (Below.refl _ _).drew⟩
    have HQ := Lib.hid hqb
    clear hwq hqb HAQ
    go_region_held3 (fun W => W.cell? ⟨R, 0, none⟩ = some (.string s) ∧ W.cell? ⟨R, 1, none⟩ = some (.int .i64 i) ∧ Below wq.heap.size wq W)
      (first | assumption | exact K0 | exact ⟨by assumption, by assumption, by assumption⟩)
      (first
        | (go_at_call 75; refine (K1.out _ ?_).mono ?_; assumption; rintro e w5 ⟨rfl, hss⟩))
    have hb5 : Below w.heap.size w w5 := HQ.out.trans (below_le' hss.2.2 HQ.out.size)
    have HB5 := Lib.hid hb5
    have HA5 := HA.out.below hb5 hlt
    have a0 := HA5.c0
    have a1 := HA5.c1
    have e5 := (HE.out.below hb5 (by omega)).err.syn
    have HAX := Lib.hid HA5
    clear hss hb5 HA5 K1 K0 q0 q1
    go_wp2_with fail
    go_quiet (fail)
    go_wp2_with fail
    refine (put_c R s i line l _ ?_ n hn1 hn2 hs ⟨3, 0, ⟨#[]⟩, 3, k, ⟨#[]⟩⟩ 0 none 0).mono ?_
    · exact HH.out.below_self (HB5.out.trans ⟨rfl, rfl, rfl, Nat.le_refl _, fun _ _ => rfl⟩)
    rintro e w3 ⟨rfl, hb3, hst⟩
    go_wp2_with fail
    go_ret
    exact LxRes.mkWord HB.out (Below.trans (below_le' HB5.out (Nat.le_of_lt hlt)) (Below.trans (below_drewN (Below.refl _ _) _) hb3)) hst
end Go.Proofs.YtjibjgokloondaaGreatDoor
namespace Go.Proofs.YtjibjgokloondaaGreatDoor
open Go.RowKit Go.Lib
set_option linter.unusedVariables false

def signR (s : ByteArray) (i : Nat) (line : Int) : WR :=
  let b := signAt s i signsL ⟨#[]⟩
  if b.size = 0 then .bad 111 else .word b.size ⟨4, line, b, 0, 0, ⟨#[]⟩⟩
theorem wordR_sign {s : ByteArray} {i : Nat} {line : Int} (h0 : smB (pk s i) = false) (h1 : digB (pk s i) = false) (h2 : gtB (pk s i) = false) (h3 : pk s i ≠ 35) (h4 : pk s i ≠ 34) : wordR s i line = signR s i line := by
  unfold wordR signR
  simp only [h0, h1, h2, h3, h4, Bool.false_eq_true, if_false]
theorem signAt_step {s : ByteArray} {i : Nat} {x : ByteArray} {l : List ByteArray} {b : ByteArray} (h : b.size < x.size ∧ x.data.toList.isPrefixOf (s.data.toList.drop i) = true) : signAt s i (x :: l) b = signAt s i l x := by
  rw [signAt, if_pos h]
theorem signAt_skip {s : ByteArray} {i : Nat} {x : ByteArray} {l : List ByteArray} {b : ByteArray} (h : ¬ (b.size < x.size ∧ x.data.toList.isPrefixOf (s.data.toList.drop i) = true)) : signAt s i (x :: l) b = signAt s i l b := by
  rw [signAt, if_neg h]
theorem signs_drop (j : Nat) (hj : j < 33) : signsL.drop j = signsL.getD j ByteArray.empty :: signsL.drop (j + 1) := by
  have h33 : signsL.length = 33 := rfl
  rw [List.getD_eq_getElem?_getD, List.getElem?_eq_getElem (by omega)]
  exact (List.drop_eq_getElem_cons (by omega))
/-- Behind a place: what is left of a text. -/
theorem ext_to_end (s : ByteArray) (i : Nat) : (s.extract i s.size).data.toList = s.data.toList.drop i := by
  rw [ByteArray.data_extract, Array.toList_extract, List.extract_eq_take_drop]
  exact List.take_of_length_le (by rw [List.length_drop, Array.length_toList]; exact Nat.le_refl _)
theorem signAt_ok (s : ByteArray) (i : Nat) (hi : i ≤ s.size) : ∀ (l : List ByteArray) (b : ByteArray), i + b.size ≤ s.size → i + (signAt s i l b).size ≤ s.size
  | [], b, h => h
  | x :: l, b, h => by
    rw [signAt]
    split
    · rename_i hc
      refine signAt_ok s i hi l x ?_
      obtain ⟨r, hr⟩ := List.isPrefixOf_iff_prefix.1 hc.2
      have := congrArg List.length hr
      have e1 : x.data.toList.length = x.size := by rw [Array.length_toList]; rfl
      have e2 : s.data.toList.length = s.size := by rw [Array.length_toList]; rfl
      rw [List.length_append, List.length_drop, e1, e2] at this
      omega
    · exact signAt_ok s i hi l b h

set_option maxRecDepth 100000 in
set_option maxHeartbeats 4000000 in
theorem sign_c (R : Nat) (s : ByteArray) (i : Nat) (line : Int) (l : List Tok) (ea : Nat → Addr) (w : World) (h : LxSt w R s i line l) (he : LxEnv w ea) (hi : i < s.size) (hs : s.size ≤ 1000000000) (hR : 24 ≤ R) :
    Calls Tryz.prog 55 #[.pointer (some ⟨R, 0, none⟩)] w (LxRes ea R s i line l (signR s i line) w) := by
  have hlt := h.lt
  obtain ⟨v, L, ha, _⟩ := id h
  have SC := Lib.hid (signs_c w he.spc)
  obtain ⟨r, hr⟩ : ∃ r, r = signR s i line := ⟨_, rfl⟩
  obtain ⟨B, hB⟩ : ∃ B, B = signAt s i signsL ⟨#[]⟩ := ⟨_, rfl⟩
  have HR : Hid (r = if B.size = 0 then .bad 111 else .word B.size ⟨4, line, B, 0, 0, ⟨#[]⟩⟩) := by rw [hr, hB]; rfl
  have HBS : i + B.size ≤ s.size := by rw [hB]; exact signAt_ok s i (by omega) signsL ⟨#[]⟩ (by show i + 0 ≤ s.size; omega)
  rw [← hr]
  have HH := Lib.hid h
  have HA := Lib.hid ha
  have HE := Lib.hid he
  have HBB := Lib.hid hB
  clear hr h he ha hB
  go_enter Tryz.func55, Tryz.ntmps55
  go_wp2_with fail
  refine SC.out.mono ?_
  rintro e w1 ⟨g, cap, rfl, hg1, hg2, hst, hb⟩
  have HB1 := Lib.hid hb
  have HST := Lib.hid hst
  have HA1 := Lib.hid (HA.out.below hb hlt)
  clear hst hb
  go_wp2_with fail
  go_loopg [3, 8] 33 (fun k bv jv wr => ∃ (j : Nat) (b : ByteArray), bv = .string b ∧ jv = .int .i64 (j : Int) ∧ j + k = 33 ∧ b.size ≤ 2 ∧ Below w1.heap.size w1 wr ∧ Hid (signAt s i (signsL.drop j) b = B))
  case atStart => exact ⟨0, ⟨#[]⟩, rfl, rfl, rfl, Nat.zero_le _, Below.refl _ _, HBB.out.symm⟩
  case round =>
    obtain ⟨j, b, rfl, rfl, hk, hbs, hbw, hq⟩ := hrel
    have HBW := Lib.hid hbw
    have ha2 := HA1.out.below hbw HA1.out.lt
    have c0 := ha2.c0
    have c1 := ha2.c1
    have HA2 := Lib.hid ha2
    by_cases hj : j < 33
    · obtain ⟨k, rfl⟩ : ∃ k, gk = k + 1 := ⟨gk - 1, by omega⟩
      obtain ⟨x, hx⟩ : ∃ x, x = signsL.getD j ByteArray.empty := ⟨_, rfl⟩
      have hcj := (HST.out.below hbw hg2) j hj
      rw [← hx, Nat.zero_add] at hcj
      have hqq := hq.out
      rw [signs_drop j hj, ← hx] at hqq
      have PC := fun W => Tryz.strings_HasPrefix (s.extract i s.size) x W
      rw [ext_to_end] at PC
      have hib : (i : Int) ≤ (s.size : Int) := by omega
      have hxs : x.size ≤ 2 := by
        rw [hx]
        have : ∀ y ∈ signsL, y.size ≤ 2 := by decide +kernel
        refine this _ ?_
        rw [List.getD_eq_getElem?_getD, List.getElem?_eq_getElem (show j < signsL.length from hj)]; exact List.getElem_mem _
      by_cases hlen : b.size < x.size
      · have hd1 : decide (b.size < x.size) = true := by simp; exact hlen
        have hd2 : decide ((b.size : Int) < (x.size : Int)) = true := by simp; exact hlen
        cases hp : Lib.hasPrefix (s.data.toList.drop i) x.data.toList with
        | true =>
          have HQ := Lib.hid ((signAt_step ⟨hlen, hp⟩).symm.trans hqq)
          rw [hp] at PC
          have PC2 := Lib.hid (fun W => (PC W).mono (R' := fun e w' => e = .returned (.bool true) ∧ W = w') fun e w' h => ⟨h.1, h.2.symm⟩)
          clear PC hp hq hqq hx hbw ha2 hlen
          go_wp2_with fail
          go_quiet ((go_at_call 78; exact quiet_left (PC2.out _)))
          go_wp2_with fail
          go_roundg k
          case measure => omega
          case rel => exact ⟨j + 1, x, rfl, by go_num, by omega, by omega, below_drewN HBW.out _, HQ.out⟩
        | false =>
          have HQ := Lib.hid ((signAt_skip (by rintro ⟨_, h2⟩; rw [show List.isPrefixOf x.data.toList (s.data.toList.drop i) = false from hp] at h2; cases h2)).symm.trans hqq)
          rw [hp] at PC
          have PC2 := Lib.hid (fun W => (PC W).mono (R' := fun e w' => e = .returned (.bool false) ∧ W = w') fun e w' h => ⟨h.1, h.2.symm⟩)
          clear PC hp hq hqq hx hbw ha2 hlen
          go_wp2_with fail
          go_quiet ((go_at_call 78; exact quiet_left (PC2.out _)))
          go_wp2_with fail
          go_roundg k
          case measure => omega
          case rel => exact ⟨j + 1, b, rfl, by go_num, by omega, by omega, below_drewN HBW.out _, HQ.out⟩
      · have hd1 : decide (b.size < x.size) = false := by simp; omega
        have hd2 : decide ((b.size : Int) < (x.size : Int)) = false := by simp; omega
        have HQ := Lib.hid ((signAt_skip (fun h => hlen h.1)).symm.trans hqq)
        clear PC hq hqq hx hbw ha2 hlen
        go_wp2_with fail
        go_quiet (fail)
        go_wp2_with fail
        go_roundg k
        case measure => omega
        case rel => exact ⟨j + 1, b, rfl, by go_num, by omega, by omega, below_drewN HBW.out _, HQ.out⟩
    · obtain rfl : j = 33 := by omega
      have hbB : b = B := hq.out
      subst hbB
      have e5 := (HE.out.below (HB1.out.trans (below_le' hbw HB1.out.size)) (by omega)).err.syn
      have HB5 := Lib.hid (HB1.out.trans (below_le' hbw HB1.out.size))
      clear hq hbw ha2
      by_cases h0 : b.size = 0
      · have HRR := Lib.hid (HR.out.trans (if_pos h0))
        have hb0 := bytes_empty (t := b) (by rw [← List.length_eq_zero_iff, Array.length_toList]; exact h0)
        clear HR
        subst hb0
        clear h0
        go_wp2_with fail
        refine (bad_c R s i line v _ _ (by exact HA2.out)).mono ?_
        rintro e w3 ⟨rfl, rfl⟩
        go_wp2_with fail
        go_ret
        exact LxRes.mkBad HRR.out (below_le' HB5.out (Nat.le_of_lt hlt)) (Nat.le_trans (Nat.le_of_lt hlt) HB5.out.size)
      · have HRR := Lib.hid (HR.out.trans (if_neg h0))
        have hne : b.data.toList ≠ [] := by intro e; apply h0; rw [← List.length_eq_zero_iff, Array.length_toList] at e; exact e
        have hs1 : ¬ b.toList = [] := by rw [Lib.toList_data]; exact hne
        have hs0 : b.toList.isEmpty = false := by rw [Lib.toList_data]; simpa using hne
        have hb1 : 1 ≤ b.size := by omega
        clear HR hne h0
        go_wp2_with fail
        refine (put_c R s i line l _ ?_ b.size hb1 HBS hs ⟨4, 0, b, 0, 0, ⟨#[]⟩⟩ 0 none 0).mono ?_
        · exact HH.out.below_self HB5.out
        rintro e w3 ⟨rfl, hb3, hst⟩
        go_wp2_with fail
        go_ret
        exact LxRes.mkWord HRR.out (Below.trans (below_le' HB5.out (Nat.le_of_lt hlt)) hb3) hst
end Go.Proofs.YtjibjgokloondaaGreatDoor
