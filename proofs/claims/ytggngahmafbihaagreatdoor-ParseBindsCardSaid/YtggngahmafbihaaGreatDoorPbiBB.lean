/- Contracts of the functions that the statement reaches, and the plain mathematics beneath: several texts joined. -/
import Derived.Test.YtggngahmafbihaaGreatDoorPbiAP
import Derived.Test.YtggngahmafbihaaGreatDoorPbiAI
import Derived.Test.YtggngahmafbihaaGreatDoorPbiAA
namespace Go.Proofs.YtggngahmafbihaaGreatDoor
open Go.RowKit Go.Lib
set_option linter.unusedVariables false

theorem dgs_inr {s : ByteArray} {i n : Nat} {v : Int} (h : dgsSp s i = .inr (v, n)) (hi : i ≤ s.size) : 1 ≤ n ∧ i + n ≤ s.size ∧ 0 ≤ v ∧ v ≤ 9223372036854775807 := by
  unfold dgsSp at h
  simp only at h
  split at h
  · cases h
  · rename_i hc
    split at h
    · cases h
    · rename_i hv
      injection h with h
      injection h with h1 h2
      subst h1; subst h2
      refine ⟨?_, run_le s digB i hi, by omega, by omega⟩
      rcases Nat.eq_zero_or_pos (run s digB i) with h0 | h0
      · exact absurd (.inl h0) hc
      · exact h0
def intR (s : ByteArray) (i : Nat) (line : Int) : WR := match dgsSp s i with
  | .inl e => .bad e
  | .inr (v, n) => .word n ⟨3, line, ⟨#[]⟩, 0, v, ⟨#[]⟩⟩
theorem wordR_int {s : ByteArray} {i : Nat} {line : Int} (h0 : smB (pk s i) = false) (h : digB (pk s i) = true) : wordR s i line = intR s i line := by
  unfold wordR intR
  simp only [h0, h, Bool.false_eq_true, if_false, if_true]
  cases dgsSp s i with
  | inl e => rfl
  | inr p => rfl
def objR (s : ByteArray) (i : Nat) (line : Int) : WR :=
  let neg := pk s (i + 1) == 45
  let j := if neg then i + 2 else i + 1
  match dgsSp s j with
  | .inl e => .bad e
  | .inr (v, n) =>
    if neg = true ∧ v = 0 then .bad 111
    else
      let v := if neg then -v else v
      if v < -2147483648 ∨ 2147483647 < v then .bad 105 else .word (j + n - i) ⟨3, line, ⟨#[]⟩, 1, v, ⟨#[]⟩⟩
theorem wordR_obj {s : ByteArray} {i : Nat} {line : Int} (h : pk s i = 35) : wordR s i line = objR s i line := by
  have h1 : smB (35 : UInt8) = false := by decide
  have h2 : digB (35 : UInt8) = false := by decide
  have h3 : gtB (35 : UInt8) = false := by decide
  unfold wordR objR
  simp only [h, h1, h2, h3, Bool.false_eq_true, if_false, if_true]
  cases dgsSp s (if (pk s (i + 1) == 45) = true then i + 2 else i + 1) with
  | inl e => rfl
  | inr p => rfl

set_option maxRecDepth 100000 in
set_option maxHeartbeats 2000000 in
theorem integer_c (R : Nat) (s : ByteArray) (i : Nat) (line : Int) (l : List Tok) (ea : Nat → Addr) (w : World) (h : LxSt w R s i line l) (he : LxEnv w ea) (hi : i < s.size) (hs : s.size ≤ 1000000000) (hR : 24 ≤ R) :
    Calls Tryz.prog 76 #[.pointer (some ⟨R, 0, none⟩)] w (LxRes ea R s i line l (intR s i line) w) := by
  have hlt := h.lt
  obtain ⟨v, L, ha, _⟩ := id h
  have hc1 := ha.c1
  have DC := digits_c R s i line v i ea w ha he (by omega) hs hR
  have HH := Lib.hid h
  unfold intR
  clear h he ha
  cases hq : dgsSp s i with
  | inl c =>
    rw [hq] at DC
    have DD := Lib.hid DC
    clear hq DC
    go_enter Tryz.func76, Tryz.ntmps76
    go_wp2_with fail
    refine DD.out.mono ?_
    rintro e w2 ⟨⟨A, hA, hh, rfl⟩, hb⟩
    have HX := Lib.hid hA
    have HY := Lib.hid hh
    have HB := Lib.hid hb
    clear hA hh hb
    go_wp2_with fail
    go_ret
    exact ⟨below_le' HB.out (Nat.le_of_lt hlt), _, Nat.le_trans (Nat.le_of_lt hlt) HX.out, HY.out, rfl⟩
  | inr p =>
    obtain ⟨x, n⟩ := p
    obtain ⟨hn1, hn2, hx1, hx2⟩ := dgs_inr hq (by omega)
    rw [hq] at DC
    have DD := Lib.hid DC
    clear hq DC
    go_enter Tryz.func76, Tryz.ntmps76
    go_wp2_with fail
    refine DD.out.mono ?_
    rintro e w2 ⟨he2, hb⟩
    have he2' : e = .returned (.tuple #[.int .i64 x, .int .i64 n, .nilIface]) := he2
    subst he2'
    have HB := Lib.hid hb
    clear hb he2
    go_wp2_with fail
    refine (put_c R s i line l _ (HH.out.below_self HB.out) n hn1 hn2 hs ⟨3, 0, ⟨#[]⟩, 0, x, ⟨#[]⟩⟩ 0 none 0).mono ?_
    rintro e w3 ⟨rfl, hb3, hst⟩
    go_wp2_with fail
    go_ret
    exact LxRes.mkWord rfl ((below_le' HB.out (Nat.le_of_lt hlt)).trans hb3) hst

set_option maxRecDepth 100000 in
set_option maxHeartbeats 4000000 in
theorem object_c (R : Nat) (s : ByteArray) (i : Nat) (line : Int) (l : List Tok) (ea : Nat → Addr) (w : World) (h : LxSt w R s i line l) (he : LxEnv w ea) (hi : i < s.size) (hs : s.size ≤ 1000000000) (hR : 24 ≤ R) :
    Calls Tryz.prog 79 #[.pointer (some ⟨R, 0, none⟩)] w (LxRes ea R s i line l (objR s i line) w) := by
  have hlt := h.lt
  obtain ⟨v, L, ha, _⟩ := id h
  have hc0 := ha.c0; have hc1 := ha.c1
  have HH := Lib.hid h
  have HA := Lib.hid ha
  have HE := Lib.hid he
  obtain ⟨r, hr⟩ : ∃ r, r = objR s i line := ⟨_, rfl⟩
  rw [← hr]
  have hsz : (i : Int) + 1 ≤ (s.size : Int) := by omega
  have hib : (i : Int) ≤ 1000000000 := by omega
  clear h he ha
  by_cases hin : i + 1 < s.size
  · by_cases h45 : pk s (i + 1) = 45
    · have DC := digits_c R s i line v (i + 2) ea w HA.out HE.out (by omega) hs hR
      rw [show (((i + 2 : Nat)) : Int) = ((i : Int) + 1 + 1) from by omega] at DC
      have hp : (pk s (i + 1) == 45) = true := by rw [h45]; rfl
      have hlt1 : (i : Int) + 1 < (s.size : Int) := by omega
      have hd1 : decide ((i : Int) + 1 < (s.size : Int)) = true := by simp; omega
      have hq1 : (((s[i + 1]'hin).toNat : Int) == 45) = true := by rw [← pk_in s (i + 1) hin, h45]; rfl
      clear h45
      cases hq : dgsSp s (i + 2) with
      | inl c =>
        have HRR := Lib.hid (show r = .bad c by rw [hr]; unfold objR; simp only [hp, if_true, hq])
        rw [hq] at DC
        have DD := Lib.hid DC
        clear hq DC hr hp
        go_enter Tryz.func79, Tryz.ntmps79
        go_wp2_with fail
        refine DD.out.mono ?_
        rintro e w2 ⟨⟨A, hA, hh, rfl⟩, hb⟩
        have HX := Lib.hid hA
        have HY := Lib.hid hh
        have HB := Lib.hid hb
        clear hA hh hb
        go_wp2_with fail
        go_ret
        rw [HRR.out]
        exact ⟨below_le' HB.out (Nat.le_of_lt hlt), _, Nat.le_trans (Nat.le_of_lt hlt) HX.out, HY.out, rfl⟩
      | inr p =>
        obtain ⟨x, n⟩ := p
        obtain ⟨hn1, hn2, hx1, hx2⟩ := dgs_inr hq (by omega)
        rw [hq] at DC
        have DD := Lib.hid DC
        by_cases h0 : x = 0
        · have HRR := Lib.hid (show r = .bad 111 by rw [hr]; unfold objR; simp only [hp, if_true, hq]; rw [if_pos ⟨trivial, h0⟩])
          have hx0 : (x == 0) = true := by rw [h0]; rfl
          clear hq DC hr hp h0
          go_enter Tryz.func79, Tryz.ntmps79
          go_wp2_with fail
          refine DD.out.mono ?_
          rintro e w2 ⟨he2, hb⟩
          have he2' : e = .returned (.tuple #[.int .i64 x, .int .i64 n, .nilIface]) := he2
          subst he2'
          have HB := Lib.hid hb
          have HA2 := Lib.hid (HA.out.below hb hlt)
          have c12 := HA2.out.c1
          have e1 := (HE.out.below hb (by omega)).err.syn
          have e2 := (HE.out.below hb (by omega)).err.range
          clear hb he2
          go_wp2_with fail
          refine (bad_c R s i line v _ _ (by exact HA2.out)).mono ?_
          rintro e w3 ⟨rfl, rfl⟩
          go_wp2_with fail
          go_ret
          exact LxRes.mkBad HRR.out (below_le' HB.out (Nat.le_of_lt hlt)) (Nat.le_trans (Nat.le_of_lt hlt) HB.out.size)
        · have hx0 : (x == 0) = false := by rw [beq_eq_false_iff_ne]; exact h0
          have hx3 : 1 ≤ x := by omega
          by_cases hlo : -x < -2147483648
          · have HRR := Lib.hid (show r = .bad 105 by rw [hr]; unfold objR; simp only [hp, if_true, hq]; rw [if_neg (by rintro ⟨_, h⟩; omega), if_pos (.inl hlo)])
            clear hq DC hr hp
            go_enter Tryz.func79, Tryz.ntmps79
            go_wp2_with fail
            refine DD.out.mono ?_
            rintro e w2 ⟨he2, hb⟩
            have he2' : e = .returned (.tuple #[.int .i64 x, .int .i64 n, .nilIface]) := he2
            subst he2'
            have HB := Lib.hid hb
            have HA2 := Lib.hid (HA.out.below hb hlt)
            have c12 := HA2.out.c1
            have e1 := (HE.out.below hb (by omega)).err.syn
            have e2 := (HE.out.below hb (by omega)).err.range
            clear hb he2
            go_wp2_with fail
            refine (bad_c R s i line v _ _ (by exact HA2.out)).mono ?_
            rintro e w3 ⟨rfl, rfl⟩
            go_wp2_with fail
            go_ret
            exact LxRes.mkBad HRR.out (below_le' HB.out (Nat.le_of_lt hlt)) (Nat.le_trans (Nat.le_of_lt hlt) HB.out.size)
          · have HRR := Lib.hid (show r = .word (2 + n) ⟨3, line, ⟨#[]⟩, 1, -x, ⟨#[]⟩⟩ by rw [hr]; unfold objR; simp only [hp, if_true, hq]; rw [if_neg (by rintro ⟨_, h⟩; omega), if_neg (by omega), show i + 2 + n - i = 2 + n from by omega])
            have hlo' : -2147483648 ≤ -x := by omega
            have hhi' : -x ≤ 2147483647 := by omega
            clear hq DC hr hp
            go_enter Tryz.func79, Tryz.ntmps79
            go_wp2_with fail
            refine DD.out.mono ?_
            rintro e w2 ⟨he2, hb⟩
            have he2' : e = .returned (.tuple #[.int .i64 x, .int .i64 n, .nilIface]) := he2
            subst he2'
            have HB := Lib.hid hb
            have HA2 := Lib.hid (HA.out.below hb hlt)
            have c12 := HA2.out.c1
            have e1 := (HE.out.below hb (by omega)).err.syn
            have e2 := (HE.out.below hb (by omega)).err.range
            clear hb he2
            go_wp2_with fail
            obtain ⟨m, hm⟩ : ∃ m : Nat, m = (2 + n) := ⟨_, rfl⟩
            rw [show (((i : Int) + 1 + 1) + (n : Int) - (i : Int)) = (m : Int) from by omega]
            refine (put_c R s i line l _ (HH.out.below_self HB.out) m (by omega) (by omega) hs ⟨3, 0, ⟨#[]⟩, 1, -x, ⟨#[]⟩⟩ 0 none 0).mono ?_
            rintro e w3 ⟨rfl, hb3, hst⟩
            go_wp2_with fail
            go_ret
            exact LxRes.mkWord (by rw [HRR.out, hm]) ((below_le' HB.out (Nat.le_of_lt hlt)).trans hb3) hst
    · have DC := digits_c R s i line v (i + 1) ea w HA.out HE.out (by omega) hs hR
      rw [show (((i + 1 : Nat)) : Int) = ((i : Int) + 1) from by omega] at DC
      have hp : (pk s (i + 1) == 45) = false := by rw [beq_eq_false_iff_ne]; exact h45
      have hlt1 : (i : Int) + 1 < (s.size : Int) := by omega
      have hd1 : decide ((i : Int) + 1 < (s.size : Int)) = true := by simp; omega
      have hq1 : (((s[i + 1]'hin).toNat : Int) == 45) = false := by rw [beq_eq_false_iff_ne, ← pk_in s (i + 1) hin]; intro e; exact h45 (UInt8.toNat_inj.1 (by show (pk s (i + 1)).toNat = 45; omega))
      clear h45
      cases hq : dgsSp s (i + 1) with
      | inl c =>
        have HRR := Lib.hid (show r = .bad c by rw [hr]; unfold objR; simp only [hp, Bool.false_eq_true, if_false, hq])
        rw [hq] at DC
        have DD := Lib.hid DC
        clear hq DC hr hp
        go_enter Tryz.func79, Tryz.ntmps79
        go_wp2_with fail
        refine DD.out.mono ?_
        rintro e w2 ⟨⟨A, hA, hh, rfl⟩, hb⟩
        have HX := Lib.hid hA
        have HY := Lib.hid hh
        have HB := Lib.hid hb
        clear hA hh hb
        go_wp2_with fail
        go_ret
        rw [HRR.out]
        exact ⟨below_le' HB.out (Nat.le_of_lt hlt), _, Nat.le_trans (Nat.le_of_lt hlt) HX.out, HY.out, rfl⟩
      | inr p =>
        obtain ⟨x, n⟩ := p
        obtain ⟨hn1, hn2, hx1, hx2⟩ := dgs_inr hq (by omega)
        rw [hq] at DC
        have DD := Lib.hid DC
        by_cases hhi : 2147483647 < x
        · have HRR := Lib.hid (show r = .bad 105 by rw [hr]; unfold objR; simp only [hp, Bool.false_eq_true, if_false, hq]; rw [if_neg (by rintro ⟨h, _⟩; exact h), if_pos (.inr hhi)])
          clear hq DC hr hp
          go_enter Tryz.func79, Tryz.ntmps79
          go_wp2_with fail
          refine DD.out.mono ?_
          rintro e w2 ⟨he2, hb⟩
          have he2' : e = .returned (.tuple #[.int .i64 x, .int .i64 n, .nilIface]) := he2
          subst he2'
          have HB := Lib.hid hb
          have HA2 := Lib.hid (HA.out.below hb hlt)
          have c12 := HA2.out.c1
          have e1 := (HE.out.below hb (by omega)).err.syn
          have e2 := (HE.out.below hb (by omega)).err.range
          clear hb he2
          go_wp2_with fail
          refine (bad_c R s i line v _ _ (by exact HA2.out)).mono ?_
          rintro e w3 ⟨rfl, rfl⟩
          go_wp2_with fail
          go_ret
          exact LxRes.mkBad HRR.out (below_le' HB.out (Nat.le_of_lt hlt)) (Nat.le_trans (Nat.le_of_lt hlt) HB.out.size)
        · have HRR := Lib.hid (show r = .word (1 + n) ⟨3, line, ⟨#[]⟩, 1, x, ⟨#[]⟩⟩ by rw [hr]; unfold objR; simp only [hp, Bool.false_eq_true, if_false, hq]; rw [if_neg (by rintro ⟨h, _⟩; exact h), if_neg (by omega), show i + 1 + n - i = 1 + n from by omega])
          have hhi' : x ≤ 2147483647 := by omega
          clear hq DC hr hp
          go_enter Tryz.func79, Tryz.ntmps79
          go_wp2_with fail
          refine DD.out.mono ?_
          rintro e w2 ⟨he2, hb⟩
          have he2' : e = .returned (.tuple #[.int .i64 x, .int .i64 n, .nilIface]) := he2
          subst he2'
          have HB := Lib.hid hb
          have HA2 := Lib.hid (HA.out.below hb hlt)
          have c12 := HA2.out.c1
          have e1 := (HE.out.below hb (by omega)).err.syn
          have e2 := (HE.out.below hb (by omega)).err.range
          clear hb he2
          go_wp2_with fail
          obtain ⟨m, hm⟩ : ∃ m : Nat, m = (1 + n) := ⟨_, rfl⟩
          rw [show (((i : Int) + 1) + (n : Int) - (i : Int)) = (m : Int) from by omega]
          refine (put_c R s i line l _ (HH.out.below_self HB.out) m (by omega) (by omega) hs ⟨3, 0, ⟨#[]⟩, 1, x, ⟨#[]⟩⟩ 0 none 0).mono ?_
          rintro e w3 ⟨rfl, hb3, hst⟩
          go_wp2_with fail
          go_ret
          exact LxRes.mkWord (by rw [HRR.out, hm]) ((below_le' HB.out (Nat.le_of_lt hlt)).trans hb3) hst
  · have DC := digits_c R s i line v (i + 1) ea w HA.out HE.out (by omega) hs hR
    rw [show (((i + 1 : Nat)) : Int) = ((i : Int) + 1) from by omega] at DC
    have hp : (pk s (i + 1) == 45) = false := by rw [pk_out s (i + 1) hin]; rfl
    have hd1 : decide ((i : Int) + 1 < (s.size : Int)) = false := by simp; omega
    clear hsz
    cases hq : dgsSp s (i + 1) with
    | inl c =>
      have HRR := Lib.hid (show r = .bad c by rw [hr]; unfold objR; simp only [hp, Bool.false_eq_true, if_false, hq])
      rw [hq] at DC
      have DD := Lib.hid DC
      clear hq DC hr hp hin
      go_enter Tryz.func79, Tryz.ntmps79
      go_wp2_with fail
      refine DD.out.mono ?_
      rintro e w2 ⟨⟨A, hA, hh, rfl⟩, hb⟩
      have HX := Lib.hid hA
      have HY := Lib.hid hh
      have HB := Lib.hid hb
      clear hA hh hb
      go_wp2_with fail
      go_ret
      rw [HRR.out]
      exact ⟨below_le' HB.out (Nat.le_of_lt hlt), _, Nat.le_trans (Nat.le_of_lt hlt) HX.out, HY.out, rfl⟩
    | inr p =>
      obtain ⟨x, n⟩ := p
      obtain ⟨hn1, hn2, hx1, hx2⟩ := dgs_inr hq (by omega)
      rw [hq] at DC
      have DD := Lib.hid DC
      by_cases hhi : 2147483647 < x
      · have HRR := Lib.hid (show r = .bad 105 by rw [hr]; unfold objR; simp only [hp, Bool.false_eq_true, if_false, hq]; rw [if_neg (by rintro ⟨h, _⟩; exact h), if_pos (.inr hhi)])
        clear hq DC hr hp
        clear hin
        go_enter Tryz.func79, Tryz.ntmps79
        go_wp2_with fail
        refine DD.out.mono ?_
        rintro e w2 ⟨he2, hb⟩
        have he2' : e = .returned (.tuple #[.int .i64 x, .int .i64 n, .nilIface]) := he2
        subst he2'
        have HB := Lib.hid hb
        have HA2 := Lib.hid (HA.out.below hb hlt)
        have c12 := HA2.out.c1
        have e1 := (HE.out.below hb (by omega)).err.syn
        have e2 := (HE.out.below hb (by omega)).err.range
        clear hb he2
        go_wp2_with fail
        refine (bad_c R s i line v _ _ (by exact HA2.out)).mono ?_
        rintro e w3 ⟨rfl, rfl⟩
        go_wp2_with fail
        go_ret
        exact LxRes.mkBad HRR.out (below_le' HB.out (Nat.le_of_lt hlt)) (Nat.le_trans (Nat.le_of_lt hlt) HB.out.size)
      · have HRR := Lib.hid (show r = .word (1 + n) ⟨3, line, ⟨#[]⟩, 1, x, ⟨#[]⟩⟩ by rw [hr]; unfold objR; simp only [hp, Bool.false_eq_true, if_false, hq]; rw [if_neg (by rintro ⟨h, _⟩; exact h), if_neg (by omega), show i + 1 + n - i = 1 + n from by omega])
        have hhi' : x ≤ 2147483647 := by omega
        clear hq DC hr hp
        clear hin
        go_enter Tryz.func79, Tryz.ntmps79
        go_wp2_with fail
        refine DD.out.mono ?_
        rintro e w2 ⟨he2, hb⟩
        have he2' : e = .returned (.tuple #[.int .i64 x, .int .i64 n, .nilIface]) := he2
        subst he2'
        have HB := Lib.hid hb
        have HA2 := Lib.hid (HA.out.below hb hlt)
        have c12 := HA2.out.c1
        have e1 := (HE.out.below hb (by omega)).err.syn
        have e2 := (HE.out.below hb (by omega)).err.range
        clear hb he2
        go_wp2_with fail
        obtain ⟨m, hm⟩ : ∃ m : Nat, m = (1 + n) := ⟨_, rfl⟩
        rw [show (((i : Int) + 1) + (n : Int) - (i : Int)) = (m : Int) from by omega]
        refine (put_c R s i line l _ (HH.out.below_self HB.out) m (by omega) (by omega) hs ⟨3, 0, ⟨#[]⟩, 1, x, ⟨#[]⟩⟩ 0 none 0).mono ?_
        rintro e w3 ⟨rfl, hb3, hst⟩
        go_wp2_with fail
        go_ret
        exact LxRes.mkWord (by rw [HRR.out, hm]) ((below_le' HB.out (Nat.le_of_lt hlt)).trans hb3) hst
end Go.Proofs.YtggngahmafbihaaGreatDoor
namespace Go.Proofs.YtggngahmafbihaaGreatDoor
open Go.RowKit Go.Lib
set_option linter.unusedVariables false

def codeR (s : ByteArray) (i : Nat) (line : Int) : WR :=
  let n := run s (fun c => gtB c || c == 95) i
  let k := codeOf (s.extract i (i + n))
  if k < 0 ∨ (i + n < s.size ∧ (smB (pk s (i + n)) = true ∨ digB (pk s (i + n)) = true)) then .bad 111
  else .word n ⟨3, line, ⟨#[]⟩, 3, k, ⟨#[]⟩⟩
theorem wordR_code {s : ByteArray} {i : Nat} {line : Int} (h0 : smB (pk s i) = false) (h1 : digB (pk s i) = false) (h : gtB (pk s i) = true) : wordR s i line = codeR s i line := by
  unfold wordR codeR
  simp only [h0, h1, h, Bool.false_eq_true, if_false, if_true]

set_option maxRecDepth 100000 in
set_option maxHeartbeats 4000000 in
theorem lcode_c (R : Nat) (s : ByteArray) (i : Nat) (line : Int) (l : List Tok) (ea : Nat → Addr) (w : World) (h : LxSt w R s i line l) (he : LxEnv w ea) (hi : i < s.size) (hs : s.size ≤ 1000000000) (hR : 24 ≤ R) (hgt : gtB (pk s i) = true) :
    Calls Tryz.prog 78 #[.pointer (some ⟨R, 0, none⟩)] w (LxRes ea R s i line l (codeR s i line) w) := by
  have hlt := h.lt
  obtain ⟨v, L, ha, _⟩ := id h
  have hc1 := ha.c1
  have RC := Lib.hid (run_c _ _ enters_code1 code_is R s i line v i w ha (by omega) hs)
  obtain ⟨n, hn⟩ : ∃ n, n = run s (fun c => gtB c || c == 95) i := ⟨_, rfl⟩
  have hn1 : 1 ≤ n := by rw [hn]; exact run_pos s _ i hi (by simp [hgt])
  have hn2 : i + n ≤ s.size := by rw [hn]; exact run_le s _ i (by omega)
  obtain ⟨r, hr⟩ : ∃ r, r = codeR s i line := ⟨_, rfl⟩
  obtain ⟨k, hk⟩ : ∃ k, k = codeOf (s.extract i (i + n)) := ⟨_, rfl⟩
  have HR : Hid (r = if k < 0 ∨ (i + n < s.size ∧ (smB (pk s (i + n)) = true ∨ digB (pk s (i + n)) = true)) then .bad 111 else .word n ⟨3, line, ⟨#[]⟩, 3, k, ⟨#[]⟩⟩) := by rw [hr, hk, hn]; rfl
  rw [← hr]
  rw [← hn] at RC
  have CC := fun W => code_l (s.extract i (i + n)) W
  rw [← hk] at CC
  have HH := Lib.hid h
  have HA := Lib.hid ha
  have HE := Lib.hid he
  obtain ⟨g1, g2, g3⟩ := sum_in i n (by omega)
  have hdz : (i : Int) + (n : Int) ≤ (s.size : Int) := by omega
  have hdw : (i : Int) ≤ (i : Int) + (n : Int) := by omega
  clear hr hn h he ha hk
  by_cases hneg : k < 0
  · have HB := Lib.hid (HR.out.trans (if_pos (.inl hneg)))
    clear HR
    go_enter Tryz.func78, Tryz.ntmps78
    go_wp2_with fail
    refine RC.out.mono ?_
    rintro e w1 ⟨rfl, n1, rfl⟩
    go_wp2_with fail
    generalize hwq : World.drewN _ _ = wq
    have hqb : Below w.heap.size w wq := by rw [← hwq]; exact ⟨rfl, rfl, rfl, Nat.le_refl _, fun _ _ => rfl⟩
    have HAQ := HA.out.below hqb hlt
    have q0 := HAQ.c0
    have q1 := HAQ.c1
    have K1 := Lib.hid (fun W (h : W.cell? ⟨R, 0, none⟩ = some (.string s) ∧ W.cell? ⟨R, 1, none⟩ = some (.int .i64 i) ∧ Below wq.heap.size wq W) => (CC W).mono (R' := fun e W' => e = .returned (.tuple #[.int .i64 0, .bool false]) ∧ (W'.cell? ⟨R, 0, none⟩ = some (.string s) ∧ W'.cell? ⟨R, 1, none⟩ = some (.int .i64 i) ∧ Below wq.heap.size wq W')) fun e W' ⟨h1, h2⟩ =>
      have hz : R < W.heap.size := Nat.lt_of_lt_of_le (Nat.lt_of_lt_of_le hlt hqb.size) h.2.2.size
      ⟨by rw [h1, if_pos hneg, show decide (0 ≤ k) = false by simp; omega], cell_below7 h2 h.1 hz, cell_below7 h2 h.2.1 hz, h.2.2.trans (below_le' h2 h.2.2.size)⟩)
    have K0 : wq.drew.cell? ⟨R, 0, none⟩ = some (.string s) ∧ wq.drew.cell? ⟨R, 1, none⟩ = some (.int .i64 i) ∧ Below wq.heap.size wq wq.drew := ⟨q0, q1, (Below.refl _ _).drew⟩
    have HQ := Lib.hid hqb
    clear hwq hqb HAQ
    go_region_held3 (fun W => W.cell? ⟨R, 0, none⟩ = some (.string s) ∧ W.cell? ⟨R, 1, none⟩ = some (.int .i64 i) ∧ Below wq.heap.size wq W)
      (first | assumption | exact K0 | exact ⟨by assumption, by assumption, by assumption⟩)
      (first
        | (go_at_call 122; refine (K1.out _ ?_).mono ?_; assumption; rintro e w5 ⟨rfl, hss⟩))
    have hb5 : Below w.heap.size w w5 := HQ.out.trans (below_le' hss.2.2 HQ.out.size)
    have HB5 := Lib.hid hb5
    have HA5 := HA.out.below hb5 hlt
    have a0 := HA5.c0
    have a1 := HA5.c1
    have e5 := (HE.out.below hb5 (by omega)).err.syn
    have HAX := Lib.hid HA5
    clear hss hb5 HA5 K1 K0 q0 q1
    go_wp2_with fail
    go_quiet (fail)
    go_wp2_with fail
    refine (bad_c R s i line v _ _ (by exact HAX.out)).mono ?_
    rintro e w2 ⟨rfl, rfl⟩
    go_wp2_with fail
    go_ret
    exact LxRes.mkBad HB.out (Below.trans (below_le' HB5.out (Nat.le_of_lt hlt)) ⟨rfl, rfl, rfl, Nat.le_refl _, fun _ _ => rfl⟩) (Nat.le_trans (Nat.le_of_lt hlt) HB5.out.size)
  have hrest : r = if i + n < s.size ∧ (smB (pk s (i + n)) = true ∨ digB (pk s (i + n)) = true) then .bad 111 else .word n ⟨3, line, ⟨#[]⟩, 3, k, ⟨#[]⟩⟩ := by
    rw [HR.out]
    by_cases hc : i + n < s.size ∧ (smB (pk s (i + n)) = true ∨ digB (pk s (i + n)) = true)
    · rw [if_pos hc, if_pos (.inr hc)]
    · rw [if_neg hc, if_neg (by rintro (h | h); exact hneg h; exact hc h)]
  have HRR := Lib.hid hrest
  have hk0 : 0 ≤ k := by omega
  clear HR hrest
  by_cases hin : i + n < s.size
  · have hdx : decide ((i : Int) + (n : Int) < (s.size : Int)) = true := by simp; omega
    have hdy : (i : Int) + (n : Int) < (s.size : Int) := by omega
    have SC := Lib.hid (fun W => by have := small_c (pk s (i + n)) W; rw [pk_in s (i + n) hin] at this; exact this)
    have GC := Lib.hid (fun W => by have := ldigit_c (pk s (i + n)) W; rw [pk_in s (i + n) hin] at this; exact this)
    cases hsm : smB (pk s (i + n)) with
    | true =>
      have HB := Lib.hid (HRR.out.trans (if_pos ⟨hin, .inl hsm⟩))
      rw [← pk_in s (i + n) hin, hsm, pk_in s (i + n) hin] at SC
      clear HRR hsm GC
      go_enter Tryz.func78, Tryz.ntmps78
      go_wp2_with fail
      refine RC.out.mono ?_
      rintro e w1 ⟨rfl, n1, rfl⟩
      go_wp2_with fail
      generalize hwq : World.drewN _ _ = wq
      have hqb : Below w.heap.size w wq := by rw [← hwq]; exact ⟨rfl, rfl, rfl, Nat.le_refl _, fun _ _ => rfl⟩
      have HAQ := HA.out.below hqb hlt
      have q0 := HAQ.c0
      have q1 := HAQ.c1
      have K1 := Lib.hid (fun W (h : W.cell? ⟨R, 0, none⟩ = some (.string s) ∧ W.cell? ⟨R, 1, none⟩ = some (.int .i64 i) ∧ Below wq.heap.size wq W) => (CC W).mono (R' := fun e W' => e = .returned (.tuple #[.int .i64 k, .bool true]) ∧ (W'.cell? ⟨R, 0, none⟩ = some (.string s) ∧ W'.cell? ⟨R, 1, none⟩ = some (.int .i64 i) ∧ Below wq.heap.size wq W')) fun e W' ⟨h1, h2⟩ =>
        have hz : R < W.heap.size := Nat.lt_of_lt_of_le (Nat.lt_of_lt_of_le hlt hqb.size) h.2.2.size
        ⟨by rw [h1, if_neg (show ¬ k < 0 by omega), show decide (0 ≤ k) = true by simp; omega], cell_below7 h2 h.1 hz, cell_below7 h2 h.2.1 hz, h.2.2.trans (below_le' h2 h.2.2.size)⟩)
      have K0 : wq.drew.cell? ⟨R, 0, none⟩ = some (.string s) ∧ wq.drew.cell? ⟨R, 1, none⟩ = some (.int .i64 i) ∧ Below wq.heap.size wq wq.drew := ⟨q0, q1, (Below.refl _ _).drew⟩
      have HQ := Lib.hid hqb
      clear hwq hqb HAQ
      go_region_held3 (fun W => W.cell? ⟨R, 0, none⟩ = some (.string s) ∧ W.cell? ⟨R, 1, none⟩ = some (.int .i64 i) ∧ Below wq.heap.size wq W)
        (first | assumption | exact K0 | exact ⟨by assumption, by assumption, by assumption⟩)
        (first
          | (go_at_call 122; refine (K1.out _ ?_).mono ?_; assumption; rintro e w5 ⟨rfl, hss⟩))
      have hb5 : Below w.heap.size w w5 := HQ.out.trans (below_le' hss.2.2 HQ.out.size)
      have HB5 := Lib.hid hb5
      have HA5 := HA.out.below hb5 hlt
      have a0 := HA5.c0
      have a1 := HA5.c1
      have e5 := (HE.out.below hb5 (by omega)).err.syn
      have HAX := Lib.hid HA5
      clear hss hb5 HA5 K1 K0 q0 q1
      go_wp2_with fail
      go_quiet ((first | (go_at_call 73; exact quiet_add_left (SC.out _)) | (go_at_call 75; exact quiet_add_left (GC.out _)) | (go_at_call 73; exact quiet_left (SC.out _)) | (go_at_call 75; exact quiet_left (GC.out _))))
      go_wp2_with fail
      refine (bad_c R s i line v _ _ (by exact HAX.out)).mono ?_
      rintro e w2 ⟨rfl, rfl⟩
      go_wp2_with fail
      go_ret
      exact LxRes.mkBad HB.out (Below.trans (below_le' HB5.out (Nat.le_of_lt hlt)) ⟨rfl, rfl, rfl, Nat.le_refl _, fun _ _ => rfl⟩) (Nat.le_trans (Nat.le_of_lt hlt) HB5.out.size)
    | false =>
      rw [← pk_in s (i + n) hin, hsm, pk_in s (i + n) hin] at SC
      cases hgr : digB (pk s (i + n)) with
      | true =>
        have HB := Lib.hid (HRR.out.trans (if_pos ⟨hin, .inr hgr⟩))
        rw [← pk_in s (i + n) hin, hgr, pk_in s (i + n) hin] at GC
        clear HRR hsm hgr
        go_enter Tryz.func78, Tryz.ntmps78
        go_wp2_with fail
        refine RC.out.mono ?_
        rintro e w1 ⟨rfl, n1, rfl⟩
        go_wp2_with fail
        generalize hwq : World.drewN _ _ = wq
        have hqb : Below w.heap.size w wq := by rw [← hwq]; exact ⟨rfl, rfl, rfl, Nat.le_refl _, fun _ _ => rfl⟩
        have HAQ := HA.out.below hqb hlt
        have q0 := HAQ.c0
        have q1 := HAQ.c1
        have K1 := Lib.hid (fun W (h : W.cell? ⟨R, 0, none⟩ = some (.string s) ∧ W.cell? ⟨R, 1, none⟩ = some (.int .i64 i) ∧ Below wq.heap.size wq W) => (CC W).mono (R' := fun e W' => e = .returned (.tuple #[.int .i64 k, .bool true]) ∧ (W'.cell? ⟨R, 0, none⟩ = some (.string s) ∧ W'.cell? ⟨R, 1, none⟩ = some (.int .i64 i) ∧ Below wq.heap.size wq W')) fun e W' ⟨h1, h2⟩ =>
          have hz : R < W.heap.size := Nat.lt_of_lt_of_le (Nat.lt_of_lt_of_le hlt hqb.size) h.2.2.size
          ⟨by rw [h1, if_neg (show ¬ k < 0 by omega), show decide (0 ≤ k) = true by simp; omega], cell_below7 h2 h.1 hz, cell_below7 h2 h.2.1 hz, h.2.2.trans (below_le' h2 h.2.2.size)⟩)
        have K0 : wq.drew.cell? ⟨R, 0, none⟩ = some (.string s) ∧ wq.drew.cell? ⟨R, 1, none⟩ = some (.int .i64 i) ∧ Below wq.heap.size wq wq.drew := ⟨q0, q1, (Below.refl _ _).drew⟩
        have HQ := Lib.hid hqb
        clear hwq hqb HAQ
        go_region_held3 (fun W => W.cell? ⟨R, 0, none⟩ = some (.string s) ∧ W.cell? ⟨R, 1, none⟩ = some (.int .i64 i) ∧ Below wq.heap.size wq W)
          (first | assumption | exact K0 | exact ⟨by assumption, by assumption, by assumption⟩)
          (first
            | (go_at_call 122; refine (K1.out _ ?_).mono ?_; assumption; rintro e w5 ⟨rfl, hss⟩))
        have hb5 : Below w.heap.size w w5 := HQ.out.trans (below_le' hss.2.2 HQ.out.size)
        have HB5 := Lib.hid hb5
        have HA5 := HA.out.below hb5 hlt
        have a0 := HA5.c0
        have a1 := HA5.c1
        have e5 := (HE.out.below hb5 (by omega)).err.syn
        have HAX := Lib.hid HA5
        clear hss hb5 HA5 K1 K0 q0 q1
        go_wp2_with fail
        go_quiet ((first | (go_at_call 73; exact quiet_add_left (SC.out _)) | (go_at_call 75; exact quiet_add_left (GC.out _)) | (go_at_call 73; exact quiet_left (SC.out _)) | (go_at_call 75; exact quiet_left (GC.out _))))
        go_wp2_with fail
        refine (bad_c R s i line v _ _ (by exact HAX.out)).mono ?_
        rintro e w2 ⟨rfl, rfl⟩
        go_wp2_with fail
        go_ret
        exact LxRes.mkBad HB.out (Below.trans (below_le' HB5.out (Nat.le_of_lt hlt)) ⟨rfl, rfl, rfl, Nat.le_refl _, fun _ _ => rfl⟩) (Nat.le_trans (Nat.le_of_lt hlt) HB5.out.size)
      | false =>
        have HB := Lib.hid (HRR.out.trans (if_neg (by rintro ⟨_, h | h⟩; rw [hsm] at h; cases h; rw [hgr] at h; cases h)))
        rw [← pk_in s (i + n) hin, hgr, pk_in s (i + n) hin] at GC
        clear HRR hsm hgr
        go_enter Tryz.func78, Tryz.ntmps78
        go_wp2_with fail
        refine RC.out.mono ?_
        rintro e w1 ⟨rfl, n1, rfl⟩
        go_wp2_with fail
        generalize hwq : World.drewN _ _ = wq
        have hqb : Below w.heap.size w wq := by rw [← hwq]; exact ⟨rfl, rfl, rfl, Nat.le_refl _, fun _ _ => rfl⟩
        have HAQ := HA.out.below hqb hlt
        have q0 := HAQ.c0
        have q1 := HAQ.c1
        have K1 := Lib.hid (fun W (h : W.cell? ⟨R, 0, none⟩ = some (.string s) ∧ W.cell? ⟨R, 1, none⟩ = some (.int .i64 i) ∧ Below wq.heap.size wq W) => (CC W).mono (R' := fun e W' => e = .returned (.tuple #[.int .i64 k, .bool true]) ∧ (W'.cell? ⟨R, 0, none⟩ = some (.string s) ∧ W'.cell? ⟨R, 1, none⟩ = some (.int .i64 i) ∧ Below wq.heap.size wq W')) fun e W' ⟨h1, h2⟩ =>
          have hz : R < W.heap.size := Nat.lt_of_lt_of_le (Nat.lt_of_lt_of_le hlt hqb.size) h.2.2.size
          ⟨by rw [h1, if_neg (show ¬ k < 0 by omega), show decide (0 ≤ k) = true by simp; omega], cell_below7 h2 h.1 hz, cell_below7 h2 h.2.1 hz, h.2.2.trans (below_le' h2 h.2.2.size)⟩)
        have K0 : wq.drew.cell? ⟨R, 0, none⟩ = some (.string s) ∧ wq.drew.cell? ⟨R, 1, none⟩ = some (.int .i64 i) ∧ Below wq.heap.size wq wq.drew := ⟨q0, q1, (Below.refl _ _).drew⟩
        have HQ := Lib.hid hqb
        clear hwq hqb HAQ
        go_region_held3 (fun W => W.cell? ⟨R, 0, none⟩ = some (.string s) ∧ W.cell? ⟨R, 1, none⟩ = some (.int .i64 i) ∧ Below wq.heap.size wq W)
          (first | assumption | exact K0 | exact ⟨by assumption, by assumption, by assumption⟩)
          (first
            | (go_at_call 122; refine (K1.out _ ?_).mono ?_; assumption; rintro e w5 ⟨rfl, hss⟩))
        have hb5 : Below w.heap.size w w5 := HQ.out.trans (below_le' hss.2.2 HQ.out.size)
        have HB5 := Lib.hid hb5
        have HA5 := HA.out.below hb5 hlt
        have a0 := HA5.c0
        have a1 := HA5.c1
        have e5 := (HE.out.below hb5 (by omega)).err.syn
        have HAX := Lib.hid HA5
        clear hss hb5 HA5 K1 K0 q0 q1
        go_wp2_with fail
        go_quiet ((first | (go_at_call 73; exact quiet_add_left (SC.out _)) | (go_at_call 75; exact quiet_add_left (GC.out _)) | (go_at_call 73; exact quiet_left (SC.out _)) | (go_at_call 75; exact quiet_left (GC.out _))))
        go_wp2_with fail
        refine (put_c R s i line l _ ?_ n hn1 hn2 hs ⟨3, 0, ⟨#[]⟩, 3, k, ⟨#[]⟩⟩ 0 none 0).mono ?_
        · exact HH.out.below_self (HB5.out.trans ⟨rfl, rfl, rfl, Nat.le_refl _, fun _ _ => rfl⟩)
        rintro e w3 ⟨rfl, hb3, hst⟩
        go_wp2_with fail
        go_ret
        exact LxRes.mkWord HB.out (Below.trans (below_le' HB5.out (Nat.le_of_lt hlt)) (Below.trans (below_drewN (Below.refl _ _) _) hb3)) hst
  · have hdx : decide ((i : Int) + (n : Int) < (s.size : Int)) = false := by simp; omega
    have HB := Lib.hid (HRR.out.trans (if_neg (fun h => hin h.1)))
    clear HRR
    go_enter Tryz.func78, Tryz.ntmps78
    go_wp2_with fail
    refine RC.out.mono ?_
    rintro e w1 ⟨rfl, n1, rfl⟩
    go_wp2_with fail
    generalize hwq : World.drewN _ _ = wq
    have hqb : Below w.heap.size w wq := by rw [← hwq]; exact ⟨rfl, rfl, rfl, Nat.le_refl _, fun _ _ => rfl⟩
    have HAQ := HA.out.below hqb hlt
    have q0 := HAQ.c0
    have q1 := HAQ.c1
    have K1 := Lib.hid (fun W (h : W.cell? ⟨R, 0, none⟩ = some (.string s) ∧ W.cell? ⟨R, 1, none⟩ = some (.int .i64 i) ∧ Below wq.heap.size wq W) => (CC W).mono (R' := fun e W' => e = .returned (.tuple #[.int .i64 k, .bool true]) ∧ (W'.cell? ⟨R, 0, none⟩ = some (.string s) ∧ W'.cell? ⟨R, 1, none⟩ = some (.int .i64 i) ∧ Below wq.heap.size wq W')) fun e W' ⟨h1, h2⟩ =>
      have hz : R < W.heap.size := Nat.lt_of_lt_of_le (Nat.lt_of_lt_of_le hlt hqb.size) h.2.2.size
      ⟨by rw [h1, if_neg (show ¬ k < 0 by omega), show decide (0 ≤ k) = true by simp; omega], cell_below7 h2 h.1 hz, cell_below7 h2 h.2.1 hz, h.2.2.trans (below_le' h2 h.2.2.size)⟩)
    have K0 : wq.drew.cell? ⟨R, 0, none⟩ = some (.string s) ∧ wq.drew.cell? ⟨R, 1, none⟩ = some (.int .i64 i) ∧ Below wq.heap.size wq wq.drew := ⟨q0, q1, (Below.refl _ _).drew⟩
    have HQ := Lib.hid hqb
    clear hwq hqb HAQ
    go_region_held3 (fun W => W.cell? ⟨R, 0, none⟩ = some (.string s) ∧ W.cell? ⟨R, 1, none⟩ = some (.int .i64 i) ∧ Below wq.heap.size wq W)
      (first | assumption | exact K0 | exact ⟨by assumption, by assumption, by assumption⟩)
      (first
        | (go_at_call 122; refine (K1.out _ ?_).mono ?_; assumption; rintro e w5 ⟨rfl, hss⟩))
    have hb5 : Below w.heap.size w w5 := HQ.out.trans (below_le' hss.2.2 HQ.out.size)
    have HB5 := Lib.hid hb5
    have HA5 := HA.out.below hb5 hlt
    have a0 := HA5.c0
    have a1 := HA5.c1
    have e5 := (HE.out.below hb5 (by omega)).err.syn
    have HAX := Lib.hid HA5
    clear hss hb5 HA5 K1 K0 q0 q1
    go_wp2_with fail
    go_quiet (fail)
    go_wp2_with fail
    refine (put_c R s i line l _ ?_ n hn1 hn2 hs ⟨3, 0, ⟨#[]⟩, 3, k, ⟨#[]⟩⟩ 0 none 0).mono ?_
    · exact HH.out.below_self (HB5.out.trans ⟨rfl, rfl, rfl, Nat.le_refl _, fun _ _ => rfl⟩)
    rintro e w3 ⟨rfl, hb3, hst⟩
    go_wp2_with fail
    go_ret
    exact LxRes.mkWord HB.out (Below.trans (below_le' HB5.out (Nat.le_of_lt hlt)) (Below.trans (below_drewN (Below.refl _ _) _) hb3)) hst
end Go.Proofs.YtggngahmafbihaaGreatDoor
namespace Go.Proofs.YtggngahmafbihaaGreatDoor
open Go.RowKit Go.Lib
set_option linter.unusedVariables false

theorem LxRes.of_drewN {ea : Nat → Addr} {R n : Nat} {s : ByteArray} {i : Nat} {line : Int} {l : List Tok} {r : WR} {w : World} {e : Ending} {w' : World} (h : LxRes ea R s i line l r (w.drewN n) e w') : LxRes ea R s i line l r w e w' :=
  ⟨(below_drewN (Below.refl _ _) n).trans h.1, h.2⟩
theorem LxRes.ret {ea : Nat → Addr} {R : Nat} {s : ByteArray} {i : Nat} {line : Int} {l : List Tok} {r : WR} {w : World} {e : Ending} {w' : World} (h : LxRes ea R s i line l r w e w') : ∃ x, e = .returned x := by
  obtain ⟨_, h⟩ := h
  cases r with
  | bad c => obtain ⟨A, _, _, rfl⟩ := h; exact ⟨_, rfl⟩
  | word n t => exact ⟨_, h.1⟩
theorem byte_eq {c d : UInt8} {k : Nat} (hd : d.toNat = k) : (((c.toNat : Nat) : Int) == (k : Int)) = (c == d) := by
  rw [Bool.eq_iff_iff, beq_iff_eq, beq_iff_eq]
  constructor
  · intro h; exact UInt8.toNat_inj.1 (by omega)
  · rintro rfl; omega
theorem byte_t {c d : UInt8} {k : Nat} (hd : d.toNat = k) (h : c = d) : (((c.toNat : Nat) : Int) == (k : Int)) = true := by rw [byte_eq hd, h]; simp
theorem byte_f {c d : UInt8} {k : Nat} (hd : d.toNat = k) (h : c ≠ d) : (((c.toNat : Nat) : Int) == (k : Int)) = false := by rw [byte_eq hd]; simpa using h

set_option maxRecDepth 100000 in
set_option maxHeartbeats 2000000 in
theorem word_nl (R : Nat) (s : ByteArray) (i : Nat) (line : Int) (l : List Tok) (ea : Nat → Addr) (w : World) (h : LxSt w R s i line l) (he : LxEnv w ea) (hi : i < s.size) (hs : s.size ≤ 1000000000) (hR : 24 ≤ R) (hl : -1000000000 ≤ line) (hl2 : line ≤ 1000000000000) (h10 : pk s i = 10) :
    Calls Tryz.prog 41 #[.pointer (some ⟨R, 0, none⟩)] w fun e w' => e = .returned .nilIface ∧ Below R w w' ∧ LxSt w' R s (i + 1) (line + 1) l := by
  have hlt := h.lt
  obtain ⟨v, L, ha, _⟩ := id h
  have hc0 := ha.c0; have hc1 := ha.c1; have hc2 := ha.c2
  have hf1 := ha.fr 1; have hf2 := ha.fr 2
  have HH := Lib.hid h
  have HE := Lib.hid he
  have hpk := pk_in s i hi
  have hii : (i : Int) < (s.size : Int) := by omega
  have hib : (i : Int) ≤ 1000000000 := by omega
  have t10 : (((s[i]'hi).toNat : Int) == 10) = true := by rw [← hpk]; exact byte_t (d := 10) (k := 10) rfl h10
  clear h he ha hpk h10
  go_enter Tryz.func41, Tryz.ntmps41
  go_wp2_with fail
  go_quiet (fail)
  go_wp2_with fail
  go_ret
  have hst := ((HH.out.newline (line + 1)).move (i + 1) (by omega) (by omega))
  rw [show ((i + 1 : Nat) : Int) = (i : Int) + 1 from by omega] at hst
  refine ⟨rfl, ?_, LxSt.drewN hst _⟩
  refine Below.setCell (Below.setCell ?_ ?_ _) ?_ _
  · exact below_drewN (Below.refl _ _) _
  · exact Nat.le_refl _
  · exact Nat.le_refl _

set_option maxRecDepth 100000 in
set_option maxHeartbeats 2000000 in
theorem word_sp (R : Nat) (s : ByteArray) (i : Nat) (line : Int) (l : List Tok) (ea : Nat → Addr) (w : World) (h : LxSt w R s i line l) (he : LxEnv w ea) (hi : i < s.size) (hs : s.size ≤ 1000000000) (hR : 24 ≤ R) (h32 : pk s i = 32) :
    Calls Tryz.prog 41 #[.pointer (some ⟨R, 0, none⟩)] w fun e w' => e = .returned .nilIface ∧ Below R w w' ∧ LxSt w' R s (i + 1) line l := by
  have hlt := h.lt
  obtain ⟨v, L, ha, _⟩ := id h
  have hc0 := ha.c0; have hc1 := ha.c1; have hc2 := ha.c2
  have hf1 := ha.fr 1; have hf2 := ha.fr 2
  have HH := Lib.hid h
  have HE := Lib.hid he
  have hpk := pk_in s i hi
  have hii : (i : Int) < (s.size : Int) := by omega
  have hib : (i : Int) ≤ 1000000000 := by omega
  have t10 : (((s[i]'hi).toNat : Int) == 10) = false := by rw [← hpk, h32]; rfl
  have t32 : (((s[i]'hi).toNat : Int) == 32) = true := by rw [← hpk, h32]; rfl
  clear h he ha hpk h32
  go_enter Tryz.func41, Tryz.ntmps41
  go_wp2_with fail
  go_quiet (fail)
  go_wp2_with fail
  go_ret
  have hst := (HH.out.move (i + 1) (by omega) (by omega))
  rw [show ((i + 1 : Nat) : Int) = (i : Int) + 1 from by omega] at hst
  refine ⟨rfl, ?_, LxSt.drewN hst _⟩
  refine Below.setCell ?_ ?_ _
  · exact below_drewN (Below.refl _ _) _
  · exact Nat.le_refl _

set_option maxRecDepth 100000 in
set_option maxHeartbeats 2000000 in
theorem word_w (R : Nat) (s : ByteArray) (i : Nat) (line : Int) (l : List Tok) (ea : Nat → Addr) (w : World) (h : LxSt w R s i line l) (he : LxEnv w ea) (hi : i < s.size) (hs : s.size ≤ 1000000000) (hR : 24 ≤ R) (h10 : pk s i ≠ 10) (h32 : pk s i ≠ 32) :
    Calls Tryz.prog 41 #[.pointer (some ⟨R, 0, none⟩)] w (LxRes ea R s i line l (wordR s i line) w) := by
  have hlt := h.lt
  obtain ⟨v, L, ha, _⟩ := id h
  have hc0 := ha.c0; have hc1 := ha.c1; have hc2 := ha.c2
  have hf1 := ha.fr 1; have hf2 := ha.fr 2
  have HH := Lib.hid h
  have HE := Lib.hid he
  have hpk := pk_in s i hi
  have hii : (i : Int) < (s.size : Int) := by omega
  have hib : (i : Int) ≤ 1000000000 := by omega
  have t10 : (((s[i]'hi).toNat : Int) == 10) = false := by rw [← hpk]; exact byte_f (d := 10) (k := 10) rfl h10
  have t32 : (((s[i]'hi).toNat : Int) == 32) = false := by rw [← hpk]; exact byte_f (d := 32) (k := 32) rfl h32
  have SC := fun W => small_c (pk s i) W
  have DC := fun W => ldigit_c (pk s i) W
  have GC := fun W => great_c (pk s i) W
  cases hsm : smB (pk s i) with
  | true =>
    rw [hsm, hpk] at SC
    have HW := Lib.hid (wordR_name hsm : wordR s i line = nameR s i line)
    have SCX := Lib.hid SC
    have HSM := Lib.hid hsm
    clear hsm
    clear h he ha hpk h10 h32 SC DC GC
    go_enter Tryz.func41, Tryz.ntmps41
    go_wp2_with fail
    go_quiet (fail)
    go_wp2_with fail
    refine (SCX.out _).mono ?_
    rintro e w1 ⟨rfl, rfl⟩
    go_wp2_with fail
    refine (name_c R s i line l ea _ (HH.out.drewN _) (HE.out.below (below_drewN (Below.refl _ _) _) hR) hi hs hR HSM.out).mono ?_
    rintro e w2 hres
    obtain ⟨x, rfl⟩ := LxRes.ret hres
    go_wp2_with fail
    go_ret
    rw [HW.out]
    exact LxRes.of_drewN hres
  | false =>
    rw [hsm, hpk] at SC
    cases hdg : digB (pk s i) with
    | true =>
      rw [hdg, hpk] at DC
      have HW := Lib.hid (wordR_int hsm hdg : wordR s i line = intR s i line)
      have SCX := Lib.hid SC
      have DCX := Lib.hid DC
      clear h he ha hpk h10 h32 SC DC GC hsm hdg
      go_enter Tryz.func41, Tryz.ntmps41
      go_wp2_with fail
      go_quiet (fail)
      go_wp2_with fail
      refine (SCX.out _).mono ?_
      rintro e w1 ⟨rfl, rfl⟩
      go_wp2_with fail
      refine (DCX.out _).mono ?_
      rintro e w1 ⟨rfl, rfl⟩
      go_wp2_with fail
      refine (integer_c R s i line l ea _ (HH.out.drewN _) (HE.out.below (below_drewN (Below.refl _ _) _) hR) hi hs hR).mono ?_
      rintro e w2 hres
      obtain ⟨x, rfl⟩ := LxRes.ret hres
      go_wp2_with fail
      go_ret
      rw [HW.out]
      exact LxRes.of_drewN hres
    | false =>
      rw [hdg, hpk] at DC
      cases hgt : gtB (pk s i) with
      | true =>
        rw [hgt, hpk] at GC
        have HW := Lib.hid (wordR_code hsm hdg hgt : wordR s i line = codeR s i line)
        have SCX := Lib.hid SC
        have DCX := Lib.hid DC
        have GCX := Lib.hid GC
        have HGT := Lib.hid hgt
        clear hgt hsm hdg
        clear h he ha hpk h10 h32 SC DC GC
        go_enter Tryz.func41, Tryz.ntmps41
        go_wp2_with fail
        go_quiet (fail)
        go_wp2_with fail
        refine (SCX.out _).mono ?_
        rintro e w1 ⟨rfl, rfl⟩
        go_wp2_with fail
        refine (DCX.out _).mono ?_
        rintro e w1 ⟨rfl, rfl⟩
        go_wp2_with fail
        refine (GCX.out _).mono ?_
        rintro e w1 ⟨rfl, rfl⟩
        go_wp2_with fail
        refine (lcode_c R s i line l ea _ (HH.out.drewN _) (HE.out.below (below_drewN (Below.refl _ _) _) hR) hi hs hR HGT.out).mono ?_
        rintro e w2 hres
        obtain ⟨x, rfl⟩ := LxRes.ret hres
        go_wp2_with fail
        go_ret
        rw [HW.out]
        exact LxRes.of_drewN hres
      | false =>
        rw [hgt, hpk] at GC
        by_cases h35 : pk s i = 35
        · have t35 : (((s[i]'hi).toNat : Int) == 35) = true := by rw [← hpk, h35]; rfl
          have HW := Lib.hid (wordR_obj h35 : wordR s i line = objR s i line)
          have SCX := Lib.hid SC
          have DCX := Lib.hid DC
          have GCX := Lib.hid GC
          clear h he ha hpk h10 h32 SC DC GC hsm hdg hgt h35
          go_enter Tryz.func41, Tryz.ntmps41
          go_wp2_with fail
          go_quiet (fail)
          go_wp2_with fail
          refine (SCX.out _).mono ?_
          rintro e w1 ⟨rfl, rfl⟩
          go_wp2_with fail
          refine (DCX.out _).mono ?_
          rintro e w1 ⟨rfl, rfl⟩
          go_wp2_with fail
          refine (GCX.out _).mono ?_
          rintro e w1 ⟨rfl, rfl⟩
          go_wp2_with fail
          refine (object_c R s i line l ea _ (HH.out.drewN _) (HE.out.below (below_drewN (Below.refl _ _) _) hR) hi hs hR).mono ?_
          rintro e w2 hres
          obtain ⟨x, rfl⟩ := LxRes.ret hres
          go_wp2_with fail
          go_ret
          rw [HW.out]
          exact LxRes.of_drewN hres
        · have t35 : (((s[i]'hi).toNat : Int) == 35) = false := by rw [← hpk]; exact byte_f (d := 35) (k := 35) rfl h35
          by_cases h34 : pk s i = 34
          · have t34 : (((s[i]'hi).toNat : Int) == 34) = true := by rw [← hpk, h34]; rfl
            have HW := Lib.hid (wordR_str h34 : wordR s i line = strR s i line)
            have SCX := Lib.hid SC
            have DCX := Lib.hid DC
            have GCX := Lib.hid GC
            have H34 := Lib.hid h34
            clear h34 h35 hsm hdg hgt
            clear h he ha hpk h10 h32 SC DC GC
            go_enter Tryz.func41, Tryz.ntmps41
            go_wp2_with fail
            go_quiet (fail)
            go_wp2_with fail
            refine (SCX.out _).mono ?_
            rintro e w1 ⟨rfl, rfl⟩
            go_wp2_with fail
            refine (DCX.out _).mono ?_
            rintro e w1 ⟨rfl, rfl⟩
            go_wp2_with fail
            refine (GCX.out _).mono ?_
            rintro e w1 ⟨rfl, rfl⟩
            go_wp2_with fail
            refine (str_w R s i line l ea _ (HH.out.drewN _) (HE.out.below (below_drewN (Below.refl _ _) _) hR) hi hs hR H34.out).mono ?_
            rintro e w2 hres
            obtain ⟨x, rfl⟩ := LxRes.ret hres
            go_wp2_with fail
            go_ret
            rw [HW.out]
            exact LxRes.of_drewN hres
          · have t34 : (((s[i]'hi).toNat : Int) == 34) = false := by rw [← hpk]; exact byte_f (d := 34) (k := 34) rfl h34
            have HW := Lib.hid (wordR_sign hsm hdg hgt h35 h34 : wordR s i line = signR s i line)
            have SCX := Lib.hid SC
            have DCX := Lib.hid DC
            have GCX := Lib.hid GC
            clear h he ha hpk h10 h32 SC DC GC hsm hdg hgt h35 h34
            go_enter Tryz.func41, Tryz.ntmps41
            go_wp2_with fail
            go_quiet (fail)
            go_wp2_with fail
            refine (SCX.out _).mono ?_
            rintro e w1 ⟨rfl, rfl⟩
            go_wp2_with fail
            refine (DCX.out _).mono ?_
            rintro e w1 ⟨rfl, rfl⟩
            go_wp2_with fail
            refine (GCX.out _).mono ?_
            rintro e w1 ⟨rfl, rfl⟩
            go_wp2_with fail
            refine (sign_c R s i line l ea _ (HH.out.drewN _) (HE.out.below (below_drewN (Below.refl _ _) _) hR) hi hs hR).mono ?_
            rintro e w2 hres
            obtain ⟨x, rfl⟩ := LxRes.ret hres
            go_wp2_with fail
            go_ret
            rw [HW.out]
            exact LxRes.of_drewN hres
end Go.Proofs.YtggngahmafbihaaGreatDoor
namespace Go.Proofs.YtggngahmafbihaaGreatDoor
open Go.RowKit Go.Lib
set_option linter.unusedVariables false

theorem ite_word {p : Prop} [Decidable p] {a b r : WR} (h : (if p then a else b) = r) : a = r ∨ b = r := by
  split at h
  · exact .inl h
  · exact .inr h
theorem wordR_pos {s : ByteArray} {i n : Nat} {line : Int} {t : Tok} (hi : i < s.size) (h : wordR s i line = .word n t) : 1 ≤ n := by
  by_cases h1 : smB (pk s i) = true
  · rw [wordR_name h1] at h
    unfold nameR at h; simp only at h
    split at h
    · cases h
    · injection h with h _; subst h; exact run_pos s _ i hi (by simp [h1])
  have h1 : smB (pk s i) = false := by simpa using h1
  by_cases h2 : digB (pk s i) = true
  · rw [wordR_int h1 h2] at h
    unfold intR at h
    split at h
    · cases h
    · rename_i v m hd; injection h with h _; subst h; exact (dgs_inr hd (by omega)).1
  have h2 : digB (pk s i) = false := by simpa using h2
  by_cases h3 : gtB (pk s i) = true
  · rw [wordR_code h1 h2 h3] at h
    unfold codeR at h; simp only at h
    split at h
    · cases h
    · injection h with h _; subst h; exact run_pos s _ i hi (by simp [h3])
  have h3 : gtB (pk s i) = false := by simpa using h3
  by_cases h4 : pk s i = 35
  · rw [wordR_obj h4] at h
    unfold objR at h; simp only at h
    split at h
    · cases h
    · rename_i v m hd
      split at h
      · cases h
      · rcases ite_word h with h | h
        · cases h
        · injection h with h _
          split at h <;> omega
  by_cases h5 : pk s i = 34
  · rw [wordR_str h5] at h
    unfold strR at h
    cases hq : quoEnd s (s.size + 1) (i + 1) with
    | none => rw [hq] at h; cases h
    | some j =>
      rw [hq] at h
      have := (quoEnd_le s _ _ _ hq).1
      unfold strRq strRw at h
      simp only at h
      cases hw : strW (s.extract i j) with
      | inl e => rw [hw] at h; cases h
      | inr x => rw [hw] at h; simp only at h; injection h with h _; omega
  · rw [wordR_sign h1 h2 h3 h4 h5] at h
    unfold signR at h; simp only at h
    split at h
    · cases h
    · injection h with h _; omega

theorem LxSt.new (w : World) (s : ByteArray) : LxSt (w.alloc (.cells #[.string s, .int .i64 0, .int .i64 1, .slice none 0 0] 83)) w.heap.size s 0 1 [] :=
  ⟨.slice none 0 0, [], heap_alloc_new w _, World.ownsRow_nil _ _ _ _, rfl, Nat.le_refl _, Nat.zero_le _⟩
/-- What a call of All shows. -/
def AllOut (ea : Nat → Addr) (r : (Nat × Int) ⊕ List Tok) (w : World) (e : Ending) (w' : World) : Prop :=
  Below w.heap.size w w' ∧ match r with
  | .inl (c, line) => ∃ A, w.heap.size ≤ A ∧ w'.heap[A]? = some (.cells #[.int .i64 line, .iface 270 (.pointer (some (ea c)))] 73 (0, 0)) ∧ e = .returned (.tuple #[.slice none 0 0, .iface 70 (.pointer (some ⟨A, 0, none⟩))])
  | .inr l => ∃ (v : Value) (L : List TokM), e = .returned (.tuple #[v, .nilIface]) ∧ w'.ownsRow w.heap.size 55 7 v L.length (tkCells L) ∧ L.map (·.1) = l
theorem ownsRow_mono {w : World} {b b' e size n : Nat} {v : Value} {xs : List Value} (h : w.ownsRow b e size v n xs) (hb : b' ≤ b) : w.ownsRow b' e size v n xs := by
  obtain ⟨h1, h2⟩ := h
  refine ⟨h1, ?_⟩
  rcases h2 with h2 | ⟨g, cap, cur, hv, hg, r⟩
  · exact .inl h2
  · exact .inr ⟨g, cap, cur, hv, Nat.le_trans hb hg, r⟩
theorem allSp_nl {s : ByteArray} {f i : Nat} {line : Int} {out : List Tok} (h : i < s.size) (h10 : pk s i = 10) : allSp s (f + 1) i line out = allSp s f (i + 1) (line + 1) out := by
  rw [allSp, if_pos h, if_pos h10]
theorem allSp_sp {s : ByteArray} {f i : Nat} {line : Int} {out : List Tok} (h : i < s.size) (h32 : pk s i = 32) : allSp s (f + 1) i line out = allSp s f (i + 1) line out := by
  rw [allSp, if_pos h, if_neg (by rw [h32]; decide), if_pos h32]

set_option maxRecDepth 100000 in
set_option maxHeartbeats 2000000 in
theorem all_c (s : ByteArray) (ea : Nat → Addr) (w : World) (he : LxEnv w ea) (hb : s.size ≤ 32768) :
    Calls Tryz.prog 20 #[.string s] w (AllOut ea (allW s) w) := by
  obtain ⟨r, hr⟩ : ∃ r, r = allW s := ⟨_, rfl⟩
  have hroom := he.err.room
  obtain ⟨wa, hwa⟩ : ∃ wa, wa = w.alloc (.cells #[.string s, .int .i64 0, .int .i64 1, .slice none 0 0] 83) := ⟨_, rfl⟩
  have hst : LxSt wa w.heap.size s 0 1 [] := by rw [hwa]; exact LxSt.new w s
  have hba : Below w.heap.size w wa := by rw [hwa]; exact (Below.refl _ _).alloc (Nat.le_refl _) _
  have HST := Lib.hid hst
  have HBA := Lib.hid hba
  have HWA := Lib.hid hwa
  have HR := Lib.hid hr
  have HE := Lib.hid he
  have hd : (s.size : Int) ≤ 32768 := by omega
  rw [← hr]
  clear he hst hba hwa hr
  go_enter Tryz.func20, Tryz.ntmps20
  go_wp2_with fail
  rw [← HWA.out]
  go_loopg [] (s.size + 1) (fun k wr => ∃ (i : Nat) (line : Int) (l : List Tok), LxSt wr w.heap.size s i line l ∧ Below w.heap.size w wr ∧ s.size + 1 ≤ i + k ∧ 1 ≤ line ∧ line ≤ 1 + i ∧ Hid (allSp s k i line l = r))
  case atStart => exact ⟨0, 1, [], HST.out, HBA.out, by omega, by omega, by omega, HR.out.symm⟩
  case round =>
    obtain ⟨i, line, l, hs1, hbw, hk, hl1, hl2, hq⟩ := hrel
    obtain ⟨v, L, hAt, hown, hmap, hLi, his⟩ := id hs1
    have c0 := hAt.c0
    have c1 := hAt.c1
    have c3 := hAt.c3
    have HS1 := Lib.hid hs1
    have HBW := Lib.hid hbw
    have HEW := Lib.hid (HE.out.below hbw (by omega))
    by_cases hin : i < s.size
    · obtain ⟨k, rfl⟩ : ∃ k, gk = k + 1 := ⟨gk - 1, by omega⟩
      have hlt : (i : Int) < (s.size : Int) := by omega
      by_cases h10 : pk s i = 10
      · have HQ := Lib.hid ((allSp_nl hin h10).symm.trans hq.out)
        have WC := Lib.hid (word_nl w.heap.size s i line l ea wr HS1.out HEW.out hin (by omega) (by omega) (by omega) (by omega) h10)
        clear hq h10 hs1 hbw hAt hown hmap
        go_wp2_with fail
        refine WC.out.mono ?_
        rintro e w2 ⟨rfl, hb2, hs2⟩
        have HS2 := Lib.hid hs2
        have HB2 := Lib.hid hb2
        clear hs2 hb2
        go_wp2_with fail
        go_roundg k
        case measure => omega
        case rel => exact ⟨i + 1, line + 1, l, HS2.out, HBW.out.trans HB2.out, by omega, by omega, by omega, HQ.out⟩
      by_cases h32 : pk s i = 32
      · have HQ := Lib.hid ((allSp_sp hin h32).symm.trans hq.out)
        have WC := Lib.hid (word_sp w.heap.size s i line l ea wr HS1.out HEW.out hin (by omega) (by omega) h32)
        clear hq h10 h32 hs1 hbw hAt hown hmap
        go_wp2_with fail
        refine WC.out.mono ?_
        rintro e w2 ⟨rfl, hb2, hs2⟩
        have HS2 := Lib.hid hs2
        have HB2 := Lib.hid hb2
        clear hs2 hb2
        go_wp2_with fail
        go_roundg k
        case measure => omega
        case rel => exact ⟨i + 1, line, l, HS2.out, HBW.out.trans HB2.out, by omega, by omega, by omega, HQ.out⟩
      · have WC := word_w w.heap.size s i line l ea wr HS1.out HEW.out hin (by omega) (by omega) h10 h32
        cases hw : wordR s i line with
        | bad c =>
          have HQ := Lib.hid ((allSp_bad hin h10 h32 hw).symm.trans hq.out)
          rw [hw] at WC
          have WX := Lib.hid WC
          clear hq h10 h32 hs1 hbw hAt hown hmap WC hw
          go_wp2_with fail
          refine WX.out.mono ?_
          rintro e w2 ⟨hb2, A, hA, hh, rfl⟩
          have HX := Lib.hid hA
          have HY := Lib.hid hh
          have HB2 := Lib.hid hb2
          clear hA hh hb2
          go_wp2_with fail
          go_returns
          rw [← HQ.out]
          exact ⟨HBW.out.trans HB2.out, A, HX.out, HY.out, rfl⟩
        | word n t =>
          have HQ := Lib.hid ((allSp_word hin h10 h32 hw).symm.trans hq.out)
          have HN1 := Lib.hid (wordR_pos hin hw)
          rw [hw] at WC
          have WX := Lib.hid WC
          clear hq h10 h32 hs1 hbw hAt hown hmap WC hw
          go_wp2_with fail
          refine WX.out.mono ?_
          rintro e w2 ⟨hb2, rfl, hs2⟩
          have HS2 := Lib.hid hs2
          have HB2 := Lib.hid hb2
          clear hs2 hb2
          have h1n : 1 ≤ n := HN1.out
          go_wp2_with fail
          go_roundg k
          case measure => omega
          case rel => exact ⟨i + n, line, l ++ [t], HS2.out, HBW.out.trans HB2.out, by omega, by omega, by omega, HQ.out⟩
    · have hge : (s.size : Int) ≤ (i : Int) := by omega
      have HQ := Lib.hid ((allSp_end hin gk).symm.trans hq.out)
      have HO := Lib.hid hown
      have HM := Lib.hid hmap
      obtain ⟨VA, VC, rfl⟩ := own_form hown
      clear hq hs1 hbw hAt hown hmap
      go_wp2_with fail
      go_returns
      rw [← HQ.out]
      exact ⟨HBW.out, _, L, rfl, ownsRow_mono HO.out (by omega), HM.out⟩
end Go.Proofs.YtggngahmafbihaaGreatDoor
namespace Go.Proofs.YtggngahmafbihaaGreatDoor
open Go.RowKit Go.Lib
set_option linter.unusedVariables false

theorem tkCells_get : ∀ (L : List TokM) (j : Nat) (p : TokM), L[j]? = some p → ∀ k, k < 7 → (tkCells L)[7 * j + k]? = (tk7 p)[k]?
  | [], _, _, h, _, _ => by simp at h
  | q :: L, 0, p, h, k, hk => by
    simp at h; subst h
    rw [tkCells, Nat.mul_zero, Nat.zero_add, List.getElem?_append_left (by show k < 7; omega)]
  | q :: L, j + 1, p, h, k, hk => by
    rw [List.getElem?_cons_succ] at h
    rw [tkCells, List.getElem?_append_right (by show 7 ≤ _; omega), show 7 * (j + 1) + k - (tk7 q).length = 7 * j + k from by show 7 * (j + 1) + k - 7 = _; omega]
    exact tkCells_get L j p h k hk
theorem own_tkIn {w : World} {base g n cap : Nat} {L : List TokM} (h : w.ownsRow base 55 7 (.slice (some ⟨g, 0, none⟩) n cap) n (tkCells L)) (j : Nat) (p : TokM) (hp : L[j]? = some p) : TkIn w g (7 * j) p.1 p.2.1 p.2.2 := by
  have hc : ∀ k u, k < 7 → (tk7 p)[k]? = some u → w.cell? ⟨g, 7 * j + k, none⟩ = some u := by
    intro k u hk hu
    have := h.cells (g := g) rfl (7 * j + k) u (by rw [tkCells_get L j p hp k hk]; exact hu)
    have hadd : (⟨g, 0, none⟩ : Addr).add (7 * j + k) = ⟨g, 7 * j + k, none⟩ := by unfold Addr.add; split <;> simp_all
    rw [hadd] at this; exact this
  exact ⟨hc 0 _ (by decide) rfl, hc 1 _ (by decide) rfl, hc 2 _ (by decide) rfl, hc 3 _ (by decide) rfl, hc 4 _ (by decide) rfl, hc 5 _ (by decide) rfl, hc 6 _ (by decide) rfl⟩

/-- What a call of All shows of a text that is words, at least one. -/
def AllSome (l : List Tok) (w : World) (e : Ending) (w' : World) : Prop :=
  ∃ g cap, e = .returned (.tuple #[.slice (some ⟨g, 0, none⟩) l.length cap, .nilIface]) ∧ w.heap.size ≤ g ∧ g < w'.heap.size ∧ Below w.heap.size w w' ∧ l.length ≤ cap ∧ ∀ j t, l[j]? = some t → ∃ sa sc, TkIn w' g (7 * j) t sa sc
theorem all_some {s : ByteArray} {l : List Tok} (ea : Nat → Addr) (w : World) (he : LxEnv w ea) (hb : s.size ≤ 32768) (h : allW s = .inr l) (hl : 0 < l.length) :
    Calls Tryz.prog 20 #[.string s] w (AllSome l w) := by
  have := all_c s ea w he hb
  rw [h] at this
  refine this.mono ?_
  rintro e w' ⟨hbw, v, L, rfl, hown, hm⟩
  have hlen : L.length = l.length := by rw [← hm, List.length_map]
  have h2 := hown.2
  obtain ⟨g, cap, rfl, hg, hlt⟩ := hown.form (by omega)
  have hcap : l.length ≤ cap := by
    rcases h2 with ⟨h, _⟩ | ⟨g', cap', cur, h, _, _, hc, _⟩
    · cases h
    · injection h with _ _ h; omega
  refine ⟨g, cap, by rw [hlen], hg, hlt, hbw, hcap, fun j t hj => ?_⟩
  rw [← hm, List.getElem?_map] at hj
  cases hq : L[j]? with
  | none => rw [hq] at hj; cases hj
  | some p =>
    rw [hq] at hj
    simp at hj
    rw [← hj]
    exact ⟨_, _, own_tkIn hown j p hq⟩
def tokB (a b : Tok) : Bool := decide (a.kind = b.kind ∧ a.line = b.line ∧ a.s = b.s ∧ a.k = b.k ∧ a.n = b.n ∧ a.t = b.t)
def toksB : List Tok → List Tok → Bool
  | [], [] => true
  | a :: l, b :: m => tokB a b && toksB l m
  | _, _ => false
theorem toksB_eq : ∀ (l m : List Tok), toksB l m = true → l = m
  | [], [], _ => rfl
  | a :: l, b :: m, h => by
    rw [toksB, Bool.and_eq_true] at h
    obtain ⟨h1, h2⟩ := h
    obtain ⟨a1, a2, a3, a4, a5, a6⟩ := of_decide_eq_true h1
    cases a; cases b
    simp only at a1 a2 a3 a4 a5 a6
    rw [toksB_eq l m h2, a1, a2, a3, a4, a5, a6]
  | [], _ :: _, h => by cases h
  | _ :: _, [], h => by cases h
end Go.Proofs.YtggngahmafbihaaGreatDoor
