/- Contracts of the functions that the statement reaches, and the plain mathematics beneath: several texts joined. -/
import Derived.Test.YtggngahmafbihaaGreatDoorPwyM
import Derived.Test.YtggngahmafbihaaGreatDoorPwyL
import Derived.Test.YtggngahmafbihaaGreatDoorPwyC
import Derived.Deep.RegionHeld3
import Derived.LaidEql
import Derived.Stop.Asserts
import Derived.Test.YtggngahmafbihaaGreatDoorPwyD
import Derived.Test.YtggngahmafbihaaGreatDoorPwyB
import Derived.Laws.AppendOwnNone
import Derived.Maps.AppendAt
import Derived.Test.YtggngahmafbihaaGreatDoorPwyA
import Derived.Test.YtggngahmafbihaaGreatDoorPwyE
import Derived.Test.YtggngahmafbihaaGreatDoorPwyF
import Derived.Test.YtggngahmafbihaaGreatDoorPwyG
import Derived.Test.YtggngahmafbihaaGreatDoorPwyH
import Derived.Test.YtggngahmafbihaaGreatDoorPwyI
import Derived.Test.YtggngahmafbihaaGreatDoorPwyJ
import Derived.Test.YtggngahmafbihaaGreatDoorPwyK
namespace Go.Proofs.YtggngahmafbihaaGreatDoor
open Go.RowKit Go.Lib
set_option linter.unusedVariables false

def codeR (s : ByteArray) (i : Nat) (line : Int) : WR :=
  let n := run s (fun c => gtB c || c == 95) i
  let k := codeOf (s.extract i (i + n))
  if k < 0 ∨ (i + n < s.size ∧ (smB (pk s (i + n)) = true ∨ digB (pk s (i + n)) = true)) then .bad 111
  else .word n ⟨3, line, ⟨#[]⟩, 3, k, ⟨#[]⟩⟩
theorem wordR_code {s : ByteArray} {i : Nat} {line : Int} (h0 : smB (pk s i) = false) (h1 : digB (pk s i) = false) (h : gtB (pk s i) = true) : wordR s i line = codeR s i line := by
  unfold wordR codeR
  simp only [h0, h1, h, Bool.false_eq_true, if_false, if_true]

set_option maxRecDepth 100000 in
set_option maxHeartbeats 4000000 in
theorem lcode_c (R : Nat) (s : ByteArray) (i : Nat) (line : Int) (l : List Tok) (ea : Nat → Addr) (w : World) (h : LxSt w R s i line l) (he : LxEnv w ea) (hi : i < s.size) (hs : s.size ≤ 1000000000) (hR : 24 ≤ R) (hgt : gtB (pk s i) = true) :
    Calls Tryz.prog 78 #[.pointer (some ⟨R, 0, none⟩)] w (LxRes ea R s i line l (codeR s i line) w) := by
  have hlt := h.lt
  obtain ⟨v, L, ha, _⟩ := id h
  have hc1 := ha.c1
  have RC := Lib.hid (run_c _ _ enters_code1 code_is R s i line v i w ha (by omega) hs)
  obtain ⟨n, hn⟩ : ∃ n, n = run s (fun c => gtB c || c == 95) i := ⟨_, rfl⟩
  have hn1 : 1 ≤ n := by rw [hn]; exact run_pos s _ i hi (by simp [hgt])
  have hn2 : i + n ≤ s.size := by rw [hn]; exact run_le s _ i (by omega)
  obtain ⟨r, hr⟩ : ∃ r, r = codeR s i line := ⟨_, rfl⟩
  obtain ⟨k, hk⟩ : ∃ k, k = codeOf (s.extract i (i + n)) := ⟨_, rfl⟩
  have HR : Hid (r = if k < 0 ∨ (i + n < s.size ∧ (smB (pk s (i + n)) = true ∨ digB (pk s (i + n)) = true)) then .bad 111 else .word n ⟨3, line, ⟨#[]⟩, 3, k, ⟨#[]⟩⟩) := by rw [hr, hk, hn]; rfl
  rw [← hr]
  rw [← hn] at RC
  have CC := fun W => code_l (s.extract i (i + n)) W
  rw [← hk] at CC
  have HH := Lib.hid h
  have HA := Lib.hid ha
  have HE := Lib.hid he
  obtain ⟨g1, g2, g3⟩ := sum_in i n (by omega)
  have hdz : (i : Int) + (n : Int) ≤ (s.size : Int) := by omega
  have hdw : (i : Int) ≤ (i : Int) + (n : Int) := by omega
  clear hr hn h he ha hk
  by_cases hneg : k < 0
  · have HB := Lib.hid (HR.out.trans (if_pos (.inl hneg)))
    clear HR
    go_enter Tryz.func78, Tryz.ntmps78
    go_wp2_with fail
    refine RC.out.mono ?_
    rintro e w1 ⟨rfl, n1, rfl⟩
    go_wp2_with fail
    generalize hwq : World.drewN _ _ = wq
    have hqb : Below w.heap.size w wq := by rw [← hwq]; exact ⟨rfl, rfl, rfl, Nat.le_refl _, fun _ _ => rfl⟩
    have HAQ := HA.out.below hqb hlt
    have q0 := HAQ.c0
    have q1 := HAQ.c1
    have K1 := Lib.hid (fun W (h : W.cell? ⟨R, 0, none⟩ = some (.string s) ∧ W.cell? ⟨R, 1, none⟩ = some (.int .i64 i) ∧ Below wq.heap.size wq W) => (CC W).mono (R' := fun e W' => e = .returned (.tuple #[.int .i64 0, .bool false]) ∧ (W'.cell? ⟨R, 0, none⟩ = some (.string s) ∧ W'.cell? ⟨R, 1, none⟩ = some (.int .i64 i) ∧ Below wq.heap.size wq W')) fun e W' ⟨h1, h2⟩ =>
      have hz : R < W.heap.size := Nat.lt_of_lt_of_le (Nat.lt_of_lt_of_le hlt hqb.size) h.2.2.size
      ⟨by rw [h1, if_pos hneg, show decide (0 ≤ k) = false by simp; omega], cell_below7 h2 h.1 hz, cell_below7 h2 h.2.1 hz, h.2.2.trans (below_le' h2 h.2.2.size)⟩)
    have K0 : wq.drew.cell? ⟨R, 0, none⟩ = some (.string s) ∧ wq.drew.cell? ⟨R, 1, none⟩ = some (.int .i64 i) ∧ Below wq.heap.size wq wq.drew := ⟨q0, q1, (Below.refl _ _).drew⟩
    have HQ := Lib.hid hqb
    clear hwq hqb HAQ
    go_region_held3 (fun W => W.cell? ⟨R, 0, none⟩ = some (.string s) ∧ W.cell? ⟨R, 1, none⟩ = some (.int .i64 i) ∧ Below wq.heap.size wq W)
      (first | assumption | exact K0 | exact ⟨by assumption, by assumption, by assumption⟩)
      (first
        | (go_at_call 122; refine (K1.out _ ?_).mono ?_; assumption; rintro e w5 ⟨rfl, hss⟩))
    have hb5 : Below w.heap.size w w5 := HQ.out.trans (below_le' hss.2.2 HQ.out.size)
    have HB5 := Lib.hid hb5
    have HA5 := HA.out.below hb5 hlt
    have a0 := HA5.c0
    have a1 := HA5.c1
    have e5 := (HE.out.below hb5 (by omega)).err.syn
    have HAX := Lib.hid HA5
    clear hss hb5 HA5 K1 K0 q0 q1
    go_wp2_with fail
    go_quiet (fail)
    go_wp2_with fail
    refine (bad_c R s i line v _ _ (by exact HAX.out)).mono ?_
    rintro e w2 ⟨rfl, rfl⟩
    go_wp2_with fail
    go_ret
    exact LxRes.mkBad HB.out (Below.trans (below_le' HB5.out (Nat.le_of_lt hlt)) ⟨rfl, rfl, rfl, Nat.le_refl _, fun _ _ => rfl⟩) (Nat.le_trans (Nat.le_of_lt hlt) HB5.out.size)
  have hrest : r = if i + n < s.size ∧ (smB (pk s (i + n)) = true ∨ digB (pk s (i + n)) = true) then .bad 111 else .word n ⟨3, line, ⟨#[]⟩, 3, k, ⟨#[]⟩⟩ := by
    rw [HR.out]
    by_cases hc : i + n < s.size ∧ (smB (pk s (i + n)) = true ∨ digB (pk s (i + n)) = true)
    · rw [if_pos hc, if_pos (.inr hc)]
    · rw [if_neg hc, if_neg (by rintro (h | h); exact hneg h; exact hc h)]
  have HRR := Lib.hid hrest
  have hk0 : 0 ≤ k := by omega
  clear HR hrest
  by_cases hin : i + n < s.size
  · have hdx : decide ((i : Int) + (n : Int) < (s.size : Int)) = true := by simp; omega
    have hdy : (i : Int) + (n : Int) < (s.size : Int) := by omega
    have SC := Lib.hid (fun W => by have := small_c (pk s (i + n)) W; rw [pk_in s (i + n) hin] at this; exact this)
    have GC := Lib.hid (fun W => by have := ldigit_c (pk s (i + n)) W; rw [pk_in s (i + n) hin] at this; exact this)
    cases hsm : smB (pk s (i + n)) with
    | true =>
      have HB := Lib.hid (HRR.out.trans (if_pos ⟨hin, .inl hsm⟩))
      rw [← pk_in s (i + n) hin, hsm, pk_in s (i + n) hin] at SC
      clear HRR hsm GC
      go_enter Tryz.func78, Tryz.ntmps78
      go_wp2_with fail
      refine RC.out.mono ?_
      rintro e w1 ⟨rfl, n1, rfl⟩
      go_wp2_with fail
      generalize hwq : World.drewN _ _ = wq
      have hqb : Below w.heap.size w wq := by rw [← hwq]; exact ⟨rfl, rfl, rfl, Nat.le_refl _, fun _ _ => rfl⟩
      have HAQ := HA.out.below hqb hlt
      have q0 := HAQ.c0
      have q1 := HAQ.c1
      have K1 := Lib.hid (fun W (h : W.cell? ⟨R, 0, none⟩ = some (.string s) ∧ W.cell? ⟨R, 1, none⟩ = some (.int .i64 i) ∧ Below wq.heap.size wq W) => (CC W).mono (R' := fun e W' => e = .returned (.tuple #[.int .i64 k, .bool true]) ∧ (W'.cell? ⟨R, 0, none⟩ = some (.string s) ∧ W'.cell? ⟨R, 1, none⟩ = some (.int .i64 i) ∧ Below wq.heap.size wq W')) fun e W' ⟨h1, h2⟩ =>
        have hz : R < W.heap.size := Nat.lt_of_lt_of_le (Nat.lt_of_lt_of_le hlt hqb.size) h.2.2.size
        ⟨by rw [h1, if_neg (show ¬ k < 0 by omega), show decide (0 ≤ k) = true by simp; omega], cell_below7 h2 h.1 hz, cell_below7 h2 h.2.1 hz, h.2.2.trans (below_le' h2 h.2.2.size)⟩)
      have K0 : wq.drew.cell? ⟨R, 0, none⟩ = some (.string s) ∧ wq.drew.cell? ⟨R, 1, none⟩ = some (.int .i64 i) ∧ Below wq.heap.size wq wq.drew := ⟨q0, q1, (Below.refl _ _).drew⟩
      have HQ := Lib.hid hqb
      clear hwq hqb HAQ
      go_region_held3 (fun W => W.cell? ⟨R, 0, none⟩ = some (.string s) ∧ W.cell? ⟨R, 1, none⟩ = some (.int .i64 i) ∧ Below wq.heap.size wq W)
        (first | assumption | exact K0 | exact ⟨by assumption, by assumption, by assumption⟩)
        (first
          | (go_at_call 122; refine (K1.out _ ?_).mono ?_; assumption; rintro e w5 ⟨rfl, hss⟩))
      have hb5 : Below w.heap.size w w5 := HQ.out.trans (below_le' hss.2.2 HQ.out.size)
      have HB5 := Lib.hid hb5
      have HA5 := HA.out.below hb5 hlt
      have a0 := HA5.c0
      have a1 := HA5.c1
      have e5 := (HE.out.below hb5 (by omega)).err.syn
      have HAX := Lib.hid HA5
      clear hss hb5 HA5 K1 K0 q0 q1
      go_wp2_with fail
      go_quiet ((first | (go_at_call 73; exact quiet_add_left (SC.out _)) | (go_at_call 75; exact quiet_add_left (GC.out _)) | (go_at_call 73; exact quiet_left (SC.out _)) | (go_at_call 75; exact quiet_left (GC.out _))))
      go_wp2_with fail
      refine (bad_c R s i line v _ _ (by exact HAX.out)).mono ?_
      rintro e w2 ⟨rfl, rfl⟩
      go_wp2_with fail
      go_ret
      exact LxRes.mkBad HB.out (Below.trans (below_le' HB5.out (Nat.le_of_lt hlt)) ⟨rfl, rfl, rfl, Nat.le_refl _, fun _ _ => rfl⟩) (Nat.le_trans (Nat.le_of_lt hlt) HB5.out.size)
    | false =>
      rw [← pk_in s (i + n) hin, hsm, pk_in s (i + n) hin] at SC
      cases hgr : digB (pk s (i + n)) with
      | true =>
        have HB := Lib.hid (HRR.out.trans (if_pos ⟨hin, .inr hgr⟩))
        rw [← pk_in s (i + n) hin, hgr, pk_in s (i + n) hin] at GC
        clear HRR hsm hgr
        go_enter Tryz.func78, Tryz.ntmps78
        go_wp2_with fail
        refine RC.out.mono ?_
        rintro e w1 ⟨rfl, n1, rfl⟩
        go_wp2_with fail
        generalize hwq : World.drewN _ _ = wq
        have hqb : Below w.heap.size w wq := by rw [← hwq]; exact ⟨rfl, rfl, rfl, Nat.le_refl _, fun _ _ => rfl⟩
        have HAQ := HA.out.below hqb hlt
        have q0 := HAQ.c0
        have q1 := HAQ.c1
        have K1 := Lib.hid (fun W (h : W.cell? ⟨R, 0, none⟩ = some (.string s) ∧ W.cell? ⟨R, 1, none⟩ = some (.int .i64 i) ∧ Below wq.heap.size wq W) => (CC W).mono (R' := fun e W' => e = .returned (.tuple #[.int .i64 k, .bool true]) ∧ (W'.cell? ⟨R, 0, none⟩ = some (.string s) ∧ W'.cell? ⟨R, 1, none⟩ = some (.int .i64 i) ∧ Below wq.heap.size wq W')) fun e W' ⟨h1, h2⟩ =>
          have hz : R < W.heap.size := Nat.lt_of_lt_of_le (Nat.lt_of_lt_of_le hlt hqb.size) h.2.2.size
          ⟨by rw [h1, if_neg (show ¬ k < 0 by omega), show decide (0 ≤ k) = true by simp; omega], cell_below7 h2 h.1 hz, cell_below7 h2 h.2.1 hz, h.2.2.trans (below_le' h2 h.2.2.size)⟩)
        have K0 : wq.drew.cell? ⟨R, 0, none⟩ = some (.string s) ∧ wq.drew.cell? ⟨R, 1, none⟩ = some (.int .i64 i) ∧ Below wq.heap.size wq wq.drew := ⟨q0, q1, (Below.refl _ _).drew⟩
        have HQ := Lib.hid hqb
        clear hwq hqb HAQ
        go_region_held3 (fun W => W.cell? ⟨R, 0, none⟩ = some (.string s) ∧ W.cell? ⟨R, 1, none⟩ = some (.int .i64 i) ∧ Below wq.heap.size wq W)
          (first | assumption | exact K0 | exact ⟨by assumption, by assumption, by assumption⟩)
          (first
            | (go_at_call 122; refine (K1.out _ ?_).mono ?_; assumption; rintro e w5 ⟨rfl, hss⟩))
        have hb5 : Below w.heap.size w w5 := HQ.out.trans (below_le' hss.2.2 HQ.out.size)
        have HB5 := Lib.hid hb5
        have HA5 := HA.out.below hb5 hlt
        have a0 := HA5.c0
        have a1 := HA5.c1
        have e5 := (HE.out.below hb5 (by omega)).err.syn
        have HAX := Lib.hid HA5
        clear hss hb5 HA5 K1 K0 q0 q1
        go_wp2_with fail
        go_quiet ((first | (go_at_call 73; exact quiet_add_left (SC.out _)) | (go_at_call 75; exact quiet_add_left (GC.out _)) | (go_at_call 73; exact quiet_left (SC.out _)) | (go_at_call 75; exact quiet_left (GC.out _))))
        go_wp2_with fail
        refine (bad_c R s i line v _ _ (by exact HAX.out)).mono ?_
        rintro e w2 ⟨rfl, rfl⟩
        go_wp2_with fail
        go_ret
        exact LxRes.mkBad HB.out (Below.trans (below_le' HB5.out (Nat.le_of_lt hlt)) ⟨rfl, rfl, rfl, Nat.le_refl _, fun _ _ => rfl⟩) (Nat.le_trans (Nat.le_of_lt hlt) HB5.out.size)
      | false =>
        have HB := Lib.hid (HRR.out.trans (if_neg (by rintro ⟨_, h | h⟩; rw [hsm] at h; cases h; rw [hgr] at h; cases h)))
        rw [← pk_in s (i + n) hin, hgr, pk_in s (i + n) hin] at GC
        clear HRR hsm hgr
        go_enter Tryz.func78, Tryz.ntmps78
        go_wp2_with fail
        refine RC.out.mono ?_
        rintro e w1 ⟨rfl, n1, rfl⟩
        go_wp2_with fail
        generalize hwq : World.drewN _ _ = wq
        have hqb : Below w.heap.size w wq := by rw [← hwq]; exact ⟨rfl, rfl, rfl, Nat.le_refl _, fun _ _ => rfl⟩
        have HAQ := HA.out.below hqb hlt
        have q0 := HAQ.c0
        have q1 := HAQ.c1
        have K1 := Lib.hid (fun W (h : W.cell? ⟨R, 0, none⟩ = some (.string s) ∧ W.cell? ⟨R, 1, none⟩ = some (.int .i64 i) ∧ Below wq.heap.size wq W) => (CC W).mono (R' := fun e W' => e = .returned (.tuple #[.int .i64 k, .bool true]) ∧ (W'.cell? ⟨R, 0, none⟩ = some (.string s) ∧ W'.cell? ⟨R, 1, none⟩ = some (.int .i64 i) ∧ Below wq.heap.size wq W')) fun e W' ⟨h1, h2⟩ =>
          have hz : R < W.heap.size := Nat.lt_of_lt_of_le (Nat.lt_of_lt_of_le hlt hqb.size) h.2.2.size
          ⟨by rw [h1, if_neg (show ¬ k < 0 by omega), show decide (0 ≤ k) = true by simp; omega], cell_below7 h2 h.1 hz, cell_below7 h2 h.2.1 hz, h.2.2.trans (below_le' h2 h.2.2.size)⟩)
        have K0 : wq.drew.cell? ⟨R, 0, none⟩ = some (.string s) ∧ wq.drew.cell? ⟨R, 1, none⟩ = some (.int .i64 i) ∧ Below wq.heap.size wq wq.drew := ⟨q0, q1, (Below.refl _ _).drew⟩
        have HQ := Lib.hid hqb
        clear hwq hqb HAQ
        go_region_held3 (fun W => W.cell? ⟨R, 0, none⟩ = some (.string s) ∧ W.cell? ⟨R, 1, none⟩ = some (.int .i64 i) ∧ Below wq.heap.size wq W)
          (first | assumption | exact K0 | exact ⟨by assumption, by assumption, by assumption⟩)
          (first
            | (go_at_call 122; refine (K1.out _ ?_).mono ?_; assumption; rintro e w5 ⟨rfl, hss⟩))
        have hb5 : Below w.heap.size w w5 := HQ.out.trans (below_le' hss.2.2 HQ.out.size)
        have HB5 := Lib.hid hb5
        have HA5 := HA.out.below hb5 hlt
        have a0 := HA5.c0
        have a1 := HA5.c1
        have e5 := (HE.out.below hb5 (by omega)).err.syn
        have HAX := Lib.hid HA5
        clear hss hb5 HA5 K1 K0 q0 q1
        go_wp2_with fail
        go_quiet ((first | (go_at_call 73; exact quiet_add_left (SC.out _)) | (go_at_call 75; exact quiet_add_left (GC.out _)) | (go_at_call 73; exact quiet_left (SC.out _)) | (go_at_call 75; exact quiet_left (GC.out _))))
        go_wp2_with fail
        refine (put_c R s i line l _ ?_ n hn1 hn2 hs ⟨3, 0, ⟨#[]⟩, 3, k, ⟨#[]⟩⟩ 0 none 0).mono ?_
        · exact HH.out.below_self (HB5.out.trans ⟨rfl, rfl, rfl, Nat.le_refl _, fun _ _ => rfl⟩)
        rintro e w3 ⟨rfl, hb3, hst⟩
        go_wp2_with fail
        go_ret
        exact LxRes.mkWord HB.out (Below.trans (below_le' HB5.out (Nat.le_of_lt hlt)) (Below.trans (below_drewN (Below.refl _ _) _) hb3)) hst
  · have hdx : decide ((i : Int) + (n : Int) < (s.size : Int)) = false := by simp; omega
    have HB := Lib.hid (HRR.out.trans (if_neg (fun h => hin h.1)))
    clear HRR
    go_enter Tryz.func78, Tryz.ntmps78
    go_wp2_with fail
    refine RC.out.mono ?_
    rintro e w1 ⟨rfl, n1, rfl⟩
    go_wp2_with fail
    generalize hwq : World.drewN _ _ = wq
    have hqb : Below w.heap.size w wq := by rw [← hwq]; exact ⟨rfl, rfl, rfl, Nat.le_refl _, fun _ _ => rfl⟩
    have HAQ := HA.out.below hqb hlt
    have q0 := HAQ.c0
    have q1 := HAQ.c1
    have K1 := Lib.hid (fun W (h : W.cell? ⟨R, 0, none⟩ = some (.string s) ∧ W.cell? ⟨R, 1, none⟩ = some (.int .i64 i) ∧ Below wq.heap.size wq W) => (CC W).mono (R' := fun e W' => e = .returned (.tuple #[.int .i64 k, .bool true]) ∧ (W'.cell? ⟨R, 0, none⟩ = some (.string s) ∧ W'.cell? ⟨R, 1, none⟩ = some (.int .i64 i) ∧ Below wq.heap.size wq W')) fun e W' ⟨h1, h2⟩ =>
      have hz : R < W.heap.size := Nat.lt_of_lt_of_le (Nat.lt_of_lt_of_le hlt hqb.size) h.2.2.size
      ⟨by rw [h1, if_neg (show ¬ k < 0 by omega), show decide (0 ≤ k) = true by simp; omega], cell_below7 h2 h.1 hz, cell_below7 h2 h.2.1 hz, h.2.2.trans (below_le' h2 h.2.2.size)⟩)
    have K0 : wq.drew.cell? ⟨R, 0, none⟩ = some (.string s) ∧ wq.drew.cell? ⟨R, 1, none⟩ = some (.int .i64 i) ∧ Below wq.heap.size wq wq.drew := ⟨q0, q1, (Below.refl _ _).drew⟩
    have HQ := Lib.hid hqb
    clear hwq hqb HAQ
    go_region_held3 (fun W => W.cell? ⟨R, 0, none⟩ = some (.string s) ∧ W.cell? ⟨R, 1, none⟩ = some (.int .i64 i) ∧ Below wq.heap.size wq W)
      (first | assumption | exact K0 | exact ⟨by assumption, by assumption, by assumption⟩)
      (first
        | (go_at_call 122; refine (K1.out _ ?_).mono ?_; assumption; rintro e w5 ⟨rfl, hss⟩))
    have hb5 : Below w.heap.size w w5 := HQ.out.trans (below_le' hss.2.2 HQ.out.size)
    have HB5 := Lib.hid hb5
    have HA5 := HA.out.below hb5 hlt
    have a0 := HA5.c0
    have a1 := HA5.c1
    have e5 := (HE.out.below hb5 (by omega)).err.syn
    have HAX := Lib.hid HA5
    clear hss hb5 HA5 K1 K0 q0 q1
    go_wp2_with fail
    go_quiet (fail)
    go_wp2_with fail
    refine (put_c R s i line l _ ?_ n hn1 hn2 hs ⟨3, 0, ⟨#[]⟩, 3, k, ⟨#[]⟩⟩ 0 none 0).mono ?_
    · exact HH.out.below_self (HB5.out.trans ⟨rfl, rfl, rfl, Nat.le_refl _, fun _ _ => rfl⟩)
    rintro e w3 ⟨rfl, hb3, hst⟩
    go_wp2_with fail
    go_ret
    exact LxRes.mkWord HB.out (Below.trans (below_le' HB5.out (Nat.le_of_lt hlt)) (Below.trans (below_drewN (Below.refl _ _) _) hb3)) hst
end Go.Proofs.YtggngahmafbihaaGreatDoor
namespace Go.Proofs.YtggngahmafbihaaGreatDoor
open Go.RowKit Go.Lib
set_option linter.unusedVariables false

def signR (s : ByteArray) (i : Nat) (line : Int) : WR :=
  let b := signAt s i signsL ⟨#[]⟩
  if b.size = 0 then .bad 111 else .word b.size ⟨4, line, b, 0, 0, ⟨#[]⟩⟩
theorem wordR_sign {s : ByteArray} {i : Nat} {line : Int} (h0 : smB (pk s i) = false) (h1 : digB (pk s i) = false) (h2 : gtB (pk s i) = false) (h3 : pk s i ≠ 35) (h4 : pk s i ≠ 34) : wordR s i line = signR s i line := by
  unfold wordR signR
  simp only [h0, h1, h2, h3, h4, Bool.false_eq_true, if_false]
theorem signAt_step {s : ByteArray} {i : Nat} {x : ByteArray} {l : List ByteArray} {b : ByteArray} (h : b.size < x.size ∧ x.data.toList.isPrefixOf (s.data.toList.drop i) = true) : signAt s i (x :: l) b = signAt s i l x := by
  rw [signAt, if_pos h]
theorem signAt_skip {s : ByteArray} {i : Nat} {x : ByteArray} {l : List ByteArray} {b : ByteArray} (h : ¬ (b.size < x.size ∧ x.data.toList.isPrefixOf (s.data.toList.drop i) = true)) : signAt s i (x :: l) b = signAt s i l b := by
  rw [signAt, if_neg h]
theorem signs_drop (j : Nat) (hj : j < 33) : signsL.drop j = signsL.getD j ByteArray.empty :: signsL.drop (j + 1) := by
  have h33 : signsL.length = 33 := rfl
  rw [List.getD_eq_getElem?_getD, List.getElem?_eq_getElem (by omega)]
  exact (List.drop_eq_getElem_cons (by omega))
/-- Behind a place: what is left of a text. -/
theorem ext_to_end (s : ByteArray) (i : Nat) : (s.extract i s.size).data.toList = s.data.toList.drop i := by
  rw [ByteArray.data_extract, Array.toList_extract, List.extract_eq_take_drop]
  exact List.take_of_length_le (by rw [List.length_drop, Array.length_toList]; exact Nat.le_refl _)
theorem signAt_ok (s : ByteArray) (i : Nat) (hi : i ≤ s.size) : ∀ (l : List ByteArray) (b : ByteArray), i + b.size ≤ s.size → i + (signAt s i l b).size ≤ s.size
  | [], b, h => h
  | x :: l, b, h => by
    rw [signAt]
    split
    · rename_i hc
      refine signAt_ok s i hi l x ?_
      obtain ⟨r, hr⟩ := List.isPrefixOf_iff_prefix.1 hc.2
      have := congrArg List.length hr
      have e1 : x.data.toList.length = x.size := by rw [Array.length_toList]; rfl
      have e2 : s.data.toList.length = s.size := by rw [Array.length_toList]; rfl
      rw [List.length_append, List.length_drop, e1, e2] at this
      omega
    · exact signAt_ok s i hi l b h

set_option maxRecDepth 100000 in
set_option maxHeartbeats 4000000 in
theorem sign_c (R : Nat) (s : ByteArray) (i : Nat) (line : Int) (l : List Tok) (ea : Nat → Addr) (w : World) (h : LxSt w R s i line l) (he : LxEnv w ea) (hi : i < s.size) (hs : s.size ≤ 1000000000) (hR : 24 ≤ R) :
    Calls Tryz.prog 81 #[.pointer (some ⟨R, 0, none⟩)] w (LxRes ea R s i line l (signR s i line) w) := by
  have hlt := h.lt
  obtain ⟨v, L, ha, _⟩ := id h
  have SC := Lib.hid (signs_c w he.spc)
  obtain ⟨r, hr⟩ : ∃ r, r = signR s i line := ⟨_, rfl⟩
  obtain ⟨B, hB⟩ : ∃ B, B = signAt s i signsL ⟨#[]⟩ := ⟨_, rfl⟩
  have HR : Hid (r = if B.size = 0 then .bad 111 else .word B.size ⟨4, line, B, 0, 0, ⟨#[]⟩⟩) := by rw [hr, hB]; rfl
  have HBS : i + B.size ≤ s.size := by rw [hB]; exact signAt_ok s i (by omega) signsL ⟨#[]⟩ (by show i + 0 ≤ s.size; omega)
  rw [← hr]
  have HH := Lib.hid h
  have HA := Lib.hid ha
  have HE := Lib.hid he
  have HBB := Lib.hid hB
  clear hr h he ha hB
  go_enter Tryz.func81, Tryz.ntmps81
  go_wp2_with fail
  refine SC.out.mono ?_
  rintro e w1 ⟨g, cap, rfl, hg1, hg2, hst, hb⟩
  have HB1 := Lib.hid hb
  have HST := Lib.hid hst
  have HA1 := Lib.hid (HA.out.below hb hlt)
  clear hst hb
  go_wp2_with fail
  go_loopg [3, 8] 33 (fun k bv jv wr => ∃ (j : Nat) (b : ByteArray), bv = .string b ∧ jv = .int .i64 (j : Int) ∧ j + k = 33 ∧ b.size ≤ 2 ∧ Below w1.heap.size w1 wr ∧ Hid (signAt s i (signsL.drop j) b = B))
  case atStart => exact ⟨0, ⟨#[]⟩, rfl, rfl, rfl, Nat.zero_le _, Below.refl _ _, HBB.out.symm⟩
  case round =>
    obtain ⟨j, b, rfl, rfl, hk, hbs, hbw, hq⟩ := hrel
    have HBW := Lib.hid hbw
    have ha2 := HA1.out.below hbw HA1.out.lt
    have c0 := ha2.c0
    have c1 := ha2.c1
    have HA2 := Lib.hid ha2
    by_cases hj : j < 33
    · obtain ⟨k, rfl⟩ : ∃ k, gk = k + 1 := ⟨gk - 1, by omega⟩
      obtain ⟨x, hx⟩ : ∃ x, x = signsL.getD j ByteArray.empty := ⟨_, rfl⟩
      have hcj := (HST.out.below hbw hg2) j hj
      rw [← hx, Nat.zero_add] at hcj
      have hqq := hq.out
      rw [signs_drop j hj, ← hx] at hqq
      have PC := fun W => Tryz.strings_HasPrefix (s.extract i s.size) x W
      rw [ext_to_end] at PC
      have hib : (i : Int) ≤ (s.size : Int) := by omega
      have hxs : x.size ≤ 2 := by
        rw [hx]
        have : ∀ y ∈ signsL, y.size ≤ 2 := by decide +kernel
        refine this _ ?_
        rw [List.getD_eq_getElem?_getD, List.getElem?_eq_getElem (show j < signsL.length from hj)]; exact List.getElem_mem _
      by_cases hlen : b.size < x.size
      · have hd1 : decide (b.size < x.size) = true := by simp; exact hlen
        have hd2 : decide ((b.size : Int) < (x.size : Int)) = true := by simp; exact hlen
        cases hp : Lib.hasPrefix (s.data.toList.drop i) x.data.toList with
        | true =>
          have HQ := Lib.hid ((signAt_step ⟨hlen, hp⟩).symm.trans hqq)
          rw [hp] at PC
          have PC2 := Lib.hid (fun W => (PC W).mono (R' := fun e w' => e = .returned (.bool true) ∧ W = w') fun e w' h => ⟨h.1, h.2.symm⟩)
          clear PC hp hq hqq hx hbw ha2 hlen
          go_wp2_with fail
          go_quiet ((go_at_call 83; exact quiet_left (PC2.out _)))
          go_wp2_with fail
          go_roundg k
          case measure => omega
          case rel => exact ⟨j + 1, x, rfl, by go_num, by omega, by omega, below_drewN HBW.out _, HQ.out⟩
        | false =>
          have HQ := Lib.hid ((signAt_skip (by rintro ⟨_, h2⟩; rw [show List.isPrefixOf x.data.toList (s.data.toList.drop i) = false from hp] at h2; cases h2)).symm.trans hqq)
          rw [hp] at PC
          have PC2 := Lib.hid (fun W => (PC W).mono (R' := fun e w' => e = .returned (.bool false) ∧ W = w') fun e w' h => ⟨h.1, h.2.symm⟩)
          clear PC hp hq hqq hx hbw ha2 hlen
          go_wp2_with fail
          go_quiet ((go_at_call 83; exact quiet_left (PC2.out _)))
          go_wp2_with fail
          go_roundg k
          case measure => omega
          case rel => exact ⟨j + 1, b, rfl, by go_num, by omega, by omega, below_drewN HBW.out _, HQ.out⟩
      · have hd1 : decide (b.size < x.size) = false := by simp; omega
        have hd2 : decide ((b.size : Int) < (x.size : Int)) = false := by simp; omega
        have HQ := Lib.hid ((signAt_skip (fun h => hlen h.1)).symm.trans hqq)
        clear PC hq hqq hx hbw ha2 hlen
        go_wp2_with fail
        go_quiet (fail)
        go_wp2_with fail
        go_roundg k
        case measure => omega
        case rel => exact ⟨j + 1, b, rfl, by go_num, by omega, by omega, below_drewN HBW.out _, HQ.out⟩
    · obtain rfl : j = 33 := by omega
      have hbB : b = B := hq.out
      subst hbB
      have e5 := (HE.out.below (HB1.out.trans (below_le' hbw HB1.out.size)) (by omega)).err.syn
      have HB5 := Lib.hid (HB1.out.trans (below_le' hbw HB1.out.size))
      clear hq hbw ha2
      by_cases h0 : b.size = 0
      · have HRR := Lib.hid (HR.out.trans (if_pos h0))
        have hb0 := bytes_empty (t := b) (by rw [← List.length_eq_zero_iff, Array.length_toList]; exact h0)
        clear HR
        subst hb0
        clear h0
        go_wp2_with fail
        refine (bad_c R s i line v _ _ (by exact HA2.out)).mono ?_
        rintro e w3 ⟨rfl, rfl⟩
        go_wp2_with fail
        go_ret
        exact LxRes.mkBad HRR.out (below_le' HB5.out (Nat.le_of_lt hlt)) (Nat.le_trans (Nat.le_of_lt hlt) HB5.out.size)
      · have HRR := Lib.hid (HR.out.trans (if_neg h0))
        have hne : b.data.toList ≠ [] := by intro e; apply h0; rw [← List.length_eq_zero_iff, Array.length_toList] at e; exact e
        have hs1 : ¬ b.toList = [] := by rw [Lib.toList_data]; exact hne
        have hs0 : b.toList.isEmpty = false := by rw [Lib.toList_data]; simpa using hne
        have hb1 : 1 ≤ b.size := by omega
        clear HR hne h0
        go_wp2_with fail
        refine (put_c R s i line l _ ?_ b.size hb1 HBS hs ⟨4, 0, b, 0, 0, ⟨#[]⟩⟩ 0 none 0).mono ?_
        · exact HH.out.below_self HB5.out
        rintro e w3 ⟨rfl, hb3, hst⟩
        go_wp2_with fail
        go_ret
        exact LxRes.mkWord HRR.out (Below.trans (below_le' HB5.out (Nat.le_of_lt hlt)) hb3) hst
end Go.Proofs.YtggngahmafbihaaGreatDoor
namespace Go.Proofs.YtggngahmafbihaaGreatDoor
open Go.RowKit Go.Lib
set_option linter.unusedVariables false

/-- The sentinels' variables, in their order. -/
def seeG : List Nat := [4, 5, 6, 0, 3, 7, 8, 9, 10,
  11, 1, 2, 12, 13, 14, 15, 16]
/-- All of api's errors lie where they are told to, each in a place of its own. -/
structure SeesAt (w : World) (ea : Nat → Addr) : Prop where
  at_ : ∀ k, k < 17 → w.cell? ⟨seeG.getD k 0, 0, none⟩ = some (.iface 270 (.pointer (some (ea (101 + k)))))
  row : ∀ k, k < 17 → ∃ c t, w.heap[(ea (101 + k)).block]? = some (.cells c t (0, 0))
  apart : ∀ i j, i < 17 → j < 17 → ea (101 + i) = ea (101 + j) → i = j
  room : 24 < w.heap.size

theorem seeG_small : ∀ k : Fin 17, seeG.getD k.val 0 < 24 := by decide
theorem SeesAt.below {w w' : World} {ea : Nat → Addr} (h : SeesAt w ea) (hb : Below w.heap.size w w') : SeesAt w' ea := by
  have hlt : ∀ k, k < 17 → (ea (101 + k)).block < w.heap.size := fun k hk => by
    obtain ⟨c, t, h1⟩ := h.row k hk
    rcases Nat.lt_or_ge (ea (101 + k)).block w.heap.size with hlt | hge
    · exact hlt
    · rw [Array.getElem?_eq_none hge] at h1; cases h1
  have hroom := h.room
  refine ⟨fun k hk => ?_, fun k hk => ?_, h.apart, by have := hb.size; omega⟩
  · have hs := seeG_small ⟨k, hk⟩
    simp only at hs
    exact (World.cell?_of_block (w := w) (hb.block (seeG.getD k 0) (by omega))).trans (h.at_ k hk)
  · obtain ⟨c, t, h1⟩ := h.row k hk
    exact ⟨c, t, (hb.block _ (hlt k hk)).trans h1⟩
theorem SeesAt.errs {w : World} {ea : Nat → Addr} (h : SeesAt w ea) : ErrsAt w ea :=
  { syn := h.at_ 10 (by decide), deep := h.at_ 11 (by decide), many := h.at_ 3 (by decide), range := h.at_ 4 (by decide), shape := h.at_ 2 (by decide), name := h.at_ 5 (by decide), room := h.room }

theorem info_part {P : Program} {t : TypeId} {α : Type} {f : TypeInfo → α} {b : α} (h : (P.info? t).map f = some b) : ∃ i, P.info? t = some i ∧ f i = b := by
  cases hq : P.info? t with
  | none => rw [hq] at h; cases h
  | some i => rw [hq] at h; exact ⟨i, rfl, Option.some.inj h⟩

set_option maxRecDepth 100000 in
set_option maxHeartbeats 400000 in
theorem alike_yes (a : Addr) (w : World) :
    Calls Tryz.prog 107 #[.iface 270 (.pointer (some a)), .iface 270 (.pointer (some a))] w fun e w' => e = .returned (.bool true) ∧ w = w' := by
  obtain ⟨i, hi, hic⟩ := info_part (P := Tryz.prog) (t := 270) (f := fun i => i.comparable) (b := true) (by kernel_rfl)
  obtain ⟨j, hj, hjc⟩ := info_part (P := Tryz.prog) (t := 272) (f := fun i => i.size) (b := 1) (by kernel_rfl)
  have he := run_eql_iface_ptr_same (P := Tryz.prog) (ti := 33) w a Tryz.underlying33 Tryz.underlying270 hi hic hj
  clear hi hic hj hjc
  go_enter Tryz.func107, Tryz.ntmps107
  go_wp2
  go_ret
  exact ⟨rfl, rfl⟩
set_option maxRecDepth 100000 in
set_option maxHeartbeats 400000 in
theorem alike_no (a b : Addr) (w : World) {ca cb : Array Value} {ta tb : TypeId} (hne : a ≠ b) (ha : w.heap[a.block]? = some (.cells ca ta (0, 0))) (hb : w.heap[b.block]? = some (.cells cb tb (0, 0))) :
    Calls Tryz.prog 107 #[.iface 270 (.pointer (some a)), .iface 270 (.pointer (some b))] w fun e w' => e = .returned (.bool false) ∧ w = w' := by
  obtain ⟨i, hi, hic⟩ := info_part (P := Tryz.prog) (t := 270) (f := fun i => i.comparable) (b := true) (by kernel_rfl)
  obtain ⟨j, hj, hjc⟩ := info_part (P := Tryz.prog) (t := 272) (f := fun i => i.size) (b := 1) (by kernel_rfl)
  have he := run_eql_iface_ptr_other (P := Tryz.prog) (ti := 33) w Tryz.underlying33 Tryz.underlying270 hi hic hj (by rw [hjc]; decide) hne ha hb
  clear ha hb hne hi hic hj hjc
  go_enter Tryz.func107, Tryz.ntmps107
  go_wp2
  go_ret
  exact ⟨rfl, rfl⟩

/-- The sentinels in a row. -/
def seeV (ea : Nat → Addr) : Array Value := #[.iface 270 (.pointer (some (ea 101))), .iface 270 (.pointer (some (ea 102))), .iface 270 (.pointer (some (ea 103))), .iface 270 (.pointer (some (ea 104))), .iface 270 (.pointer (some (ea 105))),
  .iface 270 (.pointer (some (ea 106))), .iface 270 (.pointer (some (ea 107))), .iface 270 (.pointer (some (ea 108))), .iface 270 (.pointer (some (ea 109))), .iface 270 (.pointer (some (ea 110))), .iface 270 (.pointer (some (ea 111))),
  .iface 270 (.pointer (some (ea 112))), .iface 270 (.pointer (some (ea 113))), .iface 270 (.pointer (some (ea 114))), .iface 270 (.pointer (some (ea 115))), .iface 270 (.pointer (some (ea 116))), .iface 270 (.pointer (some (ea 117)))]
theorem seeV_get (ea : Nat → Addr) : ∀ k, k < 17 → (seeV ea)[k]? = some (.iface 270 (.pointer (some (ea (101 + k))))) := by
  intro k hk
  match k, hk with
  | 0, _ | 1, _ | 2, _ | 3, _ | 4, _ | 5, _ | 6, _ | 7, _ | 8, _ | 9, _ | 10, _ | 11, _ | 12, _ | 13, _ | 14, _ | 15, _ | 16, _ => rfl
  | n + 17, h => exact absurd h (by omega)
set_option maxRecDepth 100000 in
set_option maxHeartbeats 1000000 in
theorem sentinels_c (ea : Nat → Addr) (w : World) (h : SeesAt w ea) :
    Calls Tryz.prog 106 #[] w fun e w' => e = .returned (.slice (some ⟨w.heap.size, 0, none⟩) 17 17) ∧ w' = w.alloc (.cells (seeV ea) 33) := by
  have h0 := h.at_ 0 (by decide); have h1 := h.at_ 1 (by decide); have h2 := h.at_ 2 (by decide); have h3 := h.at_ 3 (by decide); have h4 := h.at_ 4 (by decide); have h5 := h.at_ 5 (by decide)
  have h6 := h.at_ 6 (by decide); have h7 := h.at_ 7 (by decide); have h8 := h.at_ 8 (by decide); have h9 := h.at_ 9 (by decide); have h10 := h.at_ 10 (by decide); have h11 := h.at_ 11 (by decide)
  have h12 := h.at_ 12 (by decide); have h13 := h.at_ 13 (by decide); have h14 := h.at_ 14 (by decide); have h15 := h.at_ 15 (by decide); have h16 := h.at_ 16 (by decide)
  simp only [seeG, List.getD_cons_zero, List.getD_cons_succ] at h0 h1 h2 h3 h4 h5 h6 h7 h8 h9 h10 h11 h12 h13 h14 h15 h16
  clear h
  go_enter Tryz.func106, Tryz.ntmps106
  go_wp2
  go_ret
  exact ⟨rfl, rfl⟩

set_option maxRecDepth 100000 in
set_option maxHeartbeats 2000000 in
theorem sentinel_c (ea : Nat → Addr) (c : Nat) (w : World) (h : SeesAt w ea) (hc : c < 17) :
    Calls Tryz.prog 63 #[.iface 270 (.pointer (some (ea (101 + c))))] w fun e w' => e = .returned (.int .i64 (101 + (c : Int))) ∧ Below w.heap.size w w' := by
  have hs := sentinels_c ea w h
  obtain ⟨w1, hw1⟩ : ∃ w1, w1 = w.alloc (.cells (seeV ea) 33) := ⟨_, rfl⟩
  have hb1 : Below w.heap.size w w1 := by rw [hw1]; exact (Below.refl _ _).alloc (Nat.le_refl _) _
  have h1 := h.below hb1
  have hcell : ∀ k, k < 17 → w1.cell? ⟨w.heap.size, k, none⟩ = some (.iface 270 (.pointer (some (ea (101 + k))))) := by
    intro k hk
    rw [hw1, World.cell?_alloc_at _ _ _ _ rfl]
    exact seeV_get ea k hk
  rw [← hw1] at hs
  have SC := Lib.hid (hs.mono (fun e w' ⟨he, hw⟩ => (⟨he, hw.symm⟩ : e = _ ∧ w1 = w')))
  have HC := Lib.hid hcell
  have HB := Lib.hid hb1
  have H1 := Lib.hid h1
  have AY := Lib.hid (alike_yes (ea (101 + c)) w1)
  have AN := Lib.hid (fun k (hk : k < 17) (hne : c ≠ k) => by
    obtain ⟨ca, ta, ha⟩ := h1.row c hc
    obtain ⟨cb, tb, hb⟩ := h1.row k hk
    exact alike_no (ea (101 + c)) (ea (101 + k)) w1 (fun e => hne (h1.apart c k hc hk e)) ha hb)
  clear hs hb1 h1 hcell h
  go_enter Tryz.func63, Tryz.ntmps63
  go_wp2_with fail
  refine SC.out.mono ?_
  rintro e w' ⟨rfl, rfl⟩
  clear SC hw1
  go_wp2_with fail
  go_loop [4] (fun i => ∃ k : Nat, k ≤ c ∧ i = .int .i64 k) (fun i => 17 - (intOf i).toNat)
  case atStart => exact ⟨0, Nat.zero_le _, rfl⟩
  case round =>
    obtain ⟨k, hk, rfl⟩ := hrel
    have hk17 : k < 17 := by omega
    have hcell := HC.out k hk17
    by_cases hlt : c = k
    · subst hlt
      have ht : ((101 : Int) + (c : Int)) ≤ 117 := by omega
      go_wp2_with fail
      refine AY.out.mono ?_
      rintro e w' ⟨rfl, rfl⟩
      go_wp2_with fail
      go_ret
      exact ⟨rfl, HB.out⟩
    · have AN1 := Lib.hid (AN.out k hk17 hlt)
      have hk2 : k + 1 ≤ c := by omega
      clear hlt
      go_wp2_with fail
      refine AN1.out.mono ?_
      rintro e w' ⟨rfl, rfl⟩
      go_wp2_with fail
      go_round
      case rel => exact ⟨k + 1, hk2, by go_num⟩
      case measure => simp [intOf]; omega
end Go.Proofs.YtggngahmafbihaaGreatDoor
namespace Go.Proofs.YtggngahmafbihaaGreatDoor
open Go.RowKit Go.Lib
set_option linter.unusedVariables false

def strRw (i j : Nat) (line : Int) : Nat ⊕ ByteArray → WR
  | .inl e => .bad e
  | .inr t => .word (j - i) ⟨3, line, ⟨#[]⟩, 2, 0, t⟩
def strRq (s : ByteArray) (i : Nat) (line : Int) : Option Nat → WR
  | none => .bad 111
  | some j => strRw i j line (strW (s.extract i j))
def strR (s : ByteArray) (i : Nat) (line : Int) : WR := strRq s i line (quoEnd s (s.size + 1) (i + 1))
theorem wordR_str {s : ByteArray} {i : Nat} {line : Int} (h : pk s i = 34) : wordR s i line = strR s i line := by
  have h1 : smB (34 : UInt8) = false := by decide
  have h2 : digB (34 : UInt8) = false := by decide
  have h3 : gtB (34 : UInt8) = false := by decide
  have h4 : ¬ (34 : UInt8) = 35 := by decide
  unfold wordR strR
  simp only [h, h1, h2, h3, h4, Bool.false_eq_true, if_false, if_true]
  cases quoEnd s (s.size + 1) (i + 1) with
  | none => rfl
  | some j => unfold strRq strRw; simp only; cases strW (s.extract i j) <;> rfl
theorem rdV_str {sub : ByteArray} (h : pk sub 0 = 34) : rdV sub = ((strSp sub 0).1, (strSp sub 0).2.1, val1 2 0 ⟨(strSp sub 0).2.2.toArray⟩ .nil) := by
  have h2 : ¬ (34 : UInt8) = 35 := by decide
  have h3 : ¬ ((34 : UInt8) = 45 ∨ digB 34 = true) := by decide
  unfold rdV
  rw [show 2 * sub.size + 2 = (2 * sub.size + 1) + 1 from rfl, valSp]
  simp only [h, h2, h3, if_false, if_true]
/-- What reading such a text comes to. -/
theorem strW_cases {sub : ByteArray} (h34 : pk sub 0 = 34) (h0 : 0 < sub.size) :
    (rdBad sub ∧ strW sub = .inl 111) ∨ ∃ t, ¬ rdBad sub ∧ (rdV sub).2.2 = val1 2 0 t .nil ∧ ((walk1 2 0 t .nil 1 4096).1 = 104 ∧ strW sub = .inl 105 ∨ (walk1 2 0 t .nil 1 4096).1 = 0 ∧ strW sub = .inr t) := by
  have hv := rdV_str h34
  by_cases hb : (strSp sub 0).2.1 = true ∧ sub.size ≤ (strSp sub 0).1
  · refine .inr ⟨⟨(strSp sub 0).2.2.toArray⟩, ?_, by rw [hv], ?_⟩
    · unfold rdBad; rw [hv]; exact fun h => h hb
    · have hp : prB (strSp sub 0).2.2 = true := by
        refine (strSp_inv (s := sub) (i := 0) (j := (strSp sub 0).1) (l := (strSp sub 0).2.2) h0 h34 ?_).2
        rw [← hb.1]
      have hm : mOf 2 ⟨(strSp sub 0).2.2.toArray⟩ = ((strSp sub 0).2.2.length : Int) := by
        unfold mOf; rw [if_pos rfl]
        congr 1
      have ho : ownE 2 0 ⟨(strSp sub 0).2.2.toArray⟩ VL.nil.len = 0 := by
        have : VL.nil.len = 0 := rfl
        unfold ownE; simp [hp, this]
      unfold walk1 strW
      simp only
      rw [if_pos hb, hm, if_neg (by decide)]
      by_cases hbig : 4096 ≤ (strSp sub 0).2.2.length
      · rw [if_pos (by omega), if_pos hbig]; exact .inl ⟨rfl, rfl⟩
      · rw [if_neg (by omega), if_neg hbig, if_pos ho]; exact .inr ⟨rfl, rfl⟩
  · refine .inl ⟨?_, ?_⟩
    · unfold rdBad; rw [hv]; exact hb
    · unfold strW; simp only; rw [if_neg hb]
/-- Reading it. -/
def RdStr (ea : Nat → Addr) (r : Nat ⊕ ByteArray) (W : World) (e : Ending) (w' : World) : Prop :=
  Below W.heap.size W w' ∧ match r with
  | .inr t => ∃ (sa : Option Addr) (sc : Nat), e = .returned (.tuple #[.agg #[.int .i64 2, .int .i64 0, .string t, .slice sa 0 sc], .nilIface])
  | .inl c => if c = 105 then e = .returned (.tuple #[.agg #[.int .i64 0, .int .i64 0, .string ⟨#[]⟩, .slice none 0 0], .iface 270 (.pointer (some (ea 104)))])
      else c = 111 ∧ ∃ A : Nat, e = .returned (.tuple #[.agg #[.int .i64 0, .int .i64 0, .string ⟨#[]⟩, .slice none 0 0], .iface 70 (.pointer (some ⟨A, 0, none⟩))])
theorem readStr_c (sub : ByteArray) (ea : Nat → Addr) (W : World) (he : ErrsAt W ea) (hs : sub.size ≤ 1000000000) (h34 : pk sub 0 = 34) (h0 : 0 < sub.size) : Calls Tryz.prog 123 #[.string sub] W (RdStr ea (strW sub) W) := by
  refine (read_c sub ea W he hs).mono ?_
  rintro e w' ⟨hb, hr⟩
  refine ⟨hb, ?_⟩
  rcases strW_cases h34 h0 with ⟨hbad, hw⟩ | ⟨t, hgood, hv, hw⟩
  · rw [hw]
    rcases hr with ⟨_, A, _, _, h4⟩ | ⟨h, _⟩
    · simp only; rw [if_neg (by decide)]; exact ⟨trivial, A, h4⟩
    · exact absurd hbad h
  · rcases hr with ⟨h, _⟩ | ⟨_, k, n, t', sb, h2, h3⟩
    · exact absurd h hgood
    · rw [hv] at h2
      unfold val1 at h2
      injection h2 with a1 a2 a3 a4 _
      subst a1; subst a2; subst a3; subst a4
      rcases hw with ⟨hw1, hw2⟩ | ⟨hw1, hw2⟩
      · rw [hw2]
        rcases h3 with ⟨_, h5⟩ | ⟨h4, _⟩
        · simp only; rw [if_pos trivial, h5, hw1]; rfl
        · rw [hw1] at h4; cases h4
      · rw [hw2]
        rcases h3 with ⟨h4, _⟩ | ⟨_, sa, sc, _, _, h5⟩
        · exact absurd hw1 h4
        · exact ⟨sa, sc, h5⟩
theorem LxRes.mkBad2 {ea : Nat → Addr} {R c z : Nat} {s : ByteArray} {i : Nat} {line : Int} {l : List Tok} {r : WR} {w w1 : World} (hr : r = .bad c) (hb : Below R w w1) (hR : R ≤ z) (hz : w1.heap.size = z) :
    LxRes ea R s i line l r w (.returned (.iface 70 (.pointer (some ⟨z, 0, none⟩)))) (w1.alloc (.cells #[.int .i64 line, .iface 270 (.pointer (some (ea c)))] 73)) := by
  subst hz
  exact LxRes.mkBad hr hb hR
theorem str_keep {wq W : World} {R : Nat} {a b : Value} (hR : R < wq.heap.size) (h : W.cell? ⟨R, 0, none⟩ = some a ∧ W.cell? ⟨R, 1, none⟩ = some b ∧ Below wq.heap.size wq W) (k : Nat) (u : Value) :
    (W.setCell ⟨wq.heap.size, k, none⟩ u).cell? ⟨R, 0, none⟩ = some a ∧ (W.setCell ⟨wq.heap.size, k, none⟩ u).cell? ⟨R, 1, none⟩ = some b ∧ Below wq.heap.size wq (W.setCell ⟨wq.heap.size, k, none⟩ u) := by
  have hb : ∀ o, (W.setCell ⟨wq.heap.size, k, none⟩ u).cell? ⟨R, o, none⟩ = W.cell? ⟨R, o, none⟩ := fun o => World.cell?_of_block (w := W) (Below.heap_setCell W _ u R (by show R ≠ wq.heap.size; omega))
  exact ⟨(hb 0).trans h.1, (hb 1).trans h.2.1, h.2.2.setCell (Nat.le_refl _) u⟩
theorem zero_below {wq w5 : World} {a b c d : Value} (h : Below ((wq.alloc (.cells #[a, b, c, d] 28)).drew).heap.size ((wq.alloc (.cells #[a, b, c, d] 28)).drew) w5) : StB w5 wq.heap.size a b c d :=
  StB.below (w := (wq.alloc (.cells #[a, b, c, d] 28)).drew) (StB.new wq a b c d) h (by show wq.heap.size < (wq.alloc _).heap.size; simp)

set_option maxRecDepth 100000 in
set_option maxHeartbeats 8000000 in
theorem str_w (R : Nat) (s : ByteArray) (i : Nat) (line : Int) (l : List Tok) (ea : Nat → Addr) (w : World) (h : LxSt w R s i line l) (he : LxEnv w ea) (hi : i < s.size) (hs : s.size ≤ 1000000000) (hR : 24 ≤ R) (h34 : pk s i = 34) :
    Calls Tryz.prog 80 #[.pointer (some ⟨R, 0, none⟩)] w (LxRes ea R s i line l (strR s i line) w) := by
  have hlt := h.lt
  obtain ⟨v, L, ha, _⟩ := id h
  obtain ⟨r, hr⟩ : ∃ r, r = strR s i line := ⟨_, rfl⟩
  obtain ⟨Q, hQ⟩ : ∃ Q, Q = quoEnd s (s.size + 1) (i + 1) := ⟨_, rfl⟩
  have HR : Hid (r = strRq s i line Q) := by rw [hr, hQ]; rfl
  rw [← hr]
  have hc0 := ha.c0; have hc1 := ha.c1
  have HH := Lib.hid h
  have HA := Lib.hid ha
  have HE := Lib.hid he
  have HQ0 := Lib.hid hQ
  have H34 := Lib.hid h34
  have HI := Lib.hid hi
  have e1 := he.err.syn
  obtain ⟨ii, hii, hiic⟩ := info_part (P := Tryz.prog) (t := 270) (f := fun i => i.comparable) (b := true) (by kernel_rfl)
  obtain ⟨jj, hjj, hjjc⟩ := info_part (P := Tryz.prog) (t := 272) (f := fun i => i.size) (b := 1) (by kernel_rfl)
  have EQS := Lib.hid (fun W => run_eql_iface_ptr_same (P := Tryz.prog) (ti := 33) W (ea 104) Tryz.underlying33 Tryz.underlying270 hii hiic hjj)
  have EQT := Lib.hid (fun W (A : Nat) => run_eql_iface_types (P := Tryz.prog) (ti := 33) 70 270 (.pointer (some ⟨A, 0, none⟩)) (.pointer (some (ea 104))) Tryz.underlying33 (by decide) W)
  clear hr h he ha hQ h34 hii hiic hjj hjjc
  go_enter Tryz.func80, Tryz.ntmps80
  go_wp2_with fail
  go_loopg [3] (s.size + 1) (fun k nv wr => ∃ n m : Nat, nv = .int .i64 (n : Int) ∧ 1 ≤ n ∧ i + n ≤ s.size + 1 ∧ s.size + 2 ≤ n + k ∧ wr = w.drewN m ∧ Hid (quoEnd s k (i + n) = Q))
  case atStart => exact ⟨1, 0, rfl, by omega, by omega, by omega, rfl, HQ0.out.symm⟩
  case round =>
    obtain ⟨n, m, rfl, hn1, hn2, hk, rfl, hq⟩ := hrel
    have g1 : IntKind.i64.wrap ((i : Int) + (n : Int)) = (i : Int) + (n : Int) := IntWalk.i64_in _ (by omega)
    have g2 : (0 : Int) ≤ (i : Int) + (n : Int) := by omega
    have g3 : ((i : Int) + (n : Int)).toNat = i + n := by omega
    by_cases hin : i + n < s.size
    · have hd1 : decide ((s.size : Int) ≤ (i : Int) + (n : Int)) = false := by simp; omega
      have hdy : (i : Int) + (n : Int) < (s.size : Int) := by omega
      obtain ⟨c, hc⟩ : ∃ c, c = s[i + n]'hin := ⟨_, rfl⟩
      have hpc : pk s (i + n) = c := by rw [hc]; exact pk_in s (i + n) hin
      obtain ⟨k, rfl⟩ : ∃ k, gk = k + 1 := ⟨gk - 1, by omega⟩
      by_cases hpr : prC c = true
      · have hpr2 : 32 ≤ c.toNat ∧ c.toNat ≤ 126 := of_decide_eq_true hpr
        have hb1 : decide (((s[i + n]'hin).toNat : Int) < 32) = false := by rw [← hc]; simp; omega
        have hb2 : decide ((126 : Int) < ((s[i + n]'hin).toNat : Int)) = false := by rw [← hc]; simp; omega
        have hqs : quoEnd s (k + 1) (i + n) = if c = 34 then some (i + n + 1) else if c = 92 then quoEnd s k (i + n + 2) else quoEnd s k (i + n + 1) := by
          rw [quoEnd, if_pos ⟨hin, by rw [hpc]; exact hpr⟩, hpc]
        have hqq := hqs.symm.trans hq.out
        by_cases c34 : c = 34
        · have HQ : Hid (Q = some (i + n + 1)) := by rw [← hqq, if_pos c34]; rfl
          have ht1 : (((s[i + n]'hin).toNat : Int) == 34) = true := by rw [← hc, c34]; rfl
          obtain ⟨sub, hsub⟩ : ∃ sub, sub = s.extract i (i + (n + 1)) := ⟨_, rfl⟩
          have hr2 : r = strRw i (i + (n + 1)) line (strW sub) := by
            rw [HR.out, HQ.out, hsub, show i + n + 1 = i + (n + 1) from by omega]; rfl
          have hsz : sub.size = n + 1 := by rw [hsub, ByteArray.size_extract]; omega
          have hs34 : pk sub 0 = 34 := by rw [hsub, run_head s (n + 1) i (by omega) (by omega)]; exact H34.out
          have HR2 := Lib.hid hr2
          have HS := Lib.hid hsub
          have g4 : IntKind.i64.wrap ((i : Int) + ((n : Int) + 1)) = (i : Int) + ((n : Int) + 1) := IntWalk.i64_in _ (by omega)
          have g5 : (0 : Int) ≤ (i : Int) + ((n : Int) + 1) := by omega
          have g6 : ((i : Int) + ((n : Int) + 1)).toNat = i + (n + 1) := by omega
          have g7 : (i : Int) ≤ (i : Int) + ((n : Int) + 1) := by omega
          have g8 : (i : Int) + ((n : Int) + 1) ≤ (s.size : Int) := by omega
          have RC := fun W (hW : ErrsAt W ea) => readStr_c sub ea W hW (by omega) hs34 (by omega)
          have h105 : ∀ c, strW sub = .inl c → c = 105 ∨ c = 111 := by
            intro c hcc
            rcases strW_cases hs34 (by omega) with ⟨_, hw⟩ | ⟨t, _, _, ⟨_, hw⟩ | ⟨_, hw⟩⟩
            · rw [hw] at hcc; injection hcc with hcc; exact .inr hcc.symm
            · rw [hw] at hcc; injection hcc with hcc; exact .inl hcc.symm
            · rw [hw] at hcc; cases hcc
          clear hq hqs hqq hpr c34 hpc hc hr2 hsz hs34 hsub
          cases hw : strW sub with
          | inl c =>
            rw [hw] at RC
            have HB := Lib.hid (HR2.out.trans (show _ = WR.bad c by rw [hw]; rfl))
            rcases h105 c hw with rfl | rfl
            · clear h105 hw HR2
              go_wp2_with fail
              go_quiet (fail)
              go_wp2_with fail
              go_quiet (fail)
              go_wp2_with fail
              generalize hwq : World.drewN _ _ = wq
              have hqb : Below w.heap.size w wq := by rw [← hwq]; exact ⟨rfl, rfl, rfl, Nat.le_refl _, fun _ _ => rfl⟩
              have HAQ := HA.out.below hqb hlt
              have q0 := HAQ.c0
              have q1 := HAQ.c1
              have hqz := hqb.size
              have hroom : 24 < wq.heap.size := by omega
              have K1 := Lib.hid (fun W (h : W.cell? ⟨R, 0, none⟩ = some (.string s) ∧ W.cell? ⟨R, 1, none⟩ = some (.int .i64 i) ∧ Below wq.heap.size wq W) => (RC W (HE.out.err.below (hqb.trans (below_le' h.2.2 hqb.size)) (by omega))).mono (R' := fun e W' => (e = .returned (.tuple #[.agg #[.int .i64 0, .int .i64 0, .string ⟨#[]⟩, .slice none 0 0], .iface 270 (.pointer (some (ea 104)))])) ∧ Below W.heap.size W W' ∧ (W'.cell? ⟨R, 0, none⟩ = some (.string s) ∧ W'.cell? ⟨R, 1, none⟩ = some (.int .i64 i) ∧ Below wq.heap.size wq W')) fun e W' ⟨h1, h2⟩ =>
                have hz : R < W.heap.size := Nat.lt_of_lt_of_le (Nat.lt_of_lt_of_le hlt hqb.size) h.2.2.size
                ⟨by simpa using h2, h1, cell_below7 h1 h.1 hz, cell_below7 h1 h.2.1 hz, h.2.2.trans (below_le' h1 h.2.2.size)⟩)
              have KA := Lib.hid (fun W o (h : W.cell? ⟨R, 0, none⟩ = some (.string s) ∧ W.cell? ⟨R, 1, none⟩ = some (.int .i64 i) ∧ Below wq.heap.size wq W) =>
                have hz : R < W.heap.size := Nat.lt_of_lt_of_le (Nat.lt_of_lt_of_le hlt hqb.size) h.2.2.size
                (⟨cell_below7 ((Below.refl W.heap.size W).alloc (Nat.le_refl _) o) h.1 hz, cell_below7 ((Below.refl W.heap.size W).alloc (Nat.le_refl _) o) h.2.1 hz, h.2.2.alloc h.2.2.size o⟩ : (W.alloc o).cell? ⟨R, 0, none⟩ = some (.string s) ∧ (W.alloc o).cell? ⟨R, 1, none⟩ = some (.int .i64 i) ∧ Below wq.heap.size wq (W.alloc o)))
              have K0 : wq.drew.cell? ⟨R, 0, none⟩ = some (.string s) ∧ wq.drew.cell? ⟨R, 1, none⟩ = some (.int .i64 i) ∧ Below wq.heap.size wq wq.drew := ⟨q0, q1, (Below.refl _ _).drew⟩
              have K0A := Lib.hid (fun o : Obj => (have hh := KA.out wq o ⟨q0, q1, Below.refl _ _⟩; ⟨hh.1, hh.2.1, hh.2.2.drew⟩ : (wq.alloc o).drew.cell? ⟨R, 0, none⟩ = some (.string s) ∧ (wq.alloc o).drew.cell? ⟨R, 1, none⟩ = some (.int .i64 i) ∧ Below wq.heap.size wq (wq.alloc o).drew))
              have KS := Lib.hid (fun (W : World) (k : Nat) (u : Value) (h : W.cell? ⟨R, 0, none⟩ = some (.string s) ∧ W.cell? ⟨R, 1, none⟩ = some (.int .i64 i) ∧ Below wq.heap.size wq W) => (str_keep (show R < wq.heap.size by omega) h k u : (W.setCell ⟨wq.heap.size, k, none⟩ u).cell? ⟨R, 0, none⟩ = some (.string s) ∧ (W.setCell ⟨wq.heap.size, k, none⟩ u).cell? ⟨R, 1, none⟩ = some (.int .i64 i) ∧ Below wq.heap.size wq (W.setCell ⟨wq.heap.size, k, none⟩ u)))
              have HQB := Lib.hid hqb
              rw [HS.out] at K1
              have HN := Lib.hid (show 1 ≤ n ∧ i + (n + 1) ≤ s.size from ⟨hn1, by omega⟩)
              clear hwq hqb HAQ RC g1 hb1 hb2 ht1 hd1 hk e1 hc0 hc1
              go_region_held3 (fun W => W.cell? ⟨R, 0, none⟩ = some (.string s) ∧ W.cell? ⟨R, 1, none⟩ = some (.int .i64 i) ∧ Below wq.heap.size wq W)
                (first | (with_reducible assumption) | (with_reducible exact K0) | (with_reducible exact K0A.out _) | ((with_reducible refine KA.out _ _ ?_); with_reducible assumption) | ((repeat (with_reducible refine KS.out _ _ _ ?_)); with_reducible assumption))
                (first
                  | (go_at_call 123; refine (K1.out _ ?_).mono ?_; (with_reducible assumption); rintro e w5 ⟨rfl, hbw, hss⟩
                     (with_reducible (have hz := zero_below hbw))
                     have z0 := hz.c0; have z1 := hz.c1; have z2 := hz.c2; have z3 := hz.c3; have y0 := hz.fr 0; have y1 := hz.fr 1; have y2 := hz.fr 2; have y3 := hz.fr 3)
                  | (go_at_call 123; refine (K1.out _ ?_).mono ?_; (with_reducible assumption); rintro e w5 ⟨rfl, hbw, hss⟩))
              all_goals
                have HB5 := Lib.hid (HQB.out.trans (below_le' hss.2.2 HQB.out.size))
                have hz5 := hss.2.2.size
                have hz55 := HB5.out.size
                have ee1 := (HE.out.err.below HB5.out (by omega)).syn
                have ee2 := (HE.out.err.below HB5.out (by omega)).range
                have ee3 := (HE.out.err.below HB5.out (by omega)).many
                have gg1 := fun o => ((HE.out.err.below HB5.out (by omega)).below ((Below.refl w5.heap.size w5).alloc (Nat.le_refl _) o) (by omega)).syn
                have gg2 := fun o => ((HE.out.err.below HB5.out (by omega)).below ((Below.refl w5.heap.size w5).alloc (Nat.le_refl _) o) (by omega)).range
                have gg3 := fun o => ((HE.out.err.below HB5.out (by omega)).below ((Below.refl w5.heap.size w5).alloc (Nat.le_refl _) o) (by omega)).many
                have hroom5 : 24 < w5.heap.size := by omega
                have HA5 := HA.out.below HB5.out hlt
                have a0 := HA5.c0; have a1 := HA5.c1; have a2 := HA5.c2
                clear hss hbw HA5 K0
                have eqs := EQS.out
                go_wp2_with fail
                refine (bad_c R s i line v _ _ ?_).mono ?_
                · exact HA.out.below (by repeat (first | exact HB5.out | refine Below.drew ?_ | refine Below.setCell ?_ (by first | exact HQB.out.size | (simp; omega)) _ | refine Below.alloc ?_ (by first | exact HB5.out.size | omega | (simp; omega)) _)) hlt
                rintro e w7 ⟨rfl, rfl⟩
                go_wp2_with fail
                go_ret
                first
                  | (refine LxRes.mkBad2 (z := w5.heap.size) HB.out ?_ ?_ ?_
                     · exact below_le' (B := w.heap.size) (by repeat (first | exact HB5.out | refine Below.drew ?_ | refine Below.setCell ?_ (by first | exact HQB.out.size | (simp; omega)) _ | refine Below.alloc ?_ (by first | exact HB5.out.size | omega | (simp; omega)) _)) (Nat.le_of_lt hlt)
                     · exact Nat.le_trans (Nat.le_of_lt hlt) (by omega)
                     · first | rfl | simp [World.setCell])
                  | (refine LxRes.mkBad2 (z := w5.heap.size + 1) HB.out ?_ ?_ ?_
                     · exact below_le' (B := w.heap.size) (by repeat (first | exact HB5.out | refine Below.drew ?_ | refine Below.setCell ?_ (by first | exact HQB.out.size | (simp; omega)) _ | refine Below.alloc ?_ (by first | exact HB5.out.size | omega | (simp; omega)) _)) (Nat.le_of_lt hlt)
                     · exact Nat.le_trans (Nat.le_of_lt hlt) (by omega)
                     · first | rfl | simp)
            · clear h105 hw HR2
              go_wp2_with fail
              go_quiet (fail)
              go_wp2_with fail
              go_quiet (fail)
              go_wp2_with fail
              generalize hwq : World.drewN _ _ = wq
              have hqb : Below w.heap.size w wq := by rw [← hwq]; exact ⟨rfl, rfl, rfl, Nat.le_refl _, fun _ _ => rfl⟩
              have HAQ := HA.out.below hqb hlt
              have q0 := HAQ.c0
              have q1 := HAQ.c1
              have hqz := hqb.size
              have hroom : 24 < wq.heap.size := by omega
              have K1 := Lib.hid (fun W (h : W.cell? ⟨R, 0, none⟩ = some (.string s) ∧ W.cell? ⟨R, 1, none⟩ = some (.int .i64 i) ∧ Below wq.heap.size wq W) => (RC W (HE.out.err.below (hqb.trans (below_le' h.2.2 hqb.size)) (by omega))).mono (R' := fun e W' => (∃ A : Nat, e = .returned (.tuple #[.agg #[.int .i64 0, .int .i64 0, .string ⟨#[]⟩, .slice none 0 0], .iface 70 (.pointer (some ⟨A, 0, none⟩))])) ∧ Below W.heap.size W W' ∧ (W'.cell? ⟨R, 0, none⟩ = some (.string s) ∧ W'.cell? ⟨R, 1, none⟩ = some (.int .i64 i) ∧ Below wq.heap.size wq W')) fun e W' ⟨h1, h2⟩ =>
                have hz : R < W.heap.size := Nat.lt_of_lt_of_le (Nat.lt_of_lt_of_le hlt hqb.size) h.2.2.size
                ⟨by simpa using h2, h1, cell_below7 h1 h.1 hz, cell_below7 h1 h.2.1 hz, h.2.2.trans (below_le' h1 h.2.2.size)⟩)
              have KA := Lib.hid (fun W o (h : W.cell? ⟨R, 0, none⟩ = some (.string s) ∧ W.cell? ⟨R, 1, none⟩ = some (.int .i64 i) ∧ Below wq.heap.size wq W) =>
                have hz : R < W.heap.size := Nat.lt_of_lt_of_le (Nat.lt_of_lt_of_le hlt hqb.size) h.2.2.size
                (⟨cell_below7 ((Below.refl W.heap.size W).alloc (Nat.le_refl _) o) h.1 hz, cell_below7 ((Below.refl W.heap.size W).alloc (Nat.le_refl _) o) h.2.1 hz, h.2.2.alloc h.2.2.size o⟩ : (W.alloc o).cell? ⟨R, 0, none⟩ = some (.string s) ∧ (W.alloc o).cell? ⟨R, 1, none⟩ = some (.int .i64 i) ∧ Below wq.heap.size wq (W.alloc o)))
              have K0 : wq.drew.cell? ⟨R, 0, none⟩ = some (.string s) ∧ wq.drew.cell? ⟨R, 1, none⟩ = some (.int .i64 i) ∧ Below wq.heap.size wq wq.drew := ⟨q0, q1, (Below.refl _ _).drew⟩
              have K0A := Lib.hid (fun o : Obj => (have hh := KA.out wq o ⟨q0, q1, Below.refl _ _⟩; ⟨hh.1, hh.2.1, hh.2.2.drew⟩ : (wq.alloc o).drew.cell? ⟨R, 0, none⟩ = some (.string s) ∧ (wq.alloc o).drew.cell? ⟨R, 1, none⟩ = some (.int .i64 i) ∧ Below wq.heap.size wq (wq.alloc o).drew))
              have KS := Lib.hid (fun (W : World) (k : Nat) (u : Value) (h : W.cell? ⟨R, 0, none⟩ = some (.string s) ∧ W.cell? ⟨R, 1, none⟩ = some (.int .i64 i) ∧ Below wq.heap.size wq W) => (str_keep (show R < wq.heap.size by omega) h k u : (W.setCell ⟨wq.heap.size, k, none⟩ u).cell? ⟨R, 0, none⟩ = some (.string s) ∧ (W.setCell ⟨wq.heap.size, k, none⟩ u).cell? ⟨R, 1, none⟩ = some (.int .i64 i) ∧ Below wq.heap.size wq (W.setCell ⟨wq.heap.size, k, none⟩ u)))
              have HQB := Lib.hid hqb
              rw [HS.out] at K1
              have HN := Lib.hid (show 1 ≤ n ∧ i + (n + 1) ≤ s.size from ⟨hn1, by omega⟩)
              clear hwq hqb HAQ RC g1 hb1 hb2 ht1 hd1 hk e1 hc0 hc1
              go_region_held3 (fun W => W.cell? ⟨R, 0, none⟩ = some (.string s) ∧ W.cell? ⟨R, 1, none⟩ = some (.int .i64 i) ∧ Below wq.heap.size wq W)
                (first | (with_reducible assumption) | (with_reducible exact K0) | (with_reducible exact K0A.out _) | ((with_reducible refine KA.out _ _ ?_); with_reducible assumption) | ((repeat (with_reducible refine KS.out _ _ _ ?_)); with_reducible assumption))
                (first
                  | (go_at_call 123; refine (K1.out _ ?_).mono ?_; (with_reducible assumption); rintro e w5 ⟨⟨A, rfl⟩, hbw, hss⟩
                     (with_reducible (have hz := zero_below hbw))
                     have z0 := hz.c0; have z1 := hz.c1; have z2 := hz.c2; have z3 := hz.c3; have y0 := hz.fr 0; have y1 := hz.fr 1; have y2 := hz.fr 2; have y3 := hz.fr 3)
                  | (go_at_call 123; refine (K1.out _ ?_).mono ?_; (with_reducible assumption); rintro e w5 ⟨⟨A, rfl⟩, hbw, hss⟩))
              all_goals
                have HB5 := Lib.hid (HQB.out.trans (below_le' hss.2.2 HQB.out.size))
                have hz5 := hss.2.2.size
                have hz55 := HB5.out.size
                have ee1 := (HE.out.err.below HB5.out (by omega)).syn
                have ee2 := (HE.out.err.below HB5.out (by omega)).range
                have ee3 := (HE.out.err.below HB5.out (by omega)).many
                have gg1 := fun o => ((HE.out.err.below HB5.out (by omega)).below ((Below.refl w5.heap.size w5).alloc (Nat.le_refl _) o) (by omega)).syn
                have gg2 := fun o => ((HE.out.err.below HB5.out (by omega)).below ((Below.refl w5.heap.size w5).alloc (Nat.le_refl _) o) (by omega)).range
                have gg3 := fun o => ((HE.out.err.below HB5.out (by omega)).below ((Below.refl w5.heap.size w5).alloc (Nat.le_refl _) o) (by omega)).many
                have hroom5 : 24 < w5.heap.size := by omega
                have HA5 := HA.out.below HB5.out hlt
                have a0 := HA5.c0; have a1 := HA5.c1; have a2 := HA5.c2
                clear hss hbw HA5 K0
                have eqs := fun W => EQT.out W A
                go_wp2_with fail
                refine (bad_c R s i line v _ _ ?_).mono ?_
                · exact HA.out.below (by repeat (first | exact HB5.out | refine Below.drew ?_ | refine Below.setCell ?_ (by first | exact HQB.out.size | (simp; omega)) _ | refine Below.alloc ?_ (by first | exact HB5.out.size | omega | (simp; omega)) _)) hlt
                rintro e w7 ⟨rfl, rfl⟩
                go_wp2_with fail
                go_ret
                first
                  | (refine LxRes.mkBad2 (z := w5.heap.size) HB.out ?_ ?_ ?_
                     · exact below_le' (B := w.heap.size) (by repeat (first | exact HB5.out | refine Below.drew ?_ | refine Below.setCell ?_ (by first | exact HQB.out.size | (simp; omega)) _ | refine Below.alloc ?_ (by first | exact HB5.out.size | omega | (simp; omega)) _)) (Nat.le_of_lt hlt)
                     · exact Nat.le_trans (Nat.le_of_lt hlt) (by omega)
                     · first | rfl | simp [World.setCell])
                  | (refine LxRes.mkBad2 (z := w5.heap.size + 1) HB.out ?_ ?_ ?_
                     · exact below_le' (B := w.heap.size) (by repeat (first | exact HB5.out | refine Below.drew ?_ | refine Below.setCell ?_ (by first | exact HQB.out.size | (simp; omega)) _ | refine Below.alloc ?_ (by first | exact HB5.out.size | omega | (simp; omega)) _)) (Nat.le_of_lt hlt)
                     · exact Nat.le_trans (Nat.le_of_lt hlt) (by omega)
                     · first | rfl | simp)
          | inr tx =>
            rw [hw] at RC
            have HB := Lib.hid (HR2.out.trans (show _ = WR.word (n + 1) ⟨3, line, ⟨#[]⟩, 2, 0, tx⟩ by rw [hw]; unfold strRw; simp only; rw [show i + (n + 1) - i = n + 1 from by omega]))
            clear h105 hw HR2
            go_wp2_with fail
            go_quiet (fail)
            go_wp2_with fail
            go_quiet (fail)
            go_wp2_with fail
            generalize hwq : World.drewN _ _ = wq
            have hqb : Below w.heap.size w wq := by rw [← hwq]; exact ⟨rfl, rfl, rfl, Nat.le_refl _, fun _ _ => rfl⟩
            have HAQ := HA.out.below hqb hlt
            have q0 := HAQ.c0
            have q1 := HAQ.c1
            have hqz := hqb.size
            have hroom : 24 < wq.heap.size := by omega
            have K1 := Lib.hid (fun W (h : W.cell? ⟨R, 0, none⟩ = some (.string s) ∧ W.cell? ⟨R, 1, none⟩ = some (.int .i64 i) ∧ Below wq.heap.size wq W) => (RC W (HE.out.err.below (hqb.trans (below_le' h.2.2 hqb.size)) (by omega))).mono (R' := fun e W' => (∃ (sa : Option Addr) (sc : Nat), e = .returned (.tuple #[.agg #[.int .i64 2, .int .i64 0, .string tx, .slice sa 0 sc], .nilIface])) ∧ Below W.heap.size W W' ∧ (W'.cell? ⟨R, 0, none⟩ = some (.string s) ∧ W'.cell? ⟨R, 1, none⟩ = some (.int .i64 i) ∧ Below wq.heap.size wq W')) fun e W' ⟨h1, h2⟩ =>
              have hz : R < W.heap.size := Nat.lt_of_lt_of_le (Nat.lt_of_lt_of_le hlt hqb.size) h.2.2.size
              ⟨h2, h1, cell_below7 h1 h.1 hz, cell_below7 h1 h.2.1 hz, h.2.2.trans (below_le' h1 h.2.2.size)⟩)
            have KA := Lib.hid (fun W o (h : W.cell? ⟨R, 0, none⟩ = some (.string s) ∧ W.cell? ⟨R, 1, none⟩ = some (.int .i64 i) ∧ Below wq.heap.size wq W) =>
              have hz : R < W.heap.size := Nat.lt_of_lt_of_le (Nat.lt_of_lt_of_le hlt hqb.size) h.2.2.size
              (⟨cell_below7 ((Below.refl W.heap.size W).alloc (Nat.le_refl _) o) h.1 hz, cell_below7 ((Below.refl W.heap.size W).alloc (Nat.le_refl _) o) h.2.1 hz, h.2.2.alloc h.2.2.size o⟩ : (W.alloc o).cell? ⟨R, 0, none⟩ = some (.string s) ∧ (W.alloc o).cell? ⟨R, 1, none⟩ = some (.int .i64 i) ∧ Below wq.heap.size wq (W.alloc o)))
            have K0 : wq.drew.cell? ⟨R, 0, none⟩ = some (.string s) ∧ wq.drew.cell? ⟨R, 1, none⟩ = some (.int .i64 i) ∧ Below wq.heap.size wq wq.drew := ⟨q0, q1, (Below.refl _ _).drew⟩
            have K0A := Lib.hid (fun o : Obj => (have hh := KA.out wq o ⟨q0, q1, Below.refl _ _⟩; ⟨hh.1, hh.2.1, hh.2.2.drew⟩ : (wq.alloc o).drew.cell? ⟨R, 0, none⟩ = some (.string s) ∧ (wq.alloc o).drew.cell? ⟨R, 1, none⟩ = some (.int .i64 i) ∧ Below wq.heap.size wq (wq.alloc o).drew))
            have KS := Lib.hid (fun (W : World) (k : Nat) (u : Value) (h : W.cell? ⟨R, 0, none⟩ = some (.string s) ∧ W.cell? ⟨R, 1, none⟩ = some (.int .i64 i) ∧ Below wq.heap.size wq W) => (str_keep (show R < wq.heap.size by omega) h k u : (W.setCell ⟨wq.heap.size, k, none⟩ u).cell? ⟨R, 0, none⟩ = some (.string s) ∧ (W.setCell ⟨wq.heap.size, k, none⟩ u).cell? ⟨R, 1, none⟩ = some (.int .i64 i) ∧ Below wq.heap.size wq (W.setCell ⟨wq.heap.size, k, none⟩ u)))
            have HQB := Lib.hid hqb
            rw [HS.out] at K1
            have HN := Lib.hid (show 1 ≤ n ∧ i + (n + 1) ≤ s.size from ⟨hn1, by omega⟩)
            clear hwq hqb HAQ RC g1 hb1 hb2 ht1 hd1 hk e1 hc0 hc1
            go_region_held3 (fun W => W.cell? ⟨R, 0, none⟩ = some (.string s) ∧ W.cell? ⟨R, 1, none⟩ = some (.int .i64 i) ∧ Below wq.heap.size wq W)
              (first | (with_reducible assumption) | (with_reducible exact K0) | (with_reducible exact K0A.out _) | ((with_reducible refine KA.out _ _ ?_); with_reducible assumption) | ((repeat (with_reducible refine KS.out _ _ _ ?_)); with_reducible assumption))
              (first
                | (go_at_call 123; refine (K1.out _ ?_).mono ?_; (with_reducible assumption); rintro e w5 ⟨⟨sa, sc, rfl⟩, hbw, hss⟩
                   (with_reducible (have hz := zero_below hbw))
                   have z0 := hz.c0; have z1 := hz.c1; have z2 := hz.c2; have z3 := hz.c3; have y0 := hz.fr 0; have y1 := hz.fr 1; have y2 := hz.fr 2; have y3 := hz.fr 3)
                | (go_at_call 123; refine (K1.out _ ?_).mono ?_; (with_reducible assumption); rintro e w5 ⟨⟨sa, sc, rfl⟩, hbw, hss⟩))
            all_goals
              have HB5 := Lib.hid (HQB.out.trans (below_le' hss.2.2 HQB.out.size))
              have hz5 := hss.2.2.size
              have hz55 := HB5.out.size
              have ee1 := (HE.out.err.below HB5.out (by omega)).syn
              have ee2 := (HE.out.err.below HB5.out (by omega)).range
              have ee3 := (HE.out.err.below HB5.out (by omega)).many
              have gg1 := fun o => ((HE.out.err.below HB5.out (by omega)).below ((Below.refl w5.heap.size w5).alloc (Nat.le_refl _) o) (by omega)).syn
              have gg2 := fun o => ((HE.out.err.below HB5.out (by omega)).below ((Below.refl w5.heap.size w5).alloc (Nat.le_refl _) o) (by omega)).range
              have gg3 := fun o => ((HE.out.err.below HB5.out (by omega)).below ((Below.refl w5.heap.size w5).alloc (Nat.le_refl _) o) (by omega)).many
              have hroom5 : 24 < w5.heap.size := by omega
              have HA5 := HA.out.below HB5.out hlt
              have a0 := HA5.c0; have a1 := HA5.c1; have a2 := HA5.c2
              clear hss hbw HA5 K0
              go_wp2_with fail
              rw [show ((n : Int) + 1) = ((n + 1 : Nat) : Int) from by omega]
              refine (put_c R s i line l _ ?_ (n + 1) (by omega) HN.out.2 hs ⟨3, 0, ⟨#[]⟩, 2, 0, tx⟩ 0 sa sc).mono ?_
              · exact HH.out.below_self (by repeat (first | exact HB5.out | refine Below.drew ?_ | refine Below.setCell ?_ (by first | exact HQB.out.size | (simp; omega)) _ | refine Below.alloc ?_ (by first | exact HB5.out.size | omega | (simp; omega)) _))
              rintro e w7 ⟨rfl, hb7, hst7⟩
              go_wp2_with fail
              go_ret
              refine LxRes.mkWord HB.out (Below.trans ?_ hb7) hst7
              exact below_le' (B := w.heap.size) (by repeat (first | exact HB5.out | refine Below.drew ?_ | refine Below.setCell ?_ (by first | exact HQB.out.size | (simp; omega)) _ | refine Below.alloc ?_ (by first | exact HB5.out.size | omega | (simp; omega)) _)) (Nat.le_of_lt hlt)
        · by_cases c92 : c = 92
          · have ht1 : (((s[i + n]'hin).toNat : Int) == 34) = false := by rw [← hc, beq_eq_false_iff_ne]; intro e; exact c34 (UInt8.toNat_inj.1 (by show c.toNat = 34; omega))
            have ht2 : (((s[i + n]'hin).toNat : Int) == 92) = true := by rw [← hc, c92]; rfl
            have HQ : Hid (quoEnd s k (i + (n + 2)) = Q) := by rw [← hqq, if_neg c34, if_pos c92]; rfl
            clear hq hqs hqq hpr c34 c92 hpc hc
            go_wp2_with fail
            go_quiet (fail)
            go_wp2_with fail
            go_quiet (fail)
            go_wp2_with fail
            go_roundg k
            case measure => omega
            case rel => exact ⟨n + 2, _, by go_num, by omega, by omega, by omega, rfl, HQ.out⟩
          · have ht1 : (((s[i + n]'hin).toNat : Int) == 34) = false := by rw [← hc, beq_eq_false_iff_ne]; intro e; exact c34 (UInt8.toNat_inj.1 (by show c.toNat = 34; omega))
            have ht2 : (((s[i + n]'hin).toNat : Int) == 92) = false := by rw [← hc, beq_eq_false_iff_ne]; intro e; exact c92 (UInt8.toNat_inj.1 (by show c.toNat = 92; omega))
            have HQ : Hid (quoEnd s k (i + (n + 1)) = Q) := by rw [← hqq, if_neg c34, if_neg c92]; rfl
            clear hq hqs hqq hpr c34 c92 hpc hc
            go_wp2_with fail
            go_quiet (fail)
            go_wp2_with fail
            go_quiet (fail)
            go_wp2_with fail
            go_roundg k
            case measure => omega
            case rel => exact ⟨n + 1, _, by go_num, by omega, by omega, by omega, rfl, HQ.out⟩
      · have HB : Hid (r = .bad 111) := by
          rw [HR.out, ← hq.out, quoEnd, if_neg (by rintro ⟨_, h⟩; rw [hpc] at h; exact hpr h)]; rfl
        by_cases hlo : c.toNat < 32
        · have hb1 : decide (((s[i + n]'hin).toNat : Int) < 32) = true := by rw [← hc]; simp; omega
          clear hq hpr hpc hc hlo
          go_wp2_with fail
          go_quiet (fail)
          go_wp2_with fail
          refine (bad_c R s i line v _ _ (by exact HA.out)).mono ?_
          rintro e w2 ⟨rfl, rfl⟩
          go_wp2_with fail
          go_ret
          exact LxRes.mkBad HB.out ⟨rfl, rfl, rfl, Nat.le_refl _, fun _ _ => rfl⟩ (Nat.le_of_lt hlt)
        · have hb1 : decide (((s[i + n]'hin).toNat : Int) < 32) = false := by rw [← hc]; simp; omega
          have hhi : 126 < c.toNat := by
            rcases Nat.lt_or_ge 126 c.toNat with h | h
            · exact h
            · exact absurd (decide_eq_true (show 32 ≤ c.toNat ∧ c.toNat ≤ 126 by omega)) hpr
          have hb2 : decide ((126 : Int) < ((s[i + n]'hin).toNat : Int)) = true := by rw [← hc]; simp; omega
          clear hq hpr hpc hc hlo hhi
          go_wp2_with fail
          go_quiet (fail)
          go_wp2_with fail
          refine (bad_c R s i line v _ _ (by exact HA.out)).mono ?_
          rintro e w2 ⟨rfl, rfl⟩
          go_wp2_with fail
          go_ret
          exact LxRes.mkBad HB.out ⟨rfl, rfl, rfl, Nat.le_refl _, fun _ _ => rfl⟩ (Nat.le_of_lt hlt)
    · have hd1 : decide ((s.size : Int) ≤ (i : Int) + (n : Int)) = true := by simp; omega
      have HB : Hid (r = .bad 111) := by
        have hnone : quoEnd s gk (i + n) = none := by
          cases gk with
          | zero => rfl
          | succ k => rw [quoEnd, if_neg (fun h => hin h.1)]
        rw [HR.out, ← hq.out, hnone]; rfl
      clear hq
      go_wp2_with fail
      go_quiet (fail)
      go_wp2_with fail
      refine (bad_c R s i line v _ _ (by exact HA.out)).mono ?_
      rintro e w2 ⟨rfl, rfl⟩
      go_wp2_with fail
      go_ret
      exact LxRes.mkBad HB.out ⟨rfl, rfl, rfl, Nat.le_refl _, fun _ _ => rfl⟩ (Nat.le_of_lt hlt)
end Go.Proofs.YtggngahmafbihaaGreatDoor
namespace Go.Proofs.YtggngahmafbihaaGreatDoor
open Go.RowKit Go.Lib
set_option linter.unusedVariables false

theorem LxRes.of_drewN {ea : Nat → Addr} {R n : Nat} {s : ByteArray} {i : Nat} {line : Int} {l : List Tok} {r : WR} {w : World} {e : Ending} {w' : World} (h : LxRes ea R s i line l r (w.drewN n) e w') : LxRes ea R s i line l r w e w' :=
  ⟨(below_drewN (Below.refl _ _) n).trans h.1, h.2⟩
theorem LxRes.ret {ea : Nat → Addr} {R : Nat} {s : ByteArray} {i : Nat} {line : Int} {l : List Tok} {r : WR} {w : World} {e : Ending} {w' : World} (h : LxRes ea R s i line l r w e w') : ∃ x, e = .returned x := by
  obtain ⟨_, h⟩ := h
  cases r with
  | bad c => obtain ⟨A, _, _, rfl⟩ := h; exact ⟨_, rfl⟩
  | word n t => exact ⟨_, h.1⟩
theorem byte_eq {c d : UInt8} {k : Nat} (hd : d.toNat = k) : (((c.toNat : Nat) : Int) == (k : Int)) = (c == d) := by
  rw [Bool.eq_iff_iff, beq_iff_eq, beq_iff_eq]
  constructor
  · intro h; exact UInt8.toNat_inj.1 (by omega)
  · rintro rfl; omega
theorem byte_t {c d : UInt8} {k : Nat} (hd : d.toNat = k) (h : c = d) : (((c.toNat : Nat) : Int) == (k : Int)) = true := by rw [byte_eq hd, h]; simp
theorem byte_f {c d : UInt8} {k : Nat} (hd : d.toNat = k) (h : c ≠ d) : (((c.toNat : Nat) : Int) == (k : Int)) = false := by rw [byte_eq hd]; simpa using h

set_option maxRecDepth 100000 in
set_option maxHeartbeats 2000000 in
theorem word_nl (R : Nat) (s : ByteArray) (i : Nat) (line : Int) (l : List Tok) (ea : Nat → Addr) (w : World) (h : LxSt w R s i line l) (he : LxEnv w ea) (hi : i < s.size) (hs : s.size ≤ 1000000000) (hR : 24 ≤ R) (hl : -1000000000 ≤ line) (hl2 : line ≤ 1000000000000) (h10 : pk s i = 10) :
    Calls Tryz.prog 41 #[.pointer (some ⟨R, 0, none⟩)] w fun e w' => e = .returned .nilIface ∧ Below R w w' ∧ LxSt w' R s (i + 1) (line + 1) l := by
  have hlt := h.lt
  obtain ⟨v, L, ha, _⟩ := id h
  have hc0 := ha.c0; have hc1 := ha.c1; have hc2 := ha.c2
  have hf1 := ha.fr 1; have hf2 := ha.fr 2
  have HH := Lib.hid h
  have HE := Lib.hid he
  have hpk := pk_in s i hi
  have hii : (i : Int) < (s.size : Int) := by omega
  have hib : (i : Int) ≤ 1000000000 := by omega
  have t10 : (((s[i]'hi).toNat : Int) == 10) = true := by rw [← hpk]; exact byte_t (d := 10) (k := 10) rfl h10
  clear h he ha hpk h10
  go_enter Tryz.func41, Tryz.ntmps41
  go_wp2_with fail
  go_quiet (fail)
  go_wp2_with fail
  go_ret
  have hst := ((HH.out.newline (line + 1)).move (i + 1) (by omega) (by omega))
  rw [show ((i + 1 : Nat) : Int) = (i : Int) + 1 from by omega] at hst
  refine ⟨rfl, ?_, LxSt.drewN hst _⟩
  refine Below.setCell (Below.setCell ?_ ?_ _) ?_ _
  · exact below_drewN (Below.refl _ _) _
  · exact Nat.le_refl _
  · exact Nat.le_refl _

set_option maxRecDepth 100000 in
set_option maxHeartbeats 2000000 in
theorem word_sp (R : Nat) (s : ByteArray) (i : Nat) (line : Int) (l : List Tok) (ea : Nat → Addr) (w : World) (h : LxSt w R s i line l) (he : LxEnv w ea) (hi : i < s.size) (hs : s.size ≤ 1000000000) (hR : 24 ≤ R) (h32 : pk s i = 32) :
    Calls Tryz.prog 41 #[.pointer (some ⟨R, 0, none⟩)] w fun e w' => e = .returned .nilIface ∧ Below R w w' ∧ LxSt w' R s (i + 1) line l := by
  have hlt := h.lt
  obtain ⟨v, L, ha, _⟩ := id h
  have hc0 := ha.c0; have hc1 := ha.c1; have hc2 := ha.c2
  have hf1 := ha.fr 1; have hf2 := ha.fr 2
  have HH := Lib.hid h
  have HE := Lib.hid he
  have hpk := pk_in s i hi
  have hii : (i : Int) < (s.size : Int) := by omega
  have hib : (i : Int) ≤ 1000000000 := by omega
  have t10 : (((s[i]'hi).toNat : Int) == 10) = false := by rw [← hpk, h32]; rfl
  have t32 : (((s[i]'hi).toNat : Int) == 32) = true := by rw [← hpk, h32]; rfl
  clear h he ha hpk h32
  go_enter Tryz.func41, Tryz.ntmps41
  go_wp2_with fail
  go_quiet (fail)
  go_wp2_with fail
  go_ret
  have hst := (HH.out.move (i + 1) (by omega) (by omega))
  rw [show ((i + 1 : Nat) : Int) = (i : Int) + 1 from by omega] at hst
  refine ⟨rfl, ?_, LxSt.drewN hst _⟩
  refine Below.setCell ?_ ?_ _
  · exact below_drewN (Below.refl _ _) _
  · exact Nat.le_refl _

set_option maxRecDepth 100000 in
set_option maxHeartbeats 2000000 in
theorem word_w (R : Nat) (s : ByteArray) (i : Nat) (line : Int) (l : List Tok) (ea : Nat → Addr) (w : World) (h : LxSt w R s i line l) (he : LxEnv w ea) (hi : i < s.size) (hs : s.size ≤ 1000000000) (hR : 24 ≤ R) (h10 : pk s i ≠ 10) (h32 : pk s i ≠ 32) :
    Calls Tryz.prog 41 #[.pointer (some ⟨R, 0, none⟩)] w (LxRes ea R s i line l (wordR s i line) w) := by
  have hlt := h.lt
  obtain ⟨v, L, ha, _⟩ := id h
  have hc0 := ha.c0; have hc1 := ha.c1; have hc2 := ha.c2
  have hf1 := ha.fr 1; have hf2 := ha.fr 2
  have HH := Lib.hid h
  have HE := Lib.hid he
  have hpk := pk_in s i hi
  have hii : (i : Int) < (s.size : Int) := by omega
  have hib : (i : Int) ≤ 1000000000 := by omega
  have t10 : (((s[i]'hi).toNat : Int) == 10) = false := by rw [← hpk]; exact byte_f (d := 10) (k := 10) rfl h10
  have t32 : (((s[i]'hi).toNat : Int) == 32) = false := by rw [← hpk]; exact byte_f (d := 32) (k := 32) rfl h32
  have SC := fun W => small_c (pk s i) W
  have DC := fun W => ldigit_c (pk s i) W
  have GC := fun W => great_c (pk s i) W
  cases hsm : smB (pk s i) with
  | true =>
    rw [hsm, hpk] at SC
    have HW := Lib.hid (wordR_name hsm : wordR s i line = nameR s i line)
    have SCX := Lib.hid SC
    have HSM := Lib.hid hsm
    clear hsm
    clear h he ha hpk h10 h32 SC DC GC
    go_enter Tryz.func41, Tryz.ntmps41
    go_wp2_with fail
    go_quiet (fail)
    go_wp2_with fail
    refine (SCX.out _).mono ?_
    rintro e w1 ⟨rfl, rfl⟩
    go_wp2_with fail
    refine (name_c R s i line l ea _ (HH.out.drewN _) (HE.out.below (below_drewN (Below.refl _ _) _) hR) hi hs hR HSM.out).mono ?_
    rintro e w2 hres
    obtain ⟨x, rfl⟩ := LxRes.ret hres
    go_wp2_with fail
    go_ret
    rw [HW.out]
    exact LxRes.of_drewN hres
  | false =>
    rw [hsm, hpk] at SC
    cases hdg : digB (pk s i) with
    | true =>
      rw [hdg, hpk] at DC
      have HW := Lib.hid (wordR_int hsm hdg : wordR s i line = intR s i line)
      have SCX := Lib.hid SC
      have DCX := Lib.hid DC
      clear h he ha hpk h10 h32 SC DC GC hsm hdg
      go_enter Tryz.func41, Tryz.ntmps41
      go_wp2_with fail
      go_quiet (fail)
      go_wp2_with fail
      refine (SCX.out _).mono ?_
      rintro e w1 ⟨rfl, rfl⟩
      go_wp2_with fail
      refine (DCX.out _).mono ?_
      rintro e w1 ⟨rfl, rfl⟩
      go_wp2_with fail
      refine (integer_c R s i line l ea _ (HH.out.drewN _) (HE.out.below (below_drewN (Below.refl _ _) _) hR) hi hs hR).mono ?_
      rintro e w2 hres
      obtain ⟨x, rfl⟩ := LxRes.ret hres
      go_wp2_with fail
      go_ret
      rw [HW.out]
      exact LxRes.of_drewN hres
    | false =>
      rw [hdg, hpk] at DC
      cases hgt : gtB (pk s i) with
      | true =>
        rw [hgt, hpk] at GC
        have HW := Lib.hid (wordR_code hsm hdg hgt : wordR s i line = codeR s i line)
        have SCX := Lib.hid SC
        have DCX := Lib.hid DC
        have GCX := Lib.hid GC
        have HGT := Lib.hid hgt
        clear hgt hsm hdg
        clear h he ha hpk h10 h32 SC DC GC
        go_enter Tryz.func41, Tryz.ntmps41
        go_wp2_with fail
        go_quiet (fail)
        go_wp2_with fail
        refine (SCX.out _).mono ?_
        rintro e w1 ⟨rfl, rfl⟩
        go_wp2_with fail
        refine (DCX.out _).mono ?_
        rintro e w1 ⟨rfl, rfl⟩
        go_wp2_with fail
        refine (GCX.out _).mono ?_
        rintro e w1 ⟨rfl, rfl⟩
        go_wp2_with fail
        refine (lcode_c R s i line l ea _ (HH.out.drewN _) (HE.out.below (below_drewN (Below.refl _ _) _) hR) hi hs hR HGT.out).mono ?_
        rintro e w2 hres
        obtain ⟨x, rfl⟩ := LxRes.ret hres
        go_wp2_with fail
        go_ret
        rw [HW.out]
        exact LxRes.of_drewN hres
      | false =>
        rw [hgt, hpk] at GC
        by_cases h35 : pk s i = 35
        · have t35 : (((s[i]'hi).toNat : Int) == 35) = true := by rw [← hpk, h35]; rfl
          have HW := Lib.hid (wordR_obj h35 : wordR s i line = objR s i line)
          have SCX := Lib.hid SC
          have DCX := Lib.hid DC
          have GCX := Lib.hid GC
          clear h he ha hpk h10 h32 SC DC GC hsm hdg hgt h35
          go_enter Tryz.func41, Tryz.ntmps41
          go_wp2_with fail
          go_quiet (fail)
          go_wp2_with fail
          refine (SCX.out _).mono ?_
          rintro e w1 ⟨rfl, rfl⟩
          go_wp2_with fail
          refine (DCX.out _).mono ?_
          rintro e w1 ⟨rfl, rfl⟩
          go_wp2_with fail
          refine (GCX.out _).mono ?_
          rintro e w1 ⟨rfl, rfl⟩
          go_wp2_with fail
          refine (object_c R s i line l ea _ (HH.out.drewN _) (HE.out.below (below_drewN (Below.refl _ _) _) hR) hi hs hR).mono ?_
          rintro e w2 hres
          obtain ⟨x, rfl⟩ := LxRes.ret hres
          go_wp2_with fail
          go_ret
          rw [HW.out]
          exact LxRes.of_drewN hres
        · have t35 : (((s[i]'hi).toNat : Int) == 35) = false := by rw [← hpk]; exact byte_f (d := 35) (k := 35) rfl h35
          by_cases h34 : pk s i = 34
          · have t34 : (((s[i]'hi).toNat : Int) == 34) = true := by rw [← hpk, h34]; rfl
            have HW := Lib.hid (wordR_str h34 : wordR s i line = strR s i line)
            have SCX := Lib.hid SC
            have DCX := Lib.hid DC
            have GCX := Lib.hid GC
            have H34 := Lib.hid h34
            clear h34 h35 hsm hdg hgt
            clear h he ha hpk h10 h32 SC DC GC
            go_enter Tryz.func41, Tryz.ntmps41
            go_wp2_with fail
            go_quiet (fail)
            go_wp2_with fail
            refine (SCX.out _).mono ?_
            rintro e w1 ⟨rfl, rfl⟩
            go_wp2_with fail
            refine (DCX.out _).mono ?_
            rintro e w1 ⟨rfl, rfl⟩
            go_wp2_with fail
            refine (GCX.out _).mono ?_
            rintro e w1 ⟨rfl, rfl⟩
            go_wp2_with fail
            refine (str_w R s i line l ea _ (HH.out.drewN _) (HE.out.below (below_drewN (Below.refl _ _) _) hR) hi hs hR H34.out).mono ?_
            rintro e w2 hres
            obtain ⟨x, rfl⟩ := LxRes.ret hres
            go_wp2_with fail
            go_ret
            rw [HW.out]
            exact LxRes.of_drewN hres
          · have t34 : (((s[i]'hi).toNat : Int) == 34) = false := by rw [← hpk]; exact byte_f (d := 34) (k := 34) rfl h34
            have HW := Lib.hid (wordR_sign hsm hdg hgt h35 h34 : wordR s i line = signR s i line)
            have SCX := Lib.hid SC
            have DCX := Lib.hid DC
            have GCX := Lib.hid GC
            clear h he ha hpk h10 h32 SC DC GC hsm hdg hgt h35 h34
            go_enter Tryz.func41, Tryz.ntmps41
            go_wp2_with fail
            go_quiet (fail)
            go_wp2_with fail
            refine (SCX.out _).mono ?_
            rintro e w1 ⟨rfl, rfl⟩
            go_wp2_with fail
            refine (DCX.out _).mono ?_
            rintro e w1 ⟨rfl, rfl⟩
            go_wp2_with fail
            refine (GCX.out _).mono ?_
            rintro e w1 ⟨rfl, rfl⟩
            go_wp2_with fail
            refine (sign_c R s i line l ea _ (HH.out.drewN _) (HE.out.below (below_drewN (Below.refl _ _) _) hR) hi hs hR).mono ?_
            rintro e w2 hres
            obtain ⟨x, rfl⟩ := LxRes.ret hres
            go_wp2_with fail
            go_ret
            rw [HW.out]
            exact LxRes.of_drewN hres
end Go.Proofs.YtggngahmafbihaaGreatDoor
namespace Go.Proofs.YtggngahmafbihaaGreatDoor
open Go.RowKit Go.Lib
set_option linter.unusedVariables false

theorem ite_word {p : Prop} [Decidable p] {a b r : WR} (h : (if p then a else b) = r) : a = r ∨ b = r := by
  split at h
  · exact .inl h
  · exact .inr h
theorem wordR_pos {s : ByteArray} {i n : Nat} {line : Int} {t : Tok} (hi : i < s.size) (h : wordR s i line = .word n t) : 1 ≤ n := by
  by_cases h1 : smB (pk s i) = true
  · rw [wordR_name h1] at h
    unfold nameR at h; simp only at h
    split at h
    · cases h
    · injection h with h _; subst h; exact run_pos s _ i hi (by simp [h1])
  have h1 : smB (pk s i) = false := by simpa using h1
  by_cases h2 : digB (pk s i) = true
  · rw [wordR_int h1 h2] at h
    unfold intR at h
    split at h
    · cases h
    · rename_i v m hd; injection h with h _; subst h; exact (dgs_inr hd (by omega)).1
  have h2 : digB (pk s i) = false := by simpa using h2
  by_cases h3 : gtB (pk s i) = true
  · rw [wordR_code h1 h2 h3] at h
    unfold codeR at h; simp only at h
    split at h
    · cases h
    · injection h with h _; subst h; exact run_pos s _ i hi (by simp [h3])
  have h3 : gtB (pk s i) = false := by simpa using h3
  by_cases h4 : pk s i = 35
  · rw [wordR_obj h4] at h
    unfold objR at h; simp only at h
    split at h
    · cases h
    · rename_i v m hd
      split at h
      · cases h
      · rcases ite_word h with h | h
        · cases h
        · injection h with h _
          split at h <;> omega
  by_cases h5 : pk s i = 34
  · rw [wordR_str h5] at h
    unfold strR at h
    cases hq : quoEnd s (s.size + 1) (i + 1) with
    | none => rw [hq] at h; cases h
    | some j =>
      rw [hq] at h
      have := (quoEnd_le s _ _ _ hq).1
      unfold strRq strRw at h
      simp only at h
      cases hw : strW (s.extract i j) with
      | inl e => rw [hw] at h; cases h
      | inr x => rw [hw] at h; simp only at h; injection h with h _; omega
  · rw [wordR_sign h1 h2 h3 h4 h5] at h
    unfold signR at h; simp only at h
    split at h
    · cases h
    · injection h with h _; omega

theorem LxSt.new (w : World) (s : ByteArray) : LxSt (w.alloc (.cells #[.string s, .int .i64 0, .int .i64 1, .slice none 0 0] 83)) w.heap.size s 0 1 [] :=
  ⟨.slice none 0 0, [], heap_alloc_new w _, World.ownsRow_nil _ _ _ _, rfl, Nat.le_refl _, Nat.zero_le _⟩
/-- What a call of All shows. -/
def AllOut (ea : Nat → Addr) (r : (Nat × Int) ⊕ List Tok) (w : World) (e : Ending) (w' : World) : Prop :=
  Below w.heap.size w w' ∧ match r with
  | .inl (c, line) => ∃ A, w.heap.size ≤ A ∧ w'.heap[A]? = some (.cells #[.int .i64 line, .iface 270 (.pointer (some (ea c)))] 73 (0, 0)) ∧ e = .returned (.tuple #[.slice none 0 0, .iface 70 (.pointer (some ⟨A, 0, none⟩))])
  | .inr l => ∃ (v : Value) (L : List TokM), e = .returned (.tuple #[v, .nilIface]) ∧ w'.ownsRow w.heap.size 55 7 v L.length (tkCells L) ∧ L.map (·.1) = l
theorem ownsRow_mono {w : World} {b b' e size n : Nat} {v : Value} {xs : List Value} (h : w.ownsRow b e size v n xs) (hb : b' ≤ b) : w.ownsRow b' e size v n xs := by
  obtain ⟨h1, h2⟩ := h
  refine ⟨h1, ?_⟩
  rcases h2 with h2 | ⟨g, cap, cur, hv, hg, r⟩
  · exact .inl h2
  · exact .inr ⟨g, cap, cur, hv, Nat.le_trans hb hg, r⟩
theorem allSp_nl {s : ByteArray} {f i : Nat} {line : Int} {out : List Tok} (h : i < s.size) (h10 : pk s i = 10) : allSp s (f + 1) i line out = allSp s f (i + 1) (line + 1) out := by
  rw [allSp, if_pos h, if_pos h10]
theorem allSp_sp {s : ByteArray} {f i : Nat} {line : Int} {out : List Tok} (h : i < s.size) (h32 : pk s i = 32) : allSp s (f + 1) i line out = allSp s f (i + 1) line out := by
  rw [allSp, if_pos h, if_neg (by rw [h32]; decide), if_pos h32]

set_option maxRecDepth 100000 in
set_option maxHeartbeats 2000000 in
theorem all_c (s : ByteArray) (ea : Nat → Addr) (w : World) (he : LxEnv w ea) (hb : s.size ≤ 32768) :
    Calls Tryz.prog 20 #[.string s] w (AllOut ea (allW s) w) := by
  obtain ⟨r, hr⟩ : ∃ r, r = allW s := ⟨_, rfl⟩
  have hroom := he.err.room
  obtain ⟨wa, hwa⟩ : ∃ wa, wa = w.alloc (.cells #[.string s, .int .i64 0, .int .i64 1, .slice none 0 0] 83) := ⟨_, rfl⟩
  have hst : LxSt wa w.heap.size s 0 1 [] := by rw [hwa]; exact LxSt.new w s
  have hba : Below w.heap.size w wa := by rw [hwa]; exact (Below.refl _ _).alloc (Nat.le_refl _) _
  have HST := Lib.hid hst
  have HBA := Lib.hid hba
  have HWA := Lib.hid hwa
  have HR := Lib.hid hr
  have HE := Lib.hid he
  have hd : (s.size : Int) ≤ 32768 := by omega
  rw [← hr]
  clear he hst hba hwa hr
  go_enter Tryz.func20, Tryz.ntmps20
  go_wp2_with fail
  rw [← HWA.out]
  go_loopg [] (s.size + 1) (fun k wr => ∃ (i : Nat) (line : Int) (l : List Tok), LxSt wr w.heap.size s i line l ∧ Below w.heap.size w wr ∧ s.size + 1 ≤ i + k ∧ 1 ≤ line ∧ line ≤ 1 + i ∧ Hid (allSp s k i line l = r))
  case atStart => exact ⟨0, 1, [], HST.out, HBA.out, by omega, by omega, by omega, HR.out.symm⟩
  case round =>
    obtain ⟨i, line, l, hs1, hbw, hk, hl1, hl2, hq⟩ := hrel
    obtain ⟨v, L, hAt, hown, hmap, hLi, his⟩ := id hs1
    have c0 := hAt.c0
    have c1 := hAt.c1
    have c3 := hAt.c3
    have HS1 := Lib.hid hs1
    have HBW := Lib.hid hbw
    have HEW := Lib.hid (HE.out.below hbw (by omega))
    by_cases hin : i < s.size
    · obtain ⟨k, rfl⟩ : ∃ k, gk = k + 1 := ⟨gk - 1, by omega⟩
      have hlt : (i : Int) < (s.size : Int) := by omega
      by_cases h10 : pk s i = 10
      · have HQ := Lib.hid ((allSp_nl hin h10).symm.trans hq.out)
        have WC := Lib.hid (word_nl w.heap.size s i line l ea wr HS1.out HEW.out hin (by omega) (by omega) (by omega) (by omega) h10)
        clear hq h10 hs1 hbw hAt hown hmap
        go_wp2_with fail
        refine WC.out.mono ?_
        rintro e w2 ⟨rfl, hb2, hs2⟩
        have HS2 := Lib.hid hs2
        have HB2 := Lib.hid hb2
        clear hs2 hb2
        go_wp2_with fail
        go_roundg k
        case measure => omega
        case rel => exact ⟨i + 1, line + 1, l, HS2.out, HBW.out.trans HB2.out, by omega, by omega, by omega, HQ.out⟩
      by_cases h32 : pk s i = 32
      · have HQ := Lib.hid ((allSp_sp hin h32).symm.trans hq.out)
        have WC := Lib.hid (word_sp w.heap.size s i line l ea wr HS1.out HEW.out hin (by omega) (by omega) h32)
        clear hq h10 h32 hs1 hbw hAt hown hmap
        go_wp2_with fail
        refine WC.out.mono ?_
        rintro e w2 ⟨rfl, hb2, hs2⟩
        have HS2 := Lib.hid hs2
        have HB2 := Lib.hid hb2
        clear hs2 hb2
        go_wp2_with fail
        go_roundg k
        case measure => omega
        case rel => exact ⟨i + 1, line, l, HS2.out, HBW.out.trans HB2.out, by omega, by omega, by omega, HQ.out⟩
      · have WC := word_w w.heap.size s i line l ea wr HS1.out HEW.out hin (by omega) (by omega) h10 h32
        cases hw : wordR s i line with
        | bad c =>
          have HQ := Lib.hid ((allSp_bad hin h10 h32 hw).symm.trans hq.out)
          rw [hw] at WC
          have WX := Lib.hid WC
          clear hq h10 h32 hs1 hbw hAt hown hmap WC hw
          go_wp2_with fail
          refine WX.out.mono ?_
          rintro e w2 ⟨hb2, A, hA, hh, rfl⟩
          have HX := Lib.hid hA
          have HY := Lib.hid hh
          have HB2 := Lib.hid hb2
          clear hA hh hb2
          go_wp2_with fail
          go_returns
          rw [← HQ.out]
          exact ⟨HBW.out.trans HB2.out, A, HX.out, HY.out, rfl⟩
        | word n t =>
          have HQ := Lib.hid ((allSp_word hin h10 h32 hw).symm.trans hq.out)
          have HN1 := Lib.hid (wordR_pos hin hw)
          rw [hw] at WC
          have WX := Lib.hid WC
          clear hq h10 h32 hs1 hbw hAt hown hmap WC hw
          go_wp2_with fail
          refine WX.out.mono ?_
          rintro e w2 ⟨hb2, rfl, hs2⟩
          have HS2 := Lib.hid hs2
          have HB2 := Lib.hid hb2
          clear hs2 hb2
          have h1n : 1 ≤ n := HN1.out
          go_wp2_with fail
          go_roundg k
          case measure => omega
          case rel => exact ⟨i + n, line, l ++ [t], HS2.out, HBW.out.trans HB2.out, by omega, by omega, by omega, HQ.out⟩
    · have hge : (s.size : Int) ≤ (i : Int) := by omega
      have HQ := Lib.hid ((allSp_end hin gk).symm.trans hq.out)
      have HO := Lib.hid hown
      have HM := Lib.hid hmap
      obtain ⟨VA, VC, rfl⟩ := own_form hown
      clear hq hs1 hbw hAt hown hmap
      go_wp2_with fail
      go_returns
      rw [← HQ.out]
      exact ⟨HBW.out, _, L, rfl, ownsRow_mono HO.out (by omega), HM.out⟩
end Go.Proofs.YtggngahmafbihaaGreatDoor
namespace Go.Proofs.YtggngahmafbihaaGreatDoor
open Go.RowKit Go.Lib
set_option linter.unusedVariables false

theorem tkCells_get : ∀ (L : List TokM) (j : Nat) (p : TokM), L[j]? = some p → ∀ k, k < 7 → (tkCells L)[7 * j + k]? = (tk7 p)[k]?
  | [], _, _, h, _, _ => by simp at h
  | q :: L, 0, p, h, k, hk => by
    simp at h; subst h
    rw [tkCells, Nat.mul_zero, Nat.zero_add, List.getElem?_append_left (by show k < 7; omega)]
  | q :: L, j + 1, p, h, k, hk => by
    rw [List.getElem?_cons_succ] at h
    rw [tkCells, List.getElem?_append_right (by show 7 ≤ _; omega), show 7 * (j + 1) + k - (tk7 q).length = 7 * j + k from by show 7 * (j + 1) + k - 7 = _; omega]
    exact tkCells_get L j p h k hk
theorem own_tkIn {w : World} {base g n cap : Nat} {L : List TokM} (h : w.ownsRow base 55 7 (.slice (some ⟨g, 0, none⟩) n cap) n (tkCells L)) (j : Nat) (p : TokM) (hp : L[j]? = some p) : TkIn w g (7 * j) p.1 p.2.1 p.2.2 := by
  have hc : ∀ k u, k < 7 → (tk7 p)[k]? = some u → w.cell? ⟨g, 7 * j + k, none⟩ = some u := by
    intro k u hk hu
    have := h.cells (g := g) rfl (7 * j + k) u (by rw [tkCells_get L j p hp k hk]; exact hu)
    have hadd : (⟨g, 0, none⟩ : Addr).add (7 * j + k) = ⟨g, 7 * j + k, none⟩ := by unfold Addr.add; split <;> simp_all
    rw [hadd] at this; exact this
  exact ⟨hc 0 _ (by decide) rfl, hc 1 _ (by decide) rfl, hc 2 _ (by decide) rfl, hc 3 _ (by decide) rfl, hc 4 _ (by decide) rfl, hc 5 _ (by decide) rfl, hc 6 _ (by decide) rfl⟩

/-- What a call of All shows of a text that is words, at least one. -/
def AllSome (l : List Tok) (w : World) (e : Ending) (w' : World) : Prop :=
  ∃ g cap, e = .returned (.tuple #[.slice (some ⟨g, 0, none⟩) l.length cap, .nilIface]) ∧ w.heap.size ≤ g ∧ g < w'.heap.size ∧ Below w.heap.size w w' ∧ l.length ≤ cap ∧ ∀ j t, l[j]? = some t → ∃ sa sc, TkIn w' g (7 * j) t sa sc
theorem all_some {s : ByteArray} {l : List Tok} (ea : Nat → Addr) (w : World) (he : LxEnv w ea) (hb : s.size ≤ 32768) (h : allW s = .inr l) (hl : 0 < l.length) :
    Calls Tryz.prog 20 #[.string s] w (AllSome l w) := by
  have := all_c s ea w he hb
  rw [h] at this
  refine this.mono ?_
  rintro e w' ⟨hbw, v, L, rfl, hown, hm⟩
  have hlen : L.length = l.length := by rw [← hm, List.length_map]
  have h2 := hown.2
  obtain ⟨g, cap, rfl, hg, hlt⟩ := hown.form (by omega)
  have hcap : l.length ≤ cap := by
    rcases h2 with ⟨h, _⟩ | ⟨g', cap', cur, h, _, _, hc, _⟩
    · cases h
    · injection h with _ _ h; omega
  refine ⟨g, cap, by rw [hlen], hg, hlt, hbw, hcap, fun j t hj => ?_⟩
  rw [← hm, List.getElem?_map] at hj
  cases hq : L[j]? with
  | none => rw [hq] at hj; cases hj
  | some p =>
    rw [hq] at hj
    simp at hj
    rw [← hj]
    exact ⟨_, _, own_tkIn hown j p hq⟩
def tokB (a b : Tok) : Bool := decide (a.kind = b.kind ∧ a.line = b.line ∧ a.s = b.s ∧ a.k = b.k ∧ a.n = b.n ∧ a.t = b.t)
def toksB : List Tok → List Tok → Bool
  | [], [] => true
  | a :: l, b :: m => tokB a b && toksB l m
  | _, _ => false
theorem toksB_eq : ∀ (l m : List Tok), toksB l m = true → l = m
  | [], [], _ => rfl
  | a :: l, b :: m, h => by
    rw [toksB, Bool.and_eq_true] at h
    obtain ⟨h1, h2⟩ := h
    obtain ⟨a1, a2, a3, a4, a5, a6⟩ := of_decide_eq_true h1
    cases a; cases b
    simp only at a1 a2 a3 a4 a5 a6
    rw [toksB_eq l m h2, a1, a2, a3, a4, a5, a6]
  | [], _ :: _, h => by cases h
  | _ :: _, [], h => by cases h
end Go.Proofs.YtggngahmafbihaaGreatDoor
namespace Go.Proofs.YtggngahmafbihaaGreatDoor
open Go.RowKit Go.Lib
set_option linter.unusedVariables false

/-- Numbers in cells. -/
def ints (l : List Nat) : List Value := l.map fun (r : Nat) => Value.int .i64 (r : Int)
theorem ints_len (l : List Nat) : (ints l).length = l.length := List.length_map ..
theorem ints_app (a b : List Nat) : ints (a ++ b) = ints a ++ ints b := List.map_append
theorem int_info : (Tryz.prog.info? 3).map (fun i => (i.zero, i.size, i.bytes)) = some (some (.int .i64 0), 1, 8) := by kernel_rfl
theorem own_belowN {W W' : World} {base e size n : Nat} {v : Value} {xs : List Value} (h : W.ownsRow base e size v n xs) (hb : Below W.heap.size W W') : W'.ownsRow base e size v n xs := by
  refine ⟨h.1, ?_⟩
  rcases h.2 with h0 | ⟨g, cap, cur, hv, hb1, hh, r⟩
  · exact .inl h0
  · have hlt : g < W.heap.size := by
      rcases Nat.lt_or_ge g W.heap.size with hlt | hge
      · exact hlt
      · rw [Array.getElem?_eq_none hge] at hh; cases hh
    exact .inr ⟨g, cap, cur, hv, hb1, (hb.block g hlt).trans hh, r⟩
theorem own_geN {W : World} {base e size n : Nat} {v : Value} {xs : List Value} (h : W.ownsRow base e size v n xs) (k : Nat) (hk : v.ownBlock = some k) : base ≤ k := (h.lt k hk).1
theorem grown_belowN {B : Nat} {w w1 w2 : World} {row : Option Nat} (h : Below B w w1) (hz : B ≤ w1.heap.size) (hg : w1.grownBy w2 row) (hr : ∀ k, row = some k → B ≤ k) : Below B w w2 :=
  ⟨hg.os.trans h.os, hg.tape.trans h.tape, hg.output.trans h.output, Nat.le_trans h.size hg.size,
   fun k hk => (hg.block k (by omega) (fun e => by have := hr k e.symm; omega)).trans (h.block k hk)⟩
theorem info_partsN {P : Program} {t : TypeId} {a : Option Value} {b c : Nat} (h : (P.info? t).map (fun i => (i.zero, i.size, i.bytes)) = some (a, b, c)) : ∃ i, P.info? t = some i ∧ i.zero = a ∧ i.size = b ∧ i.bytes = c := by
  cases hq : P.info? t with
  | none => rw [hq] at h; cases h
  | some i => rw [hq] at h; injection h with h; injection h with h1 h; injection h with h2 h3; exact ⟨i, rfl, h1, h2, h3⟩

set_option maxRecDepth 100000 in
set_option maxHeartbeats 1000000 in
theorem roll_c (r k : Nat) (w : World) (hr : r ≤ 10) (hk : k ≤ 4200) :
    Calls Tryz.prog 178 #[.int .i64 (r : Int), .int .i64 (k : Int)] w fun e w' => ∃ v, e = .returned v ∧ w'.ownsRow w.heap.size 3 1 v k (ints (List.replicate k r)) ∧ Below w.heap.size w w' := by
  obtain ⟨i0, hi0, hz0, hz1, hz2⟩ := info_partsN int_info
  go_enter Tryz.func178, Tryz.ntmps178
  go_wp2_with fail
  go_loopg [5, 7] k (fun kk ov v wr => ∃ (bv : Value) (i : Nat), bv = ov ∧ v = .int .i64 i ∧ i + kk = k ∧ wr.ownsRow w.heap.size 3 1 bv i (ints (List.replicate i r)) ∧ Below w.heap.size w wr)
  case atStart => exact ⟨.slice none 0 0, 0, rfl, rfl, by omega, World.ownsRow_nil _ _ _ _, Below.refl _ _⟩
  case round =>
    obtain ⟨bv, i, rfl, rfl, hik, hrow, hbr⟩ := hrel
    have hrz := hbr.size
    by_cases hi : i < k
    · obtain ⟨g, rfl⟩ : ∃ g, gk = g + 1 := ⟨gk - 1, by omega⟩
      have HROW := Lib.hid hrow
      have HBR := Lib.hid hbr
      clear hrow hbr
      go_wp2_with (at_builtin; refine wpList_append_own _ rfl (.tmp 9) (.tmp 11) 24 rfl w.heap.size 3 i0 (.int .i64 0) 1 8 Tryz.underlying24 hi0 hz0 hz1 hz2 rfl (by decide) bv i (ints (List.replicate i r)) rfl (own_belowN HROW.out ((Below.refl _ _).alloc (Nat.le_refl _) _)) ⟨wr.heap.size, 0, none⟩ 1 1 [.int .i64 (r : Int)] rfl rfl ?c1 ?c2 ?c3 ?c4 ?c5 ?c6
                   case c1 => exact cell_one_new _ _ _
                   case c2 => intro u hu; simp at hu; subst hu; rfl
                   case c3 => unfold maxLen; omega
                   case c4 => omega
                   case c5 => simp; omega
                   intro v' w11 hown' hgrow _
                   have HB11 := Lib.hid (grown_belowN (HBR.out.alloc HBR.out.size _) (by simp; omega) hgrow (fun k hk => own_geN HROW.out k hk))
                   have HO11 := Lib.hid hown'
                   clear hown' hgrow)
      go_roundg g
      case measure => omega
      case rel => exact ⟨v', i + 1, rfl, by go_num, by omega, by
        have h := HO11.out
        have e : ints (List.replicate (i + 1) r) = ints (List.replicate i r) ++ [.int .i64 (r : Int)] := by rw [List.replicate_succ', ints_app]; rfl
        rw [e]; exact h, HB11.out⟩
    · obtain rfl : i = k := by omega
      have HROW := Lib.hid hrow
      have HBR := Lib.hid hbr
      clear hrow hbr
      go_wp2_with fail
      go_ret
      exact ⟨bv, rfl, HROW.out, HBR.out⟩
end Go.Proofs.YtggngahmafbihaaGreatDoor
