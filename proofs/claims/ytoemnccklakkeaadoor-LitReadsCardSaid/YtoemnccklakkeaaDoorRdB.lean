/-
  lit's reader: number.
-/
import Derived.Test.YtoemnccklakkeaaDoorRdA
import Derived.IntWalk
namespace Go.Proofs.YtoemnccklakkeaaDoor
open Go.RowKit Go.Lib

/-- The digits of a number, each taken away from ten times what was read; the place, whether all is right, the number. -/
def numLoop (s : ByteArray) (low high : Int) (neg : Bool) : Nat → Nat → Int → Nat × Bool × Int
  | 0, i, n => (i, true, n)
  | f + 1, i, n =>
    if digB (pk s i) then
      if n < -922337203685477580 ∨ 10 * n < -9223372036854775808 + ((pk s i).toNat - 48 : Int) ∨ (neg = true ∧ 10 * n - ((pk s i).toNat - 48 : Int) < low) ∨ (neg = false ∧ 10 * n - ((pk s i).toNat - 48 : Int) < -high) then (i, false, 0)
      else numLoop s low high neg f (i + 1) (10 * n - ((pk s i).toNat - 48 : Int))
    else (i, true, n)

/-- The number with its sign turned. -/
def negR (r : Nat × Bool × Int) : Nat × Bool × Int := (r.1, r.2.1, if r.2.1 then -r.2.2 else 0)

/-- A number: the place behind it, whether all is right, the number. -/
def numSp (s : ByteArray) (low high : Int) (i : Nat) : Nat × Bool × Int :=
  if pk s i = 45 then
    if digB (pk s (i + 1)) = false ∨ pk s (i + 1) = 48 then (i + 1, false, 0)
    else numLoop s low high true (s.size + 1) (i + 1) 0
  else if pk s i = 48 then (i + 1, true, 0)
  else if digB (pk s i) = false then (i, false, 0)
  else negR (numLoop s low high false (s.size + 1) i 0)

theorem digB_in {s : ByteArray} {i : Nat} (h : digB (pk s i) = true) : i < s.size := by
  rcases Nat.lt_or_ge i s.size with hi | hi
  · exact hi
  · rw [pk_out s i (by omega)] at h; exact absurd h (by decide)
theorem digB_range {c : UInt8} (h : digB c = true) : 48 ≤ c.toNat ∧ c.toNat ≤ 57 := by simpa [digB] using h

theorem numLoop_step (s : ByteArray) (low high : Int) (neg : Bool) (f i : Nat) (n : Int) (h : digB (pk s i) = true)
    (hg : ¬(n < -922337203685477580 ∨ 10 * n < -9223372036854775808 + ((pk s i).toNat - 48 : Int) ∨ (neg = true ∧ 10 * n - ((pk s i).toNat - 48 : Int) < low) ∨ (neg = false ∧ 10 * n - ((pk s i).toNat - 48 : Int) < -high))) :
    numLoop s low high neg (f + 1) i n = numLoop s low high neg f (i + 1) (10 * n - ((pk s i).toNat - 48 : Int)) := by
  rw [numLoop, if_pos h, if_neg hg]
theorem numLoop_bad (s : ByteArray) (low high : Int) (neg : Bool) (f i : Nat) (n : Int) (h : digB (pk s i) = true)
    (hg : n < -922337203685477580 ∨ 10 * n < -9223372036854775808 + ((pk s i).toNat - 48 : Int) ∨ (neg = true ∧ 10 * n - ((pk s i).toNat - 48 : Int) < low) ∨ (neg = false ∧ 10 * n - ((pk s i).toNat - 48 : Int) < -high)) :
    numLoop s low high neg (f + 1) i n = (i, false, 0) := by
  rw [numLoop, if_pos h, if_pos hg]
theorem numLoop_end (s : ByteArray) (low high : Int) (neg : Bool) (f i : Nat) (n : Int) (h : digB (pk s i) = false) : numLoop s low high neg (f + 1) i n = (i, true, n) := by
  rw [numLoop, if_neg (by rw [h]; decide)]

/-- Where all is right at the end the loop's number lies in its range. -/
theorem digit_any (c : UInt8) (x : Int) (hx : x = c.toNat) (w : World) : Calls Tryd.prog 60 #[.int .u8 x] w fun e w' => e = .returned (.bool (digB c)) ∧ w = w' := by
  subst hx; exact digit_c c w

set_option maxRecDepth 100000 in
set_option maxHeartbeats 1000000 in
theorem number_neg (R : Nat) (s : ByteArray) (i : Nat) (low high : Int) (w : World) (h : RdAt w R s i true) (hs : s.size ≤ 1000000000)
    (hl1 : -9223372036854775808 ≤ low) (hl2 : low ≤ 0) (hneg : pk s i = 45) :
    Calls Tryd.prog 59 #[.pointer (some ⟨R, 0, none⟩), .int .i64 low, .int .i64 high] w fun e w' =>
      e = .returned (.int .i64 (numSp s low high i).2.2) ∧ Rds w w' R s (numSp s low high i).1 (numSp s low high i).2.1 := by
  have hi : i < s.size := by
    rcases Nat.lt_or_ge i s.size with hi | hi
    · exact hi
    · rw [pk_out s i (by omega)] at hneg; cases hneg
  have p1 : ((pk s i).toNat : Int) = 45 := by rw [hneg]; rfl
  have k1 : ((pk s i).toNat == 45) = true := by rw [hneg]; rfl
  have pk0 := Lib.hid (fun W hW => peek_c R s i true W hW)
  have tk := fun W hW => take_c R s i true 45 W hW hs
  have e1 : tkOk s i true 45 = true := by simp [tkOk, hi, hneg]
  have e2 : tkAt s i true 45 = i + 1 := by unfold tkAt; rw [e1]; rfl
  rw [e1, e2] at tk
  have TK := Lib.hid tk
  have pk1 := Lib.hid (fun W hW => peek_c R s (i + 1) true W hW)
  clear tk e1 e2
  by_cases hb : digB (pk s (i + 1)) = false ∨ pk s (i + 1) = 48
  · have HS := Lib.hid (show numSp s low high i = (i + 1, false, 0) by unfold numSp; rw [if_pos hneg, if_pos hb])
    have dg := fun W => digit_any (pk s (i + 1)) _ rfl W
    cases hd : digB (pk s (i + 1)) with
    | false =>
      rw [hd] at dg
      have DG := Lib.hid dg
      obtain ⟨c0, hc0⟩ : ∃ c : Nat, c = (pk s i).toNat := ⟨_, rfl⟩
      obtain ⟨c1, hc1⟩ : ∃ c : Nat, c = (pk s (i + 1)).toNat := ⟨_, rfl⟩
      rw [← hc0] at pk0 p1 k1
      rw [← hc1] at pk1 DG
      clear hb dg hneg hd hc0 hc1
      go_enter Tryd.func59, Tryd.ntmps59
      go_wp2_with fail
      refine (pk0.out _ h).mono ?_
      rintro e w1 ⟨rfl, n1, rfl⟩
      go_wp2_with fail
      refine (TK.out _ (h.drewN n1)).mono ?_
      rintro e w2 ⟨rfl, hr2⟩
      go_wp2_with fail
      refine (pk1.out _ hr2.at_).mono ?_
      rintro e w3 ⟨rfl, n3, rfl⟩
      have k2 : ((c1 : Int) == 48) = true ∨ ((c1 : Int) == 48) = false := by cases ((c1 : Int) == 48) <;> simp
      have g2 := hr2.at_.fr 2
      have g3 := hr2.at_.c2
      have HR2 := Lib.hid hr2
      clear hr2
      rcases k2 with k2 | k2
      all_goals
        go_wp2_with fail
        refine (pk1.out _ (HR2.out.at_.drewN n3)).mono ?_
        rintro e w4 ⟨rfl, n4, rfl⟩
        go_wp2_with fail
        refine (DG.out _).mono ?_
        rintro e w5 ⟨rfl, rfl⟩
        go_wp2_with fail
        go_ret
        rw [HS.out]
        exact ⟨ret_int rfl, (((Rds.of h).drewN n1).trans (HR2.out.drewN _)).set2 false⟩
    | true =>
      have hb2 : pk s (i + 1) = 48 := by
        rcases hb with e | e
        · rw [hd] at e; cases e
        · exact e
      rw [hd] at dg
      have DG := Lib.hid (show ∀ W, Calls Tryd.prog 60 #[.int .u8 48] W fun e w' => e = .returned (.bool true) ∧ W = w' from fun W => by
        have := dg W
        rw [hb2] at this
        exact this)
      have PK1 := Lib.hid (show ∀ W, RdAt W R s (i + 1) true → Calls Tryd.prog 57 #[.pointer (some ⟨R, 0, none⟩)] W fun e w' => e = .returned (.int .u8 48) ∧ ∃ n, w' = W.drewN n from fun W hW => by
        have := pk1.out W hW
        rw [hb2] at this
        exact this)
      obtain ⟨c0, hc0⟩ : ∃ c : Nat, c = (pk s i).toNat := ⟨_, rfl⟩
      rw [← hc0] at pk0 p1 k1
      clear hb hb2 dg hneg hd hc0 pk1
      go_enter Tryd.func59, Tryd.ntmps59
      go_wp2_with fail
      refine (pk0.out _ h).mono ?_
      rintro e w1 ⟨rfl, n1, rfl⟩
      go_wp2_with fail
      refine (TK.out _ (h.drewN n1)).mono ?_
      rintro e w2 ⟨rfl, hr2⟩
      go_wp2_with fail
      refine (PK1.out _ hr2.at_).mono ?_
      rintro e w3 ⟨rfl, n3, rfl⟩
      have g2 := hr2.at_.fr 2
      have g3 := hr2.at_.c2
      have HR2 := Lib.hid hr2
      clear hr2
      go_wp2_with fail
      refine (PK1.out _ (HR2.out.at_.drewN n3)).mono ?_
      rintro e w4 ⟨rfl, n4, rfl⟩
      go_wp2_with fail
      refine (DG.out _).mono ?_
      rintro e w5 ⟨rfl, rfl⟩
      go_wp2_with fail
      refine (PK1.out _ (HR2.out.at_.drewN _)).mono ?_
      rintro e w6 ⟨rfl, n6, rfl⟩
      go_wp2_with fail
      go_ret
      rw [HS.out]
      exact ⟨ret_int rfl, (((Rds.of h).drewN n1).trans (HR2.out.drewN _)).set2 false⟩
  · have HS := Lib.hid (show numSp s low high i = numLoop s low high true (s.size + 1) (i + 1) 0 by unfold numSp; rw [if_pos hneg, if_neg hb])
    have hb1 : digB (pk s (i + 1)) = true := by
      cases hd : digB (pk s (i + 1)) with
      | true => rfl
      | false => exact absurd (.inl hd) hb
    have hb2 : ¬ pk s (i + 1) = 48 := fun e => hb (.inr e)
    have p2 : ((pk s (i + 1)).toNat : Int) ≠ 48 := fun e => hb2 (UInt8.toNat_inj.1 (by show (pk s (i + 1)).toNat = 48; omega))
    have k2 : (((pk s (i + 1)).toNat : Int) == 48) = false := by rw [beq_eq_false_iff_ne]; exact p2
    have dg := fun W => digit_any (pk s (i + 1)) _ rfl W
    rw [hb1] at dg
    have DG := Lib.hid dg
    clear hb hb1 hb2 dg p2 hneg
    obtain ⟨c0, hc0⟩ : ∃ c : Nat, c = (pk s i).toNat := ⟨_, rfl⟩
    obtain ⟨c1, hc1⟩ : ∃ c : Nat, c = (pk s (i + 1)).toNat := ⟨_, rfl⟩
    rw [← hc0] at pk0 p1 k1
    rw [← hc1] at pk1 k2 DG
    clear hc0 hc1
    go_enter Tryd.func59, Tryd.ntmps59
    go_wp2_with fail
    refine (pk0.out _ h).mono ?_
    rintro e w1 ⟨rfl, n1, rfl⟩
    go_wp2_with fail
    refine (TK.out _ (h.drewN n1)).mono ?_
    rintro e w2 ⟨rfl, hr2⟩
    go_wp2_with fail
    refine (pk1.out _ hr2.at_).mono ?_
    rintro e w3 ⟨rfl, n3, rfl⟩
    go_wp2_with fail
    refine (pk1.out _ (hr2.at_.drewN n3)).mono ?_
    rintro e w4 ⟨rfl, n4, rfl⟩
    go_wp2_with fail
    refine (DG.out _).mono ?_
    rintro e w5 ⟨rfl, rfl⟩
    go_wp2_with fail
    refine (pk1.out _ (by exact hr2.at_.drewN _)).mono ?_
    rintro e w6 ⟨rfl, n6, rfl⟩
    go_wp2_with fail
    obtain ⟨wL, hwL⟩ : ∃ wL, wL = w2.drewN (n3 + n4 + n6) := ⟨_, rfl⟩
    have hL : Rds w wL R s (i + 1) true := by rw [hwL]; exact (Rds.trans ((Rds.of h).drewN n1) hr2).drewN _
    rw [← hwL]
    have HL := Lib.hid hL
    clear hL hwL hr2
    go_loopg [8] (s.size + 1) (fun k v wr => ∃ (j : Nat) (n : Int), v = .int .i64 n ∧ Rds w wr R s j true ∧ s.size + 1 = j + k - (i + 1) ∧ -9223372036854775808 ≤ n ∧ n ≤ 0 ∧
      Hid (numLoop s low high true k j n = numLoop s low high true (s.size + 1) (i + 1) 0))
    case atStart => exact ⟨i + 1, 0, rfl, HL.out, by omega, by omega, by omega, rfl⟩
    case round =>
      obtain ⟨j, n, rfl, hr, hk, hn1, hn2, hq⟩ := hrel
      have pkj := fun W hW => peek_c R s j true W hW
      have dgj := fun W => digit_any (pk s j) _ rfl W
      have hrj := hr.at_
      have j1 := hrj.c1
      have jf1 := hrj.fr 1
      have jf2 := hrj.fr 2
      have j2 := hrj.c2
      have HR := Lib.hid hr
      clear hr
      cases hd : digB (pk s j) with
      | false =>
        have hex : numLoop s low high true gk j n = (j, true, n) := by
          cases gk with
          | zero => rfl
          | succ f => exact numLoop_end s low high true f j n hd
        have HEX := Lib.hid hex
        rw [hd] at dgj
        obtain ⟨c, hc⟩ : ∃ c : Nat, c = (pk s j).toNat := ⟨_, rfl⟩
        rw [← hc] at pkj dgj
        have PKJ := Lib.hid pkj
        have DGJ := Lib.hid dgj
        clear pkj dgj hd hc hex
        go_wp2_with fail
        refine (PKJ.out _ hrj).mono ?_
        rintro e w7 ⟨rfl, n7, rfl⟩
        go_wp2_with fail
        refine (DGJ.out _).mono ?_
        rintro e w8 ⟨rfl, rfl⟩
        go_wp2_with fail
        go_ret
        rw [HS.out, ← hq.out, HEX.out]
        exact ⟨ret_int rfl, HR.out.drewN _⟩
      | true =>
        have hj := digB_in hd
        obtain ⟨hc1, hc2⟩ := digB_range hd
        obtain ⟨f, rfl⟩ : ∃ f, gk = f + 1 := ⟨gk - 1, by omega⟩
        rw [hd] at dgj
        obtain ⟨c, hc⟩ : ∃ c : Nat, c = (pk s j).toNat := ⟨_, rfl⟩
        rw [← hc] at pkj dgj hc1 hc2
        have PKJ := Lib.hid pkj
        have DGJ := Lib.hid dgj
        have HST := Lib.hid (numLoop_step s low high true f j n hd)
        have HBD := Lib.hid (numLoop_bad s low high true f j n hd)
        rw [← hc] at HST HBD
        clear pkj dgj hd hc
        have hc1' : 48 ≤ (c : Int) := by omega
        have hc2' : (c : Int) ≤ 57 := by omega
        by_cases a1 : n < -922337203685477580
        · have HB := Lib.hid (HBD.out (.inl a1))
          clear HST HBD
          go_wp2_with fail
          refine (PKJ.out _ hrj).mono ?_
          rintro e w7 ⟨rfl, n7, rfl⟩
          go_wp2_with fail
          refine (DGJ.out _).mono ?_
          rintro e w8 ⟨rfl, rfl⟩
          go_wp2_with fail
          refine (PKJ.out _ (hrj.drewN _)).mono ?_
          rintro e w9 ⟨rfl, n9, rfl⟩
          go_wp2_with fail
          go_ret
          rw [HS.out, ← hq.out, HB.out]
          exact ⟨ret_int rfl, (HR.out.drewN _).set2 false⟩
        · have a1' : -922337203685477580 ≤ n := by omega
          clear a1
          by_cases a2 : 10 * n < -9223372036854775808 + ((c : Int) - 48)
          · have HB := Lib.hid (HBD.out (.inr (.inl a2)))
            clear HST HBD
            go_wp2_with fail
            refine (PKJ.out _ hrj).mono ?_
            rintro e w7 ⟨rfl, n7, rfl⟩
            go_wp2_with fail
            refine (DGJ.out _).mono ?_
            rintro e w8 ⟨rfl, rfl⟩
            go_wp2_with fail
            refine (PKJ.out _ (hrj.drewN _)).mono ?_
            rintro e w9 ⟨rfl, n9, rfl⟩
            go_wp2_with fail
            go_ret
            rw [HS.out, ← hq.out, HB.out]
            exact ⟨ret_int rfl, (HR.out.drewN _).set2 false⟩
          · have a2' : -9223372036854775808 + ((c : Int) - 48) ≤ 10 * n := by omega
            clear a2
            by_cases a3 : 10 * n - ((c : Int) - 48) < low
            · have HB := Lib.hid (HBD.out (.inr (.inr (.inl ⟨rfl, a3⟩))))
              clear HST HBD
              go_wp2_with fail
              refine (PKJ.out _ hrj).mono ?_
              rintro e w7 ⟨rfl, n7, rfl⟩
              go_wp2_with fail
              refine (DGJ.out _).mono ?_
              rintro e w8 ⟨rfl, rfl⟩
              go_wp2_with fail
              refine (PKJ.out _ (hrj.drewN _)).mono ?_
              rintro e w9 ⟨rfl, n9, rfl⟩
              go_wp2_with fail
              go_ret
              rw [HS.out, ← hq.out, HB.out]
              exact ⟨ret_int rfl, (HR.out.drewN _).set2 false⟩
            · have a3' : low ≤ 10 * n - ((c : Int) - 48) := by omega
              have HB := Lib.hid (HST.out (by simp; omega))
              clear HST HBD a3
              go_wp2_with fail
              refine (PKJ.out _ hrj).mono ?_
              rintro e w7 ⟨rfl, n7, rfl⟩
              go_wp2_with fail
              refine (DGJ.out _).mono ?_
              rintro e w8 ⟨rfl, rfl⟩
              go_wp2_with fail
              refine (PKJ.out _ (hrj.drewN _)).mono ?_
              rintro e w9 ⟨rfl, n9, rfl⟩
              go_wp2_with fail
              go_roundg f
              case measure => omega
              case rel =>
                refine ⟨j + 1, 10 * n - ((c : Int) - 48), ?_, (HR.out.drewN _).set1 (j + 1), by omega, by omega, by omega, ?_⟩
                · congr 1
                · rw [← HB.out]; exact hq.out
end Go.Proofs.YtoemnccklakkeaaDoor
