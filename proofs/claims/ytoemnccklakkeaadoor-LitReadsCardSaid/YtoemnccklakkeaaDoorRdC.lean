/-
  lit's reader: number, where no sign is ahead.
-/
import Derived.Test.YtoemnccklakkeaaDoorRdB
namespace Go.Proofs.YtoemnccklakkeaaDoor
open Go.RowKit Go.Lib

set_option maxRecDepth 100000 in
set_option maxHeartbeats 1000000 in
theorem number_pos (R : Nat) (s : ByteArray) (i : Nat) (low high : Int) (w : World) (h : RdAt w R s i true) (hs : s.size ≤ 1000000000)
    (hh1 : 0 ≤ high) (hh2 : high ≤ 9223372036854775807) (hneg : pk s i ≠ 45) :
    Calls Tryd.prog 59 #[.pointer (some ⟨R, 0, none⟩), .int .i64 low, .int .i64 high] w fun e w' =>
      e = .returned (.int .i64 (numSp s low high i).2.2) ∧ Rds w w' R s (numSp s low high i).1 (numSp s low high i).2.1 := by
  have p1 : ((pk s i).toNat : Int) ≠ 45 := fun e => hneg (UInt8.toNat_inj.1 (by show (pk s i).toNat = 45; omega))
  have k1 : (((pk s i).toNat : Int) == 45) = false := by rw [beq_eq_false_iff_ne]; exact p1
  have pk0 := Lib.hid (fun W hW => peek_c R s i true W hW)
  have h1 := h.c1
  have f1 := h.fr 1
  have h2 := h.c2
  have f2 := h.fr 2
  by_cases hz : pk s i = 48
  · have HS := Lib.hid (show numSp s low high i = (i + 1, true, 0) by unfold numSp; rw [if_neg hneg, if_pos hz])
    have hi : i < s.size := by
      rcases Nat.lt_or_ge i s.size with hi | hi
      · exact hi
      · rw [pk_out s i (by omega)] at hz; cases hz
    have PK1 := Lib.hid (show ∀ W, RdAt W R s i true → Calls Tryd.prog 57 #[.pointer (some ⟨R, 0, none⟩)] W fun e w' => e = .returned (.int .u8 48) ∧ ∃ n, w' = W.drewN n from fun W hW => by
      have := pk0.out W hW
      rw [hz] at this
      exact this)
    clear hz hneg p1 k1 pk0
    go_enter Tryd.func59, Tryd.ntmps59
    go_wp2_with fail
    refine (PK1.out _ h).mono ?_
    rintro e w1 ⟨rfl, n1, rfl⟩
    go_wp2_with fail
    refine (PK1.out _ (h.drewN n1)).mono ?_
    rintro e w2 ⟨rfl, n2, rfl⟩
    go_wp2_with fail
    go_ret
    rw [HS.out]
    exact ⟨ret_int rfl, ((Rds.of h).drewN _).set1 (i + 1)⟩
  have p2 : ((pk s i).toNat : Int) ≠ 48 := fun e => hz (UInt8.toNat_inj.1 (by show (pk s i).toNat = 48; omega))
  have k2 : (((pk s i).toNat : Int) == 48) = false := by rw [beq_eq_false_iff_ne]; exact p2
  have dg := fun W => digit_any (pk s i) _ rfl W
  cases hd : digB (pk s i) with
  | false =>
    have HS := Lib.hid (show numSp s low high i = (i, false, 0) by unfold numSp; rw [if_neg hneg, if_neg hz, if_pos hd])
    rw [hd] at dg
    have DG := Lib.hid dg
    obtain ⟨c0, hc0⟩ : ∃ c : Nat, c = (pk s i).toNat := ⟨_, rfl⟩
    rw [← hc0] at pk0 k1 k2 DG
    clear hz hneg p1 p2 dg hd hc0
    go_enter Tryd.func59, Tryd.ntmps59
    go_wp2_with fail
    refine (pk0.out _ h).mono ?_
    rintro e w1 ⟨rfl, n1, rfl⟩
    go_wp2_with fail
    refine (pk0.out _ (h.drewN n1)).mono ?_
    rintro e w2 ⟨rfl, n2, rfl⟩
    go_wp2_with fail
    refine (pk0.out _ (h.drewN _)).mono ?_
    rintro e w4 ⟨rfl, n4, rfl⟩
    go_wp2_with fail
    refine (DG.out _).mono ?_
    rintro e w5 ⟨rfl, rfl⟩
    go_wp2_with fail
    go_ret
    rw [HS.out]
    exact ⟨ret_int rfl, ((Rds.of h).drewN _).set2 false⟩
  | true =>
    have HS := Lib.hid (show numSp s low high i = negR (numLoop s low high false (s.size + 1) i 0) by
      unfold numSp; rw [if_neg hneg, if_neg hz, if_neg (by rw [hd]; decide)])
    rw [hd] at dg
    have DG := Lib.hid dg
    obtain ⟨c0, hc0⟩ : ∃ c : Nat, c = (pk s i).toNat := ⟨_, rfl⟩
    rw [← hc0] at pk0 k1 k2 DG
    clear hz hneg p1 p2 dg hd hc0 h1 f1 h2 f2
    go_enter Tryd.func59, Tryd.ntmps59
    go_wp2_with fail
    refine (pk0.out _ h).mono ?_
    rintro e w1 ⟨rfl, n1, rfl⟩
    go_wp2_with fail
    refine (pk0.out _ (h.drewN n1)).mono ?_
    rintro e w2 ⟨rfl, n2, rfl⟩
    go_wp2_with fail
    refine (pk0.out _ (h.drewN _)).mono ?_
    rintro e w4 ⟨rfl, n4, rfl⟩
    go_wp2_with fail
    refine (DG.out _).mono ?_
    rintro e w5 ⟨rfl, rfl⟩
    go_wp2_with fail
    refine (pk0.out _ (h.drewN _)).mono ?_
    rintro e w6 ⟨rfl, n6, rfl⟩
    go_wp2_with fail
    obtain ⟨wL, hwL⟩ : ∃ wL, wL = w.drewN (n1 + n2 + n4 + n6) := ⟨_, rfl⟩
    have hL : Rds w wL R s i true := by rw [hwL]; exact (Rds.of h).drewN _
    rw [← hwL]
    have HL := Lib.hid hL
    clear hL hwL
    go_loopg [8] (s.size + 1) (fun k v wr => ∃ (j : Nat) (n : Int), v = .int .i64 n ∧ Rds w wr R s j true ∧ s.size + 1 = j + k - i ∧ -high ≤ n ∧ n ≤ 0 ∧
      Hid (numLoop s low high false k j n = numLoop s low high false (s.size + 1) i 0))
    case atStart => exact ⟨i, 0, rfl, HL.out, by omega, by omega, by omega, rfl⟩
    case round =>
      obtain ⟨j, n, rfl, hr, hk, hn1, hn2, hq⟩ := hrel
      have pkj := fun W hW => peek_c R s j true W hW
      have dgj := fun W => digit_any (pk s j) _ rfl W
      have hrj := hr.at_
      have j1 := hrj.c1
      have jf1 := hrj.fr 1
      have jf2 := hrj.fr 2
      have j2 := hrj.c2
      have HR := Lib.hid hr
      clear hr
      cases hd : digB (pk s j) with
      | false =>
        have hex : numLoop s low high false gk j n = (j, true, n) := by
          cases gk with
          | zero => rfl
          | succ f => exact numLoop_end s low high false f j n hd
        have HEX := Lib.hid hex
        rw [hd] at dgj
        obtain ⟨c, hc⟩ : ∃ c : Nat, c = (pk s j).toNat := ⟨_, rfl⟩
        rw [← hc] at pkj dgj
        have PKJ := Lib.hid pkj
        have DGJ := Lib.hid dgj
        clear pkj dgj hd hc hex
        go_wp2_with fail
        refine (PKJ.out _ hrj).mono ?_
        rintro e w7 ⟨rfl, n7, rfl⟩
        go_wp2_with fail
        refine (DGJ.out _).mono ?_
        rintro e w8 ⟨rfl, rfl⟩
        go_wp2_with fail
        go_ret
        rw [HS.out, ← hq.out, HEX.out]
        exact ⟨ret_int rfl, HR.out.drewN _⟩
      | true =>
        have hj := digB_in hd
        obtain ⟨hc1, hc2⟩ := digB_range hd
        obtain ⟨f, rfl⟩ : ∃ f, gk = f + 1 := ⟨gk - 1, by omega⟩
        rw [hd] at dgj
        obtain ⟨c, hc⟩ : ∃ c : Nat, c = (pk s j).toNat := ⟨_, rfl⟩
        rw [← hc] at pkj dgj hc1 hc2
        have PKJ := Lib.hid pkj
        have DGJ := Lib.hid dgj
        have HST := Lib.hid (numLoop_step s low high false f j n hd)
        have HBD := Lib.hid (numLoop_bad s low high false f j n hd)
        rw [← hc] at HST HBD
        clear pkj dgj hd hc
        have hc1' : 48 ≤ (c : Int) := by omega
        have hc2' : (c : Int) ≤ 57 := by omega
        by_cases a1 : n < -922337203685477580
        · have HB := Lib.hid (HBD.out (.inl a1))
          clear HST HBD
          go_wp2_with fail
          refine (PKJ.out _ hrj).mono ?_
          rintro e w7 ⟨rfl, n7, rfl⟩
          go_wp2_with fail
          refine (DGJ.out _).mono ?_
          rintro e w8 ⟨rfl, rfl⟩
          go_wp2_with fail
          refine (PKJ.out _ (hrj.drewN _)).mono ?_
          rintro e w9 ⟨rfl, n9, rfl⟩
          go_wp2_with fail
          go_ret
          rw [HS.out, ← hq.out, HB.out]
          exact ⟨ret_int rfl, (HR.out.drewN _).set2 false⟩
        · have a1' : -922337203685477580 ≤ n := by omega
          clear a1
          by_cases a2 : 10 * n < -9223372036854775808 + ((c : Int) - 48)
          · have HB := Lib.hid (HBD.out (.inr (.inl a2)))
            clear HST HBD
            go_wp2_with fail
            refine (PKJ.out _ hrj).mono ?_
            rintro e w7 ⟨rfl, n7, rfl⟩
            go_wp2_with fail
            refine (DGJ.out _).mono ?_
            rintro e w8 ⟨rfl, rfl⟩
            go_wp2_with fail
            refine (PKJ.out _ (hrj.drewN _)).mono ?_
            rintro e w9 ⟨rfl, n9, rfl⟩
            go_wp2_with fail
            go_ret
            rw [HS.out, ← hq.out, HB.out]
            exact ⟨ret_int rfl, (HR.out.drewN _).set2 false⟩
          · have a2' : -9223372036854775808 + ((c : Int) - 48) ≤ 10 * n := by omega
            clear a2
            by_cases a3 : 10 * n - ((c : Int) - 48) < -high
            · have HB := Lib.hid (HBD.out (.inr (.inr (.inr ⟨rfl, a3⟩))))
              clear HST HBD
              go_wp2_with fail
              refine (PKJ.out _ hrj).mono ?_
              rintro e w7 ⟨rfl, n7, rfl⟩
              go_wp2_with fail
              refine (DGJ.out _).mono ?_
              rintro e w8 ⟨rfl, rfl⟩
              go_wp2_with fail
              refine (PKJ.out _ (hrj.drewN _)).mono ?_
              rintro e w9 ⟨rfl, n9, rfl⟩
              go_wp2_with fail
              go_ret
              rw [HS.out, ← hq.out, HB.out]
              exact ⟨ret_int rfl, (HR.out.drewN _).set2 false⟩
            · have a3' : -high ≤ 10 * n - ((c : Int) - 48) := by omega
              have HB := Lib.hid (HST.out (by simp; omega))
              clear HST HBD a3
              go_wp2_with fail
              refine (PKJ.out _ hrj).mono ?_
              rintro e w7 ⟨rfl, n7, rfl⟩
              go_wp2_with fail
              refine (DGJ.out _).mono ?_
              rintro e w8 ⟨rfl, rfl⟩
              go_wp2_with fail
              refine (PKJ.out _ (hrj.drewN _)).mono ?_
              rintro e w9 ⟨rfl, n9, rfl⟩
              go_wp2_with fail
              go_roundg f
              case measure => omega
              case rel =>
                refine ⟨j + 1, 10 * n - ((c : Int) - 48), ?_, (HR.out.drewN _).set1 (j + 1), by omega, by omega, by omega, ?_⟩
                · congr 1
                · rw [← HB.out]; exact hq.out

theorem number_c (R : Nat) (s : ByteArray) (i : Nat) (low high : Int) (w : World) (h : RdAt w R s i true) (hs : s.size ≤ 1000000000)
    (hl1 : -9223372036854775808 ≤ low) (hl2 : low ≤ 0) (hh1 : 0 ≤ high) (hh2 : high ≤ 9223372036854775807) :
    Calls Tryd.prog 59 #[.pointer (some ⟨R, 0, none⟩), .int .i64 low, .int .i64 high] w fun e w' =>
      e = .returned (.int .i64 (numSp s low high i).2.2) ∧ Rds w w' R s (numSp s low high i).1 (numSp s low high i).2.1 := by
  by_cases hn : pk s i = 45
  · exact number_neg R s i low high w h hs hl1 hl2 hn
  · exact number_pos R s i low high w h hs hh1 hh2 hn
end Go.Proofs.YtoemnccklakkeaaDoor
