/-
  The reference's SameValues: the walk.
-/
import Derived.Test.YtoemnccklakkeaaDoorSmB
import Derived.Test.YtoemnccklakkeaaDoorTxT
namespace Go.Proofs.YtoemnccklakkeaaDoor
open Go.RowKit Go.Lib
set_option linter.unusedVariables false

theorem rp_at {w : World} {l : VL} {A : Option Addr} {S : Nat → Prop} {i : Nat} (h : RpL w S l A) (hi : i < l.len) : ∃ (b o : Nat) (k n : Int) (s : ByteArray) (sub : VL) (sa : Option Addr) (sc : Nat), A = some ⟨b, o, none⟩ ∧ l.drop i = .cons k n s sub (l.drop (i + 1)) ∧ S b ∧
    w.cell? ⟨b, o + i * 4, none⟩ = some (.int .i64 k) ∧ w.cell? ⟨b, o + i * 4 + 1, none⟩ = some (.int .i64 n) ∧ w.cell? ⟨b, o + i * 4 + 2, none⟩ = some (.string s) ∧ w.cell? ⟨b, o + i * 4 + 3, none⟩ = some (.slice sa sub.len sc) ∧ sub.len ≤ sc ∧ RpL w S sub sa ∧ sub.size < l.size := by
  obtain ⟨k, n, s, sub, hd⟩ := VL.drop_of_lt i l hi
  obtain ⟨b, o, hA⟩ : ∃ b o, A = some ⟨b, o, none⟩ := by
    cases l with
    | nil => simp [VL.len] at hi
    | cons _ _ _ _ _ => obtain ⟨b, o, _, _, h, _⟩ := h; exact ⟨b, o, h⟩
  subst hA
  have hdr := RpL.drop i l b o h
  rw [hd] at hdr
  obtain ⟨b', o', sa', sc', hA, hSb, c0, c1, c2, c3, hcl, hrs, _⟩ := hdr
  injection hA with hA
  injection hA with hA1 hA2
  subst hA1
  subst hA2
  have hszd := VL.size_drop i l
  rw [hd] at hszd
  simp only [VL.size] at hszd
  rw [Nat.mul_comm 4 i] at c0 c1 c2 c3
  exact ⟨b, o, k, n, s, sub, sa', sc', rfl, hd, hSb, c0, c1, c2, c3, hcl, hrs, by omega⟩

set_option maxRecDepth 100000 in
set_option maxHeartbeats 4000000 in
theorem sames_step (N : Nat) (ih : ∀ N', N' < N → SamesC N') : SamesC N := by
  intro la lb sa sb ca cb w hN hl1 hl2 hf1 hf2 hc1 hc2 hr1 hr2
  by_cases hlen : la.len = lb.len
  · have hle : ((la.len : Int) != (lb.len : Int)) = false := by simp; omega
    have R1 := Lib.hid hr1
    have R2 := Lib.hid hr2
    have HL := Lib.hid hlen
    clear hr1 hr2 hlen
    go_enter Tryd.func47, Tryd.ntmps47
    go_wp2_with fail
    go_loopg [5] la.len (fun kk v wr => ∃ i : Nat, v = .int .i64 i ∧ i + kk = la.len ∧ Hid (Below w.heap.size w wr) ∧ Hid (sameL (la.drop i) (lb.drop i) = sameL la lb))
    case atStart => exact ⟨0, rfl, by omega, Below.refl _ _, by show sameL (la.drop 0) (lb.drop 0) = _; rw [VL.drop, VL.drop]⟩
    case round =>
      obtain ⟨i, rfl, hik, hbr, hsm⟩ := hrel
      by_cases hi : i < la.len
      · obtain ⟨g, rfl⟩ : ∃ g, gk = g + 1 := ⟨gk - 1, by omega⟩
        have hi2 : i < lb.len := by have := HL.out; omega
        have hz := hbr.out.size
        obtain ⟨b, o, k1, n1, s1, x1, xa1, xc1, hA1, hd1, hSb1, c0, c1, c2, c3, hcl1, hrs1, hsz1⟩ := rp_at (R1.out.keep (w' := wr) (fun b hb => hbr.out.block b hb) (fun b hb => hb)) hi
        obtain ⟨b', o', k2, n2, s2, x2, xa2, xc2, hA2, hd2, hSb2, e0, e1, e2, e3, hcl2, hrs2, hsz2⟩ := rp_at (R2.out.keep (w' := wr) (fun b hb => hbr.out.block b hb) (fun b hb => hb)) hi2
        have hfd1 := VL.fit_drop i la hf1
        rw [hd1] at hfd1
        have hfd2 := VL.fit_drop i lb hf2
        rw [hd2] at hfd2
        have SV := Lib.hid (sameV_of k1 n1 s1 x1 xa1 xc1 k2 n2 s2 x2 xa2 xc2 wr.drew (ih _ (by omega)) ⟨hfd1.1, hfd1.2.1, hfd1.2.2.1, trivial⟩ ⟨hfd2.1, hfd2.2.1, hfd2.2.2.1, trivial⟩ hcl1 hcl2 (RpL.keep (w := wr) (w' := wr.drew) (S := fun b => b < w.heap.size) (S' := fun b => b < wr.drew.heap.size) (fun b hb => rfl) (fun b hb => Nat.lt_of_lt_of_le hb hz) _ _ hrs1) (RpL.keep (w := wr) (w' := wr.drew) (S := fun b => b < w.heap.size) (S' := fun b => b < wr.drew.heap.size) (fun b hb => rfl) (fun b hb => Nat.lt_of_lt_of_le hb hz) _ _ hrs2))
        have HD := Lib.hid (sameL_drop hd1 hd2)
        have HA1 := Lib.hid hA1
        have HA2 := Lib.hid hA2
        subst hA1
        subst hA2
        obtain ⟨q, hq⟩ : ∃ q, q = same1 k1 n1 s1 x1 k2 n2 s2 x2 := ⟨_, rfl⟩
        rw [← hq] at SV HD
        have d0 : wr.drew.cell? ⟨b, o + i * 4, none⟩ = _ := c0
        have d1 : wr.drew.cell? ⟨b, o + i * 4 + 1, none⟩ = _ := c1
        have d2 : wr.drew.cell? ⟨b, o + i * 4 + 2, none⟩ = _ := c2
        have d3 : wr.drew.cell? ⟨b, o + i * 4 + 3, none⟩ = _ := c3
        have f0 : wr.drew.cell? ⟨b', o' + i * 4, none⟩ = _ := e0
        have f1 : wr.drew.cell? ⟨b', o' + i * 4 + 1, none⟩ = _ := e1
        have f2 : wr.drew.cell? ⟨b', o' + i * 4 + 2, none⟩ = _ := e2
        have f3 : wr.drew.cell? ⟨b', o' + i * 4 + 3, none⟩ = _ := e3
        clear hq hd1 hd2 hrs1 hrs2 hfd1 hfd2
        go_wp2_with fail
        go_still_tail 8, (by kernel_rfl)
        change wpList _ _ _ _ _ wr.drew
        go_wp2_with fail
        refine SV.out.mono ?_
        rintro e w5 ⟨rfl, hb5⟩
        have HB5 := Lib.hid (show Below w.heap.size w w5 from (hbr.out.drew).trans (below_le' hb5 hz))
        clear hb5 c0 c1 c2 c3 e0 e1 e2 e3 d0 d1 d2 d3 f0 f1 f2 f3
        cases q with
        | true =>
          go_wp2_with fail
          go_roundg g
          case measure => omega
          case rel => exact ⟨i + 1, by go_num, by omega, HB5, by show sameL _ _ = _; rw [← hsm.out, HD.out, Bool.true_and]⟩
        | false =>
          go_wp2_with fail
          go_ret
          exact ⟨ret_bool (by rw [← hsm.out, HD.out, Bool.false_and]), HB5.out⟩
      · obtain rfl : i = la.len := by omega
        have HF := Lib.hid (show sameL la lb = true by rw [← hsm.out, VL.drop_len, HL.out, VL.drop_len]; rfl)
        go_wp2_with fail
        go_ret
        exact ⟨ret_bool HF.out.symm, hbr.out⟩
  · have hle : ((la.len : Int) != (lb.len : Int)) = true := by simp; omega
    have HF := Lib.hid (sameL_len la lb hlen)
    clear hlen hr1 hr2
    go_enter Tryd.func47, Tryd.ntmps47
    go_wp2_with fail
    go_ret
    exact ⟨ret_bool HF.out.symm, Below.refl _ _⟩

theorem sames_c (N : Nat) : SamesC N := by
  induction N using Nat.strongRecOn with
  | _ N ih => exact sames_step N ih
/-- SameValue, for any two values. -/
theorem sameV_c (k n : Int) (s : ByteArray) (a : VL) (sa : Option Addr) (ca : Nat) (k' n' : Int) (s' : ByteArray) (a' : VL) (sa' : Option Addr) (ca' : Nat) (w : World)
    (hf : (val1 k n s a).fit) (hf' : (val1 k' n' s' a').fit) (hc : a.len ≤ ca) (hc' : a'.len ≤ ca') (hr : RpL w (fun b => b < w.heap.size) a sa) (hr' : RpL w (fun b => b < w.heap.size) a' sa') :
    Calls Tryd.prog 20 #[.agg #[.int .i64 k, .int .i64 n, .string s, .slice sa a.len ca], .agg #[.int .i64 k', .int .i64 n', .string s', .slice sa' a'.len ca']] w fun e w' => e = .returned (.bool (same1 k n s a k' n' s' a')) ∧ Below w.heap.size w w' :=
  sameV_of k n s a sa ca k' n' s' a' sa' ca' w (sames_c _) hf hf' hc hc' hr hr'
end Go.Proofs.YtoemnccklakkeaaDoor
