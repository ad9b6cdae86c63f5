/- Contracts of the functions that the statement reaches, and the plain mathematics beneath: several texts joined. -/
import Derived.Deep.RegionHeld3
import Derived.Test.YtggngahmafbihaaGreatDoorPbiAI
import Derived.Test.YtggngahmafbihaaGreatDoorPbiAF
import Derived.Test.YtggngahmafbihaaGreatDoorPbiAD
import Derived.Test.YtggngahmafbihaaGreatDoorPbiAG
namespace Go.Proofs.YtggngahmafbihaaGreatDoor
open Go.RowKit Go.Lib
set_option linter.unusedVariables false

theorem rp_at {w : World} {l : VL} {A : Option Addr} {S : Nat → Prop} {i : Nat} (h : RpL w S l A) (hi : i < l.len) : ∃ (b o : Nat) (k n : Int) (s : ByteArray) (sub : VL) (sa : Option Addr) (sc : Nat), A = some ⟨b, o, none⟩ ∧ l.drop i = .cons k n s sub (l.drop (i + 1)) ∧ S b ∧
    w.cell? ⟨b, o + i * 4, none⟩ = some (.int .i64 k) ∧ w.cell? ⟨b, o + i * 4 + 1, none⟩ = some (.int .i64 n) ∧ w.cell? ⟨b, o + i * 4 + 2, none⟩ = some (.string s) ∧ w.cell? ⟨b, o + i * 4 + 3, none⟩ = some (.slice sa sub.len sc) ∧ sub.len ≤ sc ∧ RpL w S sub sa ∧ sub.size < l.size := by
  obtain ⟨k, n, s, sub, hd⟩ := VL.drop_of_lt i l hi
  obtain ⟨b, o, hA⟩ : ∃ b o, A = some ⟨b, o, none⟩ := by
    cases l with
    | nil => simp [VL.len] at hi
    | cons _ _ _ _ _ => obtain ⟨b, o, _, _, h, _⟩ := h; exact ⟨b, o, h⟩
  subst hA
  have hdr := RpL.drop i l b o h
  rw [hd] at hdr
  obtain ⟨b', o', sa', sc', hA, hSb, c0, c1, c2, c3, hcl, hrs, _⟩ := hdr
  injection hA with hA
  injection hA with hA1 hA2
  subst hA1
  subst hA2
  have hszd := VL.size_drop i l
  rw [hd] at hszd
  simp only [VL.size] at hszd
  rw [Nat.mul_comm 4 i] at c0 c1 c2 c3
  exact ⟨b, o, k, n, s, sub, sa', sc', rfl, hd, hSb, c0, c1, c2, c3, hcl, hrs, by omega⟩

set_option maxRecDepth 100000 in
set_option maxHeartbeats 4000000 in
theorem sames_step (N : Nat) (ih : ∀ N', N' < N → SamesC N') : SamesC N := by
  intro la lb sa sb ca cb w hN hl1 hl2 hf1 hf2 hc1 hc2 hr1 hr2
  by_cases hlen : la.len = lb.len
  · have hle : ((la.len : Int) != (lb.len : Int)) = false := by simp; omega
    have R1 := Lib.hid hr1
    have R2 := Lib.hid hr2
    have HL := Lib.hid hlen
    clear hr1 hr2 hlen
    go_enter Tryz.func62, Tryz.ntmps62
    go_wp2_with fail
    go_loopg [5] la.len (fun kk v wr => ∃ i : Nat, v = .int .i64 i ∧ i + kk = la.len ∧ Hid (Below w.heap.size w wr) ∧ Hid (sameL (la.drop i) (lb.drop i) = sameL la lb))
    case atStart => exact ⟨0, rfl, by omega, Below.refl _ _, by show sameL (la.drop 0) (lb.drop 0) = _; rw [VL.drop, VL.drop]⟩
    case round =>
      obtain ⟨i, rfl, hik, hbr, hsm⟩ := hrel
      by_cases hi : i < la.len
      · obtain ⟨g, rfl⟩ : ∃ g, gk = g + 1 := ⟨gk - 1, by omega⟩
        have hi2 : i < lb.len := by have := HL.out; omega
        have hz := hbr.out.size
        obtain ⟨b, o, k1, n1, s1, x1, xa1, xc1, hA1, hd1, hSb1, c0, c1, c2, c3, hcl1, hrs1, hsz1⟩ := rp_at (R1.out.keep (w' := wr) (fun b hb => hbr.out.block b hb) (fun b hb => hb)) hi
        obtain ⟨b', o', k2, n2, s2, x2, xa2, xc2, hA2, hd2, hSb2, e0, e1, e2, e3, hcl2, hrs2, hsz2⟩ := rp_at (R2.out.keep (w' := wr) (fun b hb => hbr.out.block b hb) (fun b hb => hb)) hi2
        have hfd1 := VL.fit_drop i la hf1
        rw [hd1] at hfd1
        have hfd2 := VL.fit_drop i lb hf2
        rw [hd2] at hfd2
        have SV := Lib.hid (sameV_of k1 n1 s1 x1 xa1 xc1 k2 n2 s2 x2 xa2 xc2 wr.drew (ih _ (by omega)) ⟨hfd1.1, hfd1.2.1, hfd1.2.2.1, trivial⟩ ⟨hfd2.1, hfd2.2.1, hfd2.2.2.1, trivial⟩ hcl1 hcl2 (RpL.keep (w := wr) (w' := wr.drew) (S := fun b => b < w.heap.size) (S' := fun b => b < wr.drew.heap.size) (fun b hb => rfl) (fun b hb => Nat.lt_of_lt_of_le hb hz) _ _ hrs1) (RpL.keep (w := wr) (w' := wr.drew) (S := fun b => b < w.heap.size) (S' := fun b => b < wr.drew.heap.size) (fun b hb => rfl) (fun b hb => Nat.lt_of_lt_of_le hb hz) _ _ hrs2))
        have HD := Lib.hid (sameL_drop hd1 hd2)
        have HA1 := Lib.hid hA1
        have HA2 := Lib.hid hA2
        subst hA1
        subst hA2
        obtain ⟨q, hq⟩ : ∃ q, q = same1 k1 n1 s1 x1 k2 n2 s2 x2 := ⟨_, rfl⟩
        rw [← hq] at SV HD
        have d0 : wr.drew.cell? ⟨b, o + i * 4, none⟩ = _ := c0
        have d1 : wr.drew.cell? ⟨b, o + i * 4 + 1, none⟩ = _ := c1
        have d2 : wr.drew.cell? ⟨b, o + i * 4 + 2, none⟩ = _ := c2
        have d3 : wr.drew.cell? ⟨b, o + i * 4 + 3, none⟩ = _ := c3
        have f0 : wr.drew.cell? ⟨b', o' + i * 4, none⟩ = _ := e0
        have f1 : wr.drew.cell? ⟨b', o' + i * 4 + 1, none⟩ = _ := e1
        have f2 : wr.drew.cell? ⟨b', o' + i * 4 + 2, none⟩ = _ := e2
        have f3 : wr.drew.cell? ⟨b', o' + i * 4 + 3, none⟩ = _ := e3
        clear hq hd1 hd2 hrs1 hrs2 hfd1 hfd2
        go_wp2_with fail
        go_still_tail 8, (by kernel_rfl)
        change wpList _ _ _ _ _ wr.drew
        go_wp2_with fail
        refine SV.out.mono ?_
        rintro e w5 ⟨rfl, hb5⟩
        have HB5 := Lib.hid (show Below w.heap.size w w5 from (hbr.out.drew).trans (below_le' hb5 hz))
        clear hb5 c0 c1 c2 c3 e0 e1 e2 e3 d0 d1 d2 d3 f0 f1 f2 f3
        cases q with
        | true =>
          go_wp2_with fail
          go_roundg g
          case measure => omega
          case rel => exact ⟨i + 1, by go_num, by omega, HB5, by show sameL _ _ = _; rw [← hsm.out, HD.out, Bool.true_and]⟩
        | false =>
          go_wp2_with fail
          go_ret
          exact ⟨ret_bool (by rw [← hsm.out, HD.out, Bool.false_and]), HB5.out⟩
      · obtain rfl : i = la.len := by omega
        have HF := Lib.hid (show sameL la lb = true by rw [← hsm.out, VL.drop_len, HL.out, VL.drop_len]; rfl)
        go_wp2_with fail
        go_ret
        exact ⟨ret_bool HF.out.symm, hbr.out⟩
  · have hle : ((la.len : Int) != (lb.len : Int)) = true := by simp; omega
    have HF := Lib.hid (sameL_len la lb hlen)
    clear hlen hr1 hr2
    go_enter Tryz.func62, Tryz.ntmps62
    go_wp2_with fail
    go_ret
    exact ⟨ret_bool HF.out.symm, Below.refl _ _⟩

theorem sames_c (N : Nat) : SamesC N := by
  induction N using Nat.strongRecOn with
  | _ N ih => exact sames_step N ih
/-- SameValue, for any two values. -/
theorem sameV_c (k n : Int) (s : ByteArray) (a : VL) (sa : Option Addr) (ca : Nat) (k' n' : Int) (s' : ByteArray) (a' : VL) (sa' : Option Addr) (ca' : Nat) (w : World)
    (hf : (val1 k n s a).fit) (hf' : (val1 k' n' s' a').fit) (hc : a.len ≤ ca) (hc' : a'.len ≤ ca') (hr : RpL w (fun b => b < w.heap.size) a sa) (hr' : RpL w (fun b => b < w.heap.size) a' sa') :
    Calls Tryz.prog 29 #[.agg #[.int .i64 k, .int .i64 n, .string s, .slice sa a.len ca], .agg #[.int .i64 k', .int .i64 n', .string s', .slice sa' a'.len ca']] w fun e w' => e = .returned (.bool (same1 k n s a k' n' s' a')) ∧ Below w.heap.size w w' :=
  sameV_of k n s a sa ca k' n' s' a' sa' ca' w (sames_c _) hf hf' hc hc' hr hr'
end Go.Proofs.YtggngahmafbihaaGreatDoor
namespace Go.Proofs.YtggngahmafbihaaGreatDoor
open Go.RowKit Go.Lib
set_option linter.unusedVariables false

/-- A row of values of the call's own. -/
structure CInv (base : Nat) (w0 wr : World) (V : Value) (acc : VL) (xs : List Value) : Prop where
  own : wr.ownsRow base 28 4 V acc.len xs
  cells : CellsOf wr (fun b => base ≤ b ∧ b < wr.heap.size ∧ V.ownBlock ≠ some b) acc xs
  below : Below base w0 wr
  size : base ≤ wr.heap.size
theorem CInv.nil (w : World) : CInv w.heap.size w w (.slice none 0 0) .nil [] := ⟨World.ownsRow_nil _ _ _ _, rfl, Below.refl _ _, Nat.le_refl _⟩
theorem CInv.move {base : Nat} {w0 wr w' : World} {V : Value} {acc : VL} {xs : List Value} (h : CInv base w0 wr V acc xs) (hb : Below wr.heap.size wr w') : CInv base w0 w' V acc xs :=
  ⟨own_below h.own hb, h.cells.keep (fun b hb' => hb.block b hb'.2.1) (fun b hb' => ⟨hb'.1, Nat.lt_of_lt_of_le hb'.2.1 hb.size, hb'.2.2⟩), h.below.trans (below_le' hb h.size), Nat.le_trans h.size hb.size⟩
theorem CInv.step {base : Nat} {w0 wr w3 w5 : World} {V V' : Value} {acc : VL} {xs : List Value} (h : CInv base w0 wr V acc xs) (hb : Below wr.heap.size wr w3)
    {k n : Int} {t : ByteArray} {sub : VL} {sa : Option Addr} {sc : Nat} (hsc : sub.len ≤ sc) (hrep : RpL w3 (fun b => wr.heap.size ≤ b ∧ b < w3.heap.size) sub sa) {o1 : Obj}
    (hown : w5.ownsRow base 28 4 V' (acc.len + 1) (xs ++ [.int .i64 k, .int .i64 n, .string t, .slice sa sub.len sc])) (hg : (w3.alloc o1).grownBy w5 V.ownBlock)
    (hob : V'.ownBlock = V.ownBlock ∨ V'.ownBlock = some (w3.alloc o1).heap.size) :
    CInv base w0 w5 V' (acc.app (val1 k n t sub)) (xs ++ [.int .i64 k, .int .i64 n, .string t, .slice sa sub.len sc]) := by
  have h3 := h.move hb
  have hVg : ∀ g, V.ownBlock = some g → base ≤ g ∧ g < wr.heap.size := fun g hg => ⟨own_ge h.own g hg, own_lt h.own g hg⟩
  have hsz : (w3.alloc o1).heap.size = w3.heap.size + 1 := by simp
  have hz5 : w3.heap.size + 1 ≤ w5.heap.size := by have := hg.size; omega
  have hz3 := hb.size
  have hz0 := h.size
  have blk : ∀ b, b < w3.heap.size → V.ownBlock ≠ some b → w5.heap[b]? = w3.heap[b]? := fun b hb hne => by
    have h1 := hg.block b (by omega) (fun e => hne e.symm)
    rw [h1, Below.heap_alloc _ _ _ hb]
  have hV'b : ∀ b, b < w3.heap.size → V.ownBlock ≠ some b → V'.ownBlock ≠ some b := fun b hb hne e => by
    rcases hob with e2 | e2
    · exact hne (e2.symm.trans e)
    · rw [e] at e2
      injection e2 with e2
      omega
  refine ⟨by rw [VL.len_app]; exact hown, ?_, ?_, by omega⟩
  · refine CellsOf.app _ _ _ _ ?_ ⟨sa, sc, [], rfl, hsc, ?_, rfl⟩
    · exact h3.cells.keep (fun b hb => blk b hb.2.1 hb.2.2) (fun b hb => ⟨hb.1, by have := hb.2.1; omega, hV'b b hb.2.1 hb.2.2⟩)
    · have hne : ∀ b, wr.heap.size ≤ b → V.ownBlock ≠ some b := fun b hb e => by have := (hVg b e).2; omega
      exact hrep.keep (fun b hb => blk b hb.2 (hne b hb.1)) (fun b hb => ⟨by have := hb.1; omega, by have := hb.2; omega, hV'b b hb.2 (hne b hb.1)⟩)
  · exact grown_below (h3.below.alloc h3.size o1) (by simp; omega) hg (fun k hk => (hVg k hk).1)
/-- What the row reads as. -/
theorem CInv.rep {base : Nat} {w0 wr : World} {V : Value} {acc : VL} {xs : List Value} (h : CInv base w0 wr V acc xs) : ∃ (sa : Option Addr) (sc : Nat), V = .slice sa acc.len sc ∧ acc.len ≤ sc ∧ RpL wr (fun b => base ≤ b ∧ b < wr.heap.size) acc sa :=
  own_rep h.own (h.cells.keep (fun _ _ => rfl) (fun b hb => ⟨hb.1, hb.2.1⟩)) (fun g hg => ⟨own_ge h.own g hg, own_lt h.own g hg⟩)

end Go.Proofs.YtggngahmafbihaaGreatDoor
namespace Go.Proofs.YtggngahmafbihaaGreatDoor
open Go.RowKit Go.Lib
set_option linter.unusedVariables false

end Go.Proofs.YtggngahmafbihaaGreatDoor
namespace Go.Proofs.YtggngahmafbihaaGreatDoor
open Go.RowKit Go.Lib
set_option linter.unusedVariables false

theorem cell_below {w W : World} (hb : Below w.heap.size w W) {p : Addr} {v : Value} (h : w.cell? p = some v) : W.cell? p = some v := by
  have hlt : p.block < w.heap.size := by
    unfold World.cell? at h
    rcases Nat.lt_or_ge p.block w.heap.size with hlt | hge
    · exact hlt
    · rw [Array.getElem?_eq_none hge] at h; cases h
  exact (World.cell?_of_block (w := w) (hb.block _ hlt)).trans h

end Go.Proofs.YtggngahmafbihaaGreatDoor
namespace Go.Proofs.YtggngahmafbihaaGreatDoor
open Go.RowKit Go.Lib
set_option linter.unusedVariables false

end Go.Proofs.YtggngahmafbihaaGreatDoor
namespace Go.Proofs.YtggngahmafbihaaGreatDoor
open Go.RowKit Go.Lib
set_option linter.unusedVariables false

/-- A number below another one. -/
def PNum (b : Nat) (w : World) (e : Ending) (w' : World) : Prop := ∃ r : Nat, r < b ∧ e = .returned (.int .i64 r) ∧ w = w'
set_option maxHeartbeats 1000000 in
theorem wnumber_c (n : Int) (b : Nat) (w : World) (hn0 : -9223372036854775808 ≤ n) (hn1 : n ≤ 9223372036854775807) (hb0 : 0 < b) (hb1 : b ≤ 1000000) :
    Calls Tryz.prog 10 #[.int .i64 n, .int .i64 b] w (PNum b w) := by
  have ht1 : Int.tmod n b < b := Int.tmod_lt_of_pos n (by omega)
  have ht0 : -(b : Int) < Int.tmod n b := by
    by_cases h : 0 ≤ n
    · have := Int.tmod_nonneg (b : Int) h; omega
    · have h1 := Int.tmod_lt_of_pos (-n) (show (0 : Int) < (b : Int) by omega)
      rw [Int.neg_tmod] at h1; omega
  have hbz : ((b : Int) == 0) = false := (bne_of (by omega)).2
  by_cases hneg : Int.tmod n b < 0
  · have hd : decide (Int.tmod n b < 0) = true := decide_eq_true hneg
    go_enter Tryz.func10, Tryz.ntmps10
    go_wp2_with fail
    go_ret
    exact ⟨(Int.tmod n b + b).toNat, by omega, ret_int (by omega), rfl⟩
  · have hd : decide (Int.tmod n b < 0) = false := decide_eq_false hneg
    go_enter Tryz.func10, Tryz.ntmps10
    go_wp2_with fail
    go_ret
    exact ⟨(Int.tmod n b).toNat, by omega, ret_int (by omega), rfl⟩
end Go.Proofs.YtggngahmafbihaaGreatDoor
