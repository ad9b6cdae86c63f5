/- Contracts of the functions that the statement reaches, and the plain mathematics beneath: several texts joined. -/
import Derived.Deep.RegionLaw
import Derived.Deep.AppendLies
import Derived.Shelf.GgClosure.Gives
import Derived.StillTailTactics
import Derived.Test.YtbalpfpcbckghaaGreatDoorFtxAD
import Derived.Test.YtbalpfpcbckghaaGreatDoorFtxAA
namespace Go.Proofs.YtbalpfpcbckghaaGreatDoor
open Go.RowKit Go.Lib
set_option linter.unusedVariables false

section
variable {w w' : World} {R : Nat} {s : ByteArray} {i : Nat} {line : Int} {v : Value}
end

end Go.Proofs.YtbalpfpcbckghaaGreatDoor
namespace Go.Proofs.YtbalpfpcbckghaaGreatDoor
open Go.RowKit Go.Lib
set_option linter.unusedVariables false

/-- The variable of the strings' search. -/
def MaxAt (w : World) : Prop := ∃ m : Int, w.cell? ⟨4, 0, none⟩ = some (.int .i64 m)
theorem MaxAt.below {w w' : World} {B : Nat} (h : MaxAt w) (hb : Below B w w') (hB : 14 ≤ B) : MaxAt w' := by
  obtain ⟨m, hm⟩ := h
  exact ⟨m, (World.cell?_of_block (w := w) (hb.block _ (Nat.lt_of_lt_of_le (by decide) hB))).trans hm⟩
/-- What a value's text asks of the world. -/
structure TxAt (w : World) : Prop where
  tab : TabIs Tryz.prog w "internal/strconv.uint64pow10" .u64 pow10Tab
  room : 14 < w.heap.size
  mx : MaxAt w
theorem TxAt.below {w w' : World} {B : Nat} (h : TxAt w) (hb : Below B w w') (hB : w.heap.size ≤ B) : TxAt w' :=
  ⟨Joins.tab_stays (g := 7) rfl h.tab hb hB, by have := hb.size; have := h.room; omega, h.mx.below hb (by have := h.room; omega)⟩
theorem countB_sz (s old : ByteArray) (h : old.size = 1) : countB s old ≤ s.size := by
  have := countB_mul_le old (by omega) s.size s (Nat.le_refl _)
  rw [h] at this; omega

set_option maxHeartbeats 1000000 in
theorem quote_c (s : ByteArray) (w : World) (hs : s.size ≤ 1000000) (hr : 14 < w.heap.size) (hm : MaxAt w) :
    Calls Tryz.prog 147 #[.string s] w fun e w' => e = .returned (.string ⟨(quoL s.data.toList).toArray⟩) ∧ Below w.heap.size w w' := by
  obtain ⟨m, hmc⟩ := hm
  have hlen : s.data.toList.length = s.size := by rw [Array.length_toList]; rfl
  obtain ⟨t, ht⟩ : ∃ t : ByteArray, t = ⟨(repL 92 [92, 92] s.data.toList).toArray⟩ := ⟨_, rfl⟩
  have htl : t.data.toList = repL 92 [92, 92] s.data.toList := by rw [ht]
  have hts : t.size ≤ 2000000 := by
    have h1 : t.size = t.data.toList.length := by rw [Array.length_toList]; rfl
    have := rep92_len s.data.toList
    rw [h1, htl]; omega
  have A1 := Tryz.strings_ReplaceAll s ⟨#[92]⟩ ⟨#[92, 92]⟩ m w (by omega) hmc (by decide) (by
    have := countB_sz s ⟨#[92]⟩ rfl
    have : (⟨#[92, 92]⟩ : ByteArray).size = 2 := rfl
    rw [this]; omega)
  rw [show (⟨#[92]⟩ : ByteArray).data.toList = [92] from rfl, show (⟨#[92, 92]⟩ : ByteArray).data.toList = [92, 92] from rfl, replaceAll_one 92 [92, 92] _ (by decide), ← ht] at A1
  obtain ⟨u, hu⟩ : ∃ u : ByteArray, u = ⟨(escL s.data.toList).toArray⟩ := ⟨_, rfl⟩
  have A2 := fun W (hW : W.cell? ⟨4, 0, none⟩ = some (.int .i64 m)) => Tryz.strings_ReplaceAll t ⟨#[34]⟩ ⟨#[92, 34]⟩ m W (by omega) hW (by decide) (by
    have := countB_sz t ⟨#[34]⟩ rfl
    have : (⟨#[92, 34]⟩ : ByteArray).size = 2 := rfl
    rw [this]; omega)
  simp only [replaceAll_one 34 [92, 34] _ (show ([92, 34] : List UInt8) ≠ [34] by decide), htl, esc_rep, ← hu] at A2
  have HQ := Lib.hid (show (⟨(quoL s.data.toList).toArray⟩ : ByteArray) = ⟨#[34]⟩ ++ u ++ ⟨#[34]⟩ by
    rw [hu]; apply ByteArray.ext; simp [quoL])
  have hus : u.size ≤ 2000000 := by
    have h1 : u.size = u.data.toList.length := by rw [Array.length_toList]; rfl
    have h2 := escL_len s.data.toList
    rw [h1, hu]; simp only; omega
  rw [HQ.out]
  have H1 := Lib.hid A1
  have H2 := Lib.hid A2
  have HM := Lib.hid hmc
  clear A1 A2 hmc ht htl hu HQ
  go_enter Tryz.func147, Tryz.ntmps147
  go_wp2_with fail
  refine H1.out.mono ?_
  rintro e w2 ⟨rfl, hb2⟩
  have HB2 := Lib.hid hb2
  clear hb2
  go_wp2_with fail
  refine (H2.out _ ((World.cell?_of_block (w := w) (HB2.out.block _ (Nat.lt_trans (by decide) hr))).trans HM.out)).mono ?_
  rintro e w3 ⟨rfl, hb3⟩
  have HB3 := Lib.hid (HB2.out.trans (below_le' hb3 HB2.out.size))
  clear hb3
  go_wp2_with fail
  go_ret
  exact ⟨rfl, HB3.out⟩

theorem str_info : (Tryz.prog.info? 9).map (fun i => (i.zero, i.size, i.bytes)) = some (some (.string ⟨#[]⟩), 1, 16) := by kernel_rfl
def strs (l : List (List UInt8)) : List Value := l.map fun x => Value.string ⟨x.toArray⟩
theorem strs_snoc {W : World} {base : Nat} {v : Value} {l : List (List UInt8)} {y : List UInt8} (h : W.ownsRow base 9 1 v (l.length + 1) (strs l ++ [.string ⟨y.toArray⟩])) : W.ownsRow base 9 1 v (l ++ [y]).length (strs (l ++ [y])) := by
  have e1 : (l ++ [y]).length = l.length + 1 := by simp
  have e2 : strs (l ++ [y]) = strs l ++ [.string ⟨y.toArray⟩] := by simp [strs]
  rw [e1, e2]; exact h
theorem own_below {W W' : World} {base e size n : Nat} {v : Value} {xs : List Value} (h : W.ownsRow base e size v n xs) (hb : Below W.heap.size W W') : W'.ownsRow base e size v n xs := by
  refine ⟨h.1, ?_⟩
  rcases h.2 with h0 | ⟨g, cap, cur, hv, hb1, hh, r⟩
  · exact .inl h0
  · have hlt : g < W.heap.size := by
      rcases Nat.lt_or_ge g W.heap.size with hlt | hge
      · exact hlt
      · rw [Array.getElem?_eq_none hge] at hh; cases hh
    exact .inr ⟨g, cap, cur, hv, hb1, (hb.block g hlt).trans hh, r⟩
/-- What was joined out of a row of the call's own. -/
theorem join_own {W : World} {base : Nat} {v : Value} {l : List (List UInt8)} (h : W.ownsRow base 9 1 v l.length (strs l)) (hn : l.length ≤ 140737488355328) (hl : (join l [44, 32]).length ≤ 140737488355328) :
    Calls Tryz.prog 149 #[v, .string ⟨#[44, 32]⟩] W fun e w' => e = .returned (.string ⟨(join l [44, 32]).toArray⟩) ∧ Below W.heap.size W w' := by
  have hmap : (l.map fun x => (⟨x.toArray⟩ : ByteArray)).map (fun b => b.data.toList) = l := by
    rw [List.map_map]
    conv => rhs; rw [← List.map_id l]
    rfl
  rcases h.2 with ⟨rfl, hz⟩ | ⟨g, cap, cur, rfl, _, hh, hc, _, hsz, ht⟩
  · obtain rfl : l = [] := List.eq_nil_of_length_eq_zero hz
    exact (Tryz.strings_Join_none none 0 ⟨#[44, 32]⟩ W).mono fun e w' ⟨he, hw⟩ => ⟨he, by rw [hw]; exact Below.refl _ _⟩
  · have hg : g < W.heap.size := by
      rcases Nat.lt_or_ge g W.heap.size with hlt | hge
      · exact hlt
      · rw [Array.getElem?_eq_none hge] at hh; cases hh
    have J := Tryz.strings_Join g 0 cap (l.map fun x => (⟨x.toArray⟩ : ByteArray)) ⟨#[44, 32]⟩ W (fun j x hx => by
      rw [Nat.zero_add, cell_of_row W g j cur _ _ hh]
      have h1 : (cur.toList.take (l.length * 1))[j]? = (strs l)[j]? := by rw [ht]
      rw [List.getElem?_map] at hx
      have hj : j < l.length := by
        rcases Nat.lt_or_ge j l.length with hlt | hge
        · exact hlt
        · rw [List.getElem?_eq_none hge] at hx; cases hx
      rw [List.getElem?_take_of_lt (by omega)] at h1
      rw [← Array.getElem?_toList, h1]
      unfold strs
      rw [List.getElem?_map]
      cases hq : l[j]? with
      | none => rw [hq] at hx; cases hx
      | some y => rw [hq] at hx; injection hx with hx; rw [← hx]; rfl) hg (by rw [List.length_map]; exact hn) (by rw [List.length_map]; exact hc) (by rw [hmap]; exact hl)
    rw [List.length_map, hmap] at J
    exact J
end Go.Proofs.YtbalpfpcbckghaaGreatDoor
namespace Go.Proofs.YtbalpfpcbckghaaGreatDoor
open Go.RowKit Go.Lib
set_option linter.unusedVariables false

end Go.Proofs.YtbalpfpcbckghaaGreatDoor
namespace Go.Proofs.YtbalpfpcbckghaaGreatDoor
open Go.RowKit Go.Lib
set_option linter.unusedVariables false

theorem grown_below {B : Nat} {w w1 w2 : World} {row : Option Nat} (h : Below B w w1) (hz : B ≤ w1.heap.size) (hg : w1.grownBy w2 row) (hr : ∀ k, row = some k → B ≤ k) : Below B w w2 :=
  ⟨hg.os.trans h.os, hg.tape.trans h.tape, hg.output.trans h.output, Nat.le_trans h.size hg.size,
   fun k hk => (hg.block k (by omega) (fun e => by have := hr k e.symm; omega)).trans (h.block k hk)⟩
theorem i64_drop : ∀ (i : Nat) (l : VL), l.i64 → (l.drop i).i64
  | 0, l, h => by rw [VL.drop]; exact h
  | i + 1, .nil, h => h
  | i + 1, .cons _ _ _ _ r, h => i64_drop i r h.2.2.2
theorem ok_drop : ∀ (i : Nat) (l : VL) (d : Int), OkL l d → OkL (l.drop i) d
  | 0, l, d, h => by rw [VL.drop]; exact h
  | i + 1, .nil, d, h => h
  | i + 1, .cons _ _ _ _ r, d, h => ok_drop i r d h.2.2.2
theorem cost_drop : ∀ (i : Nat) (l : VL), cost (l.drop i) ≤ cost l
  | 0, l => by rw [VL.drop]; exact Int.le_refl _
  | i + 1, .nil => Int.le_refl _
  | i + 1, .cons k n s sub r => by have := cost_drop i r; have := cost_ge sub; have := mOf_ge k s; rw [VL.drop, cost]; omega
theorem len_cost : ∀ l : VL, (l.len : Int) ≤ cost l
  | .nil => Int.le_refl _
  | .cons k n s sub r => by have := len_cost r; have := cost_ge sub; have := mOf_ge k s; rw [VL.len, cost]; omega

/-- What a call of text is to show. -/
def TextC (N : Nat) : Prop := ∀ (k n : Int) (s : ByteArray) (sub : VL) (sa : Option Addr) (sc : Nat) (d : Int) (w : World), sub.size < N → OkL (val1 k n s sub) d → (val1 k n s sub).i64 → cost (val1 k n s sub) ≤ 4096 → sub.len ≤ sc →
  RpL w (fun b => b < w.heap.size) sub sa → TxAt w →
  Calls Tryz.prog 91 #[.agg #[.int .i64 k, .int .i64 n, .string s, .slice sa sub.len sc]] w fun e w' => e = .returned (.string ⟨(txt1 k n s (txtL sub)).toArray⟩) ∧ Below w.heap.size w w'

theorem str_nil_add (t : ByteArray) : (⟨#[]⟩ : ByteArray) ++ t = t := by apply ByteArray.ext; simp

set_option maxRecDepth 100000 in
set_option maxHeartbeats 2000000 in
theorem text_step (N : Nat) (ih : ∀ N', N' < N → TextC N') : TextC N := by
  intro k n s sub sa sc d w hN hok h64 hcost hsc hrep hst
  have hroom := hst.room
  obtain ⟨hown, hoks⟩ := OkL_one hok
  obtain ⟨hn0, hn1, h64s, _⟩ := h64
  obtain ⟨wa, hwa⟩ : ∃ wa, wa = w.alloc (.cells #[.int .i64 k, .int .i64 n, .string s, .slice sa sub.len sc] 24) := ⟨_, rfl⟩
  have hba : Below w.heap.size w wa := by rw [hwa]; exact (Below.refl _ _).alloc (Nat.le_refl _) _
  have hwz : wa.heap.size = w.heap.size + 1 := by rw [hwa]; simp
  have hV : StB wa w.heap.size (.int .i64 k) (.int .i64 n) (.string s) (.slice sa sub.len sc) := by rw [hwa]; exact StB.new w _ _ _ _
  have v0 := hV.c0; have v1 := hV.c1; have v2 := hV.c2; have v3 := hV.c3
  have hsta : TxAt wa := hst.below hba (Nat.le_refl _)
  have HBA := Lib.hid hba
  have HWA := Lib.hid hwa
  have HWZ := Lib.hid hwz
  have HST := Lib.hid hsta
  have hcs : cost (val1 k n s sub) = 1 + mOf k s + cost sub := by unfold val1; rw [cost, cost]; omega
  have FC := fun (W : World) (hW : TxAt W) => Lib.hid (Tryz.strconv_FormatInt_10 n (by omega) (by omega) W hW.tab)
  obtain ⟨t, ht⟩ : ∃ t : ByteArray, t = ⟨(itoa n).toArray⟩ := ⟨_, rfl⟩
  have htl : t.size ≤ 20 := by
    have h1 : t.size = t.data.toList.length := by rw [Array.length_toList]; rfl
    rw [h1, ht]; exact itoa_len hn0 hn1
  rw [← ht] at FC
  rw [hwa] at v0 v1 v2 v3
  rcases own_ok hown with ⟨rfl, -⟩ | ⟨rfl, -⟩ | ⟨rfl, -⟩ | ⟨rfl, hm0, hm1, -⟩ | ⟨rfl, -⟩
  · have HR := Lib.hid (show (⟨(txt1 0 n s (txtL sub)).toArray⟩ : ByteArray) = t by rw [ht]; rfl)
    rw [HR.out]
    clear hba hV hsta hwa hwz ht hrep hst hok hown hoks hcs HR
    go_enter Tryz.func91, Tryz.ntmps91
    go_wp2_with fail
    rw [← HWA.out]
    refine (FC _ HST.out).out.mono ?_
    rintro e w3 ⟨rfl, kk, os, hw3⟩
    have HB3 := Lib.hid (show Below w.heap.size w w3 by rw [hw3]; exact HBA.out.trans (below_grow _ _ HBA.out.size _ _))
    clear hw3
    go_wp2_with fail
    go_ret
    exact ⟨ret_str (str_nil_add t), HB3.out⟩
  · have HR := Lib.hid (show (⟨(txt1 1 n s (txtL sub)).toArray⟩ : ByteArray) = ⟨#[35]⟩ ++ t by rw [ht]; apply ByteArray.ext; simp [txt1])
    rw [HR.out]
    clear hba hV hsta hwa hwz ht hrep hst hok hown hoks hcs HR
    go_enter Tryz.func91, Tryz.ntmps91
    go_wp2_with fail
    rw [← HWA.out]
    refine (FC _ HST.out).out.mono ?_
    rintro e w3 ⟨rfl, kk, os, hw3⟩
    have HB3 := Lib.hid (show Below w.heap.size w w3 by rw [hw3]; exact HBA.out.trans (below_grow _ _ HBA.out.size _ _))
    clear hw3
    go_wp2_with fail
    go_ret
    exact ⟨rfl, HB3.out⟩
  · have QC := Lib.hid (quote_c s wa (by
      have : mOf 2 s = s.size := rfl
      have := cost_ge sub
      omega) HST.out.room HST.out.mx)
    rw [show (⟨(quoL s.data.toList).toArray⟩ : ByteArray) = ⟨(txt1 2 n s (txtL sub)).toArray⟩ from rfl] at QC
    clear hba hV hsta hwa hwz ht hrep hst hok hown hoks hcs FC
    go_enter Tryz.func91, Tryz.ntmps91
    go_wp2_with fail
    rw [← HWA.out]
    refine QC.out.mono ?_
    rintro e w3 ⟨rfl, hb3⟩
    have HB3 := Lib.hid (HBA.out.trans (below_le' hb3 HBA.out.size))
    clear hb3
    go_wp2_with fail
    go_ret
    exact ⟨rfl, HB3.out⟩
  · have NC := Lib.hid (name_l n wa hn0 hn1)
    rw [show nmS n = ⟨(txt1 3 n s (txtL sub)).toArray⟩ from rfl] at NC
    clear hba hV hsta hwa hwz ht hrep hst hok hown hoks hcs FC
    go_enter Tryz.func91, Tryz.ntmps91
    go_wp2_with fail
    rw [← HWA.out]
    refine NC.out.mono ?_
    rintro e w3 ⟨rfl, hb3⟩
    have HB3 := Lib.hid (HBA.out.trans (below_le' hb3 HBA.out.size))
    clear hb3
    go_wp2_with fail
    go_ret
    exact ⟨rfl, HB3.out⟩
  · obtain ⟨i0, hi0, hz0, hz1, hz2⟩ := info_parts str_info
    have hcsub : cost sub ≤ 4096 := by have : mOf 4 s = 0 := rfl; omega
    have HRP := Lib.hid (hrep.keep (w' := wa) (fun b hb => hba.block b hb) (fun b hb => hb))
    clear hba hV hsta hwa hwz ht hrep hst hok hown hcs FC
    go_enter Tryz.func91, Tryz.ntmps91
    go_wp2_with fail
    rw [← HWA.out]
    go_loopg [4, 31] sub.len (fun kk ov v wr => ∃ (bv : Value) (i : Nat), bv = ov ∧ v = .int .i64 i ∧ i + kk = sub.len ∧ wr.ownsRow (w.heap.size + 1) 9 1 bv (txtL (sub.take i)).length (strs (txtL (sub.take i))) ∧ Below (w.heap.size + 1) wa wr)
    case atStart => exact ⟨.slice none 0 0, 0, rfl, rfl, by omega, World.ownsRow_nil _ _ _ _, Below.refl _ _⟩
    case round =>
      obtain ⟨bv, i, rfl, rfl, hik, hrow, hbr⟩ := hrel
      have hrz := hbr.size
      have hwz := HWZ.out
      by_cases hi : i < sub.len
      · obtain ⟨g, rfl⟩ : ∃ g, gk = g + 1 := ⟨gk - 1, by omega⟩
        obtain ⟨k', n', s', sub', hd⟩ := VL.drop_of_lt i sub hi
        have hts := VL.take_succ i sub k' n' s' sub' hd
        have hrw := HRP.out.keep (w' := wr) (fun b hb => hbr.block b (by omega)) (fun b hb => hb)
        obtain ⟨b, o, hsa⟩ : ∃ b o, sa = some ⟨b, o, none⟩ := by
          cases sub with
          | nil => simp [VL.len] at hi
          | cons _ _ _ _ _ => obtain ⟨b, o, _, _, h, _⟩ := hrw; exact ⟨b, o, h⟩
        rw [hsa] at hrw
        have hdr := RpL.drop i sub b o hrw
        rw [hd] at hdr
        obtain ⟨b', o', sa', sc', hA, hSb, c0, c1, c2, c3, hcl, hrs, _⟩ := hdr
        injection hA with hA
        injection hA with hA1 hA2
        subst hA1
        subst hA2
        have hod := ok_drop i sub (d + 1) hoks
        rw [hd] at hod
        have h6d := i64_drop i sub h64s
        rw [hd] at h6d
        have hcd := cost_drop i sub
        rw [hd, cost] at hcd
        have hcr := cost_ge (sub.drop (i + 1))
        have hszd := VL.size_drop i sub
        rw [hd] at hszd
        simp only [VL.size] at hszd
        have hln := len_cost sub
        obtain ⟨wx, hwx⟩ : ∃ wx, wx = wr.alloc (.cells #[.int .i64 k', .int .i64 n', .string s', .slice sa' sub'.len sc'] 24) := ⟨_, rfl⟩
        have hbx : Below (w.heap.size + 1) wa wx := by rw [hwx]; exact hbr.alloc (by omega) _
        have hbx0 : Below wr.heap.size wr wx := by rw [hwx]; exact (Below.refl _ _).alloc (Nat.le_refl _) _
        have hxz : wx.heap.size = wr.heap.size + 1 := by rw [hwx]; simp
        have IHC := Lib.hid (ih (sub'.size + 1) (by omega) k' n' s' sub' sa' sc' (d + 1) wx (by omega) ⟨hod.1, hod.2.1, hod.2.2.1, trivial⟩ ⟨h6d.1, h6d.2.1, h6d.2.2.1, trivial⟩ (by unfold val1; rw [cost, cost]; omega) hcl
          (hrs.keep (fun b hb => hbx0.block b (by omega)) (fun b hb => by omega)) (HST.out.below hbx (by omega)))
        obtain ⟨x, hx⟩ : ∃ x, x = txt1 k' n' s' (txtL sub') := ⟨_, rfl⟩
        rw [← hx] at IHC
        have hrow1 := own_below hrow hbx0
        have HT := Lib.hid (show txtL (sub.take (i + 1)) = txtL (sub.take i) ++ [x] by rw [hts, txtL_app, hx]; rfl)
        have HROW := Lib.hid hrow1
        have HBX := Lib.hid hbx
        have HSA := Lib.hid hsa
        have HWX := Lib.hid hwx
        subst hsa
        have hll : (txtL (sub.take i)).length ≤ 4096 := by
          have := len_cost (sub.take i)
          have h2 : (sub.take i).len + (sub.drop i).len = sub.len := by rw [← VL.len_app, VL.take_app_drop]
          rw [txtL_len]; omega
        rw [Nat.mul_comm 4 i] at c0 c1 c2 c3
        clear hrw hrs hrow hrow1 hbr hbx hbx0 hd hts hod h6d hcd hx hwx
        go_wp2_with fail
        rw [← HWX.out]
        refine IHC.out.mono ?_
        rintro e w5 ⟨rfl, hb5⟩
        have hrow5 := Lib.hid (own_below HROW.out hb5)
        have hb5' := Lib.hid (HBX.out.trans (below_le' hb5 (by have := HBX.out.size; omega)))
        have h5z := hb5.size
        clear hb5
        go_wp2_with (at_builtin; refine wpList_append_own _ rfl (.tmp 35) (.tmp 38) 38 rfl (w.heap.size + 1) 9 i0 (.string ⟨#[]⟩) 1 16 Tryz.underlying38 hi0 hz0 hz1 hz2 rfl (by decide) bv (txtL (sub.take i)).length (strs (txtL (sub.take i))) rfl (own_below hrow5.out ((Below.refl _ _).alloc (Nat.le_refl _) _)) ⟨w5.heap.size, 0, none⟩ 1 1 [.string ⟨x.toArray⟩] rfl rfl ?c1 ?c2 ?c3 ?c4 ?c5 ?c6
                     case c1 => exact cell_one_new _ _ _
                     case c2 => intro u hu; simp at hu; subst hu; rfl
                     case c3 => unfold maxLen; omega
                     case c4 => omega
                     case c5 => simp; omega
                     intro v' w11 hown' hgrow _
                     have HB11 := Lib.hid (grown_below (hb5'.out.alloc (by omega) _) (by simp; omega) hgrow (fun k hk => own_ge hrow5.out k hk))
                     have HO11 := Lib.hid (strs_snoc hown')
                     clear hown' hgrow)
        go_roundg g
        case measure => omega
        case rel => exact ⟨v', i + 1, rfl, by go_num, by omega, by rw [HT.out]; exact HO11.out, HB11.out⟩
      · obtain rfl : i = sub.len := by omega
        rw [VL.take_len] at hrow
        have hjl : (join (txtL sub) [44, 32]).length ≤ 100000 := by
          have h1 := join_len (txtL sub)
          have h2 := txtL_len_le sub (d + 1) hoks h64s
          omega
        have JC := Lib.hid (join_own hrow (by rw [txtL_len]; have := len_cost sub; omega) (by omega))
        obtain ⟨j, hj⟩ : ∃ j : ByteArray, j = ⟨(join (txtL sub) [44, 32]).toArray⟩ := ⟨_, rfl⟩
        rw [← hj] at JC
        have hjs : j.size ≤ 100000 := by
          have h1 : j.size = j.data.toList.length := by rw [Array.length_toList]; rfl
          rw [h1, hj]; exact hjl
        have HR := Lib.hid (show (⟨(txt1 4 n s (txtL sub)).toArray⟩ : ByteArray) = ⟨#[123]⟩ ++ j ++ ⟨#[125]⟩ by rw [hj]; apply ByteArray.ext; simp [txt1])
        have HBR := Lib.hid (HBA.out.trans (below_le' hbr (by omega)))
        clear hrow hbr hj hjl
        go_wp2_with fail
        refine JC.out.mono ?_
        rintro e w6 ⟨rfl, hb6⟩
        have HB6 := Lib.hid (HBR.out.trans (below_le' hb6 HBR.out.size))
        clear hb6
        go_wp2_with fail
        go_ret
        exact ⟨ret_str HR.out.symm, HB6.out⟩

theorem text_c (N : Nat) : TextC N := by
  induction N using Nat.strongRecOn with
  | _ N ih => exact text_step N ih
end Go.Proofs.YtbalpfpcbckghaaGreatDoor
namespace Go.Proofs.YtbalpfpcbckghaaGreatDoor
open Go.RowKit Go.Lib
set_option linter.unusedVariables false

theorem rp_at {w : World} {l : VL} {A : Option Addr} {S : Nat → Prop} {i : Nat} (h : RpL w S l A) (hi : i < l.len) : ∃ (b o : Nat) (k n : Int) (s : ByteArray) (sub : VL) (sa : Option Addr) (sc : Nat), A = some ⟨b, o, none⟩ ∧ l.drop i = .cons k n s sub (l.drop (i + 1)) ∧ S b ∧
    w.cell? ⟨b, o + i * 4, none⟩ = some (.int .i64 k) ∧ w.cell? ⟨b, o + i * 4 + 1, none⟩ = some (.int .i64 n) ∧ w.cell? ⟨b, o + i * 4 + 2, none⟩ = some (.string s) ∧ w.cell? ⟨b, o + i * 4 + 3, none⟩ = some (.slice sa sub.len sc) ∧ sub.len ≤ sc ∧ RpL w S sub sa ∧ sub.size < l.size := by
  obtain ⟨k, n, s, sub, hd⟩ := VL.drop_of_lt i l hi
  obtain ⟨b, o, hA⟩ : ∃ b o, A = some ⟨b, o, none⟩ := by
    cases l with
    | nil => simp [VL.len] at hi
    | cons _ _ _ _ _ => obtain ⟨b, o, _, _, h, _⟩ := h; exact ⟨b, o, h⟩
  subst hA
  have hdr := RpL.drop i l b o h
  rw [hd] at hdr
  obtain ⟨b', o', sa', sc', hA, hSb, c0, c1, c2, c3, hcl, hrs, _⟩ := hdr
  injection hA with hA
  injection hA with hA1 hA2
  subst hA1
  subst hA2
  have hszd := VL.size_drop i l
  rw [hd] at hszd
  simp only [VL.size] at hszd
  rw [Nat.mul_comm 4 i] at c0 c1 c2 c3
  exact ⟨b, o, k, n, s, sub, sa', sc', rfl, hd, hSb, c0, c1, c2, c3, hcl, hrs, by omega⟩

end Go.Proofs.YtbalpfpcbckghaaGreatDoor
namespace Go.Proofs.YtbalpfpcbckghaaGreatDoor
open Go.RowKit Go.Lib
set_option linter.unusedVariables false

/-- A row of values of the call's own. -/
structure CInv (base : Nat) (w0 wr : World) (V : Value) (acc : VL) (xs : List Value) : Prop where
  own : wr.ownsRow base 24 4 V acc.len xs
  cells : CellsOf wr (fun b => base ≤ b ∧ b < wr.heap.size ∧ V.ownBlock ≠ some b) acc xs
  below : Below base w0 wr
  size : base ≤ wr.heap.size
theorem CInv.nil (w : World) : CInv w.heap.size w w (.slice none 0 0) .nil [] := ⟨World.ownsRow_nil _ _ _ _, rfl, Below.refl _ _, Nat.le_refl _⟩
theorem CInv.move {base : Nat} {w0 wr w' : World} {V : Value} {acc : VL} {xs : List Value} (h : CInv base w0 wr V acc xs) (hb : Below wr.heap.size wr w') : CInv base w0 w' V acc xs :=
  ⟨own_below h.own hb, h.cells.keep (fun b hb' => hb.block b hb'.2.1) (fun b hb' => ⟨hb'.1, Nat.lt_of_lt_of_le hb'.2.1 hb.size, hb'.2.2⟩), h.below.trans (below_le' hb h.size), Nat.le_trans h.size hb.size⟩
theorem CInv.step {base : Nat} {w0 wr w3 w5 : World} {V V' : Value} {acc : VL} {xs : List Value} (h : CInv base w0 wr V acc xs) (hb : Below wr.heap.size wr w3)
    {k n : Int} {t : ByteArray} {sub : VL} {sa : Option Addr} {sc : Nat} (hsc : sub.len ≤ sc) (hrep : RpL w3 (fun b => wr.heap.size ≤ b ∧ b < w3.heap.size) sub sa) {o1 : Obj}
    (hown : w5.ownsRow base 24 4 V' (acc.len + 1) (xs ++ [.int .i64 k, .int .i64 n, .string t, .slice sa sub.len sc])) (hg : (w3.alloc o1).grownBy w5 V.ownBlock)
    (hob : V'.ownBlock = V.ownBlock ∨ V'.ownBlock = some (w3.alloc o1).heap.size) :
    CInv base w0 w5 V' (acc.app (val1 k n t sub)) (xs ++ [.int .i64 k, .int .i64 n, .string t, .slice sa sub.len sc]) := by
  have h3 := h.move hb
  have hVg : ∀ g, V.ownBlock = some g → base ≤ g ∧ g < wr.heap.size := fun g hg => ⟨own_ge h.own g hg, own_lt h.own g hg⟩
  have hsz : (w3.alloc o1).heap.size = w3.heap.size + 1 := by simp
  have hz5 : w3.heap.size + 1 ≤ w5.heap.size := by have := hg.size; omega
  have hz3 := hb.size
  have hz0 := h.size
  have blk : ∀ b, b < w3.heap.size → V.ownBlock ≠ some b → w5.heap[b]? = w3.heap[b]? := fun b hb hne => by
    have h1 := hg.block b (by omega) (fun e => hne e.symm)
    rw [h1, Below.heap_alloc _ _ _ hb]
  have hV'b : ∀ b, b < w3.heap.size → V.ownBlock ≠ some b → V'.ownBlock ≠ some b := fun b hb hne e => by
    rcases hob with e2 | e2
    · exact hne (e2.symm.trans e)
    · rw [e] at e2
      injection e2 with e2
      omega
  refine ⟨by rw [VL.len_app]; exact hown, ?_, ?_, by omega⟩
  · refine CellsOf.app _ _ _ _ ?_ ⟨sa, sc, [], rfl, hsc, ?_, rfl⟩
    · exact h3.cells.keep (fun b hb => blk b hb.2.1 hb.2.2) (fun b hb => ⟨hb.1, by have := hb.2.1; omega, hV'b b hb.2.1 hb.2.2⟩)
    · have hne : ∀ b, wr.heap.size ≤ b → V.ownBlock ≠ some b := fun b hb e => by have := (hVg b e).2; omega
      exact hrep.keep (fun b hb => blk b hb.2 (hne b hb.1)) (fun b hb => ⟨by have := hb.1; omega, by have := hb.2; omega, hV'b b hb.2 (hne b hb.1)⟩)
  · exact grown_below (h3.below.alloc h3.size o1) (by simp; omega) hg (fun k hk => (hVg k hk).1)
/-- What the row reads as. -/
theorem CInv.rep {base : Nat} {w0 wr : World} {V : Value} {acc : VL} {xs : List Value} (h : CInv base w0 wr V acc xs) : ∃ (sa : Option Addr) (sc : Nat), V = .slice sa acc.len sc ∧ acc.len ≤ sc ∧ RpL wr (fun b => base ≤ b ∧ b < wr.heap.size) acc sa :=
  own_rep h.own (h.cells.keep (fun _ _ => rfl) (fun b hb => ⟨hb.1, hb.2.1⟩)) (fun g hg => ⟨own_ge h.own g hg, own_lt h.own g hg⟩)

/-- A copy comes out. -/
def PCopy (w : World) (k n : Int) (s : ByteArray) (sub : VL) (e : Ending) (w' : World) : Prop :=
  ∃ (sa : Option Addr) (sc : Nat), e = .returned (.agg #[.int .i64 k, .int .i64 n, .string s, .slice sa sub.len sc]) ∧ sub.len ≤ sc ∧ RpL w' (fun b => w.heap.size ≤ b ∧ b < w'.heap.size) sub sa ∧ Below w.heap.size w w'

theorem clone_end {w wr : World} {k n : Int} {s : ByteArray} {sub : VL} {bv : Value} {sb : Option Addr} {cb : Nat} (hb : Below w.heap.size w wr) (hz : w.heap.size + 2 ≤ wr.heap.size) (hr : StB wr (w.heap.size + 1) (.int .i64 0) (.int .i64 0) (.string ⟨#[]⟩) (.slice none 0 0))
    (hbv : bv = .slice sb sub.len cb) (hcb : sub.len ≤ cb) (hrb : RpL wr (fun b => w.heap.size + 2 ≤ b ∧ b < wr.heap.size) sub sb) :
    StB (((((wr.setCell ⟨w.heap.size, 3, none⟩ bv).setCell ⟨w.heap.size + 1, 0, none⟩ (.int .i64 k)).setCell ⟨w.heap.size + 1, 1, none⟩ (.int .i64 n)).setCell ⟨w.heap.size + 1, 2, none⟩ (.string s)).setCell ⟨w.heap.size + 1, 3, none⟩ bv) (w.heap.size + 1) (.int .i64 k) (.int .i64 n) (.string s) bv ∧
    PCopy w k n s sub (.returned (.agg #[.int .i64 k, .int .i64 n, .string s, bv])) (((((wr.setCell ⟨w.heap.size, 3, none⟩ bv).setCell ⟨w.heap.size + 1, 0, none⟩ (.int .i64 k)).setCell ⟨w.heap.size + 1, 1, none⟩ (.int .i64 n)).setCell ⟨w.heap.size + 1, 2, none⟩ (.string s)).setCell ⟨w.heap.size + 1, 3, none⟩ bv) := by
  have hr' : StB (wr.setCell ⟨w.heap.size, 3, none⟩ bv) (w.heap.size + 1) (.int .i64 0) (.int .i64 0) (.string ⟨#[]⟩) (.slice none 0 0) := hr.far (by show w.heap.size + 1 ≠ w.heap.size; omega) _
  have hz1 : (wr.setCell ⟨w.heap.size, 3, none⟩ bv).heap.size = wr.heap.size := by simp [World.setCell]
  have hb1 : Below w.heap.size w (wr.setCell ⟨w.heap.size, 3, none⟩ bv) := Below.setCell hb (show w.heap.size ≤ (⟨w.heap.size, 3, none⟩ : Addr).block from Nat.le_refl _) _
  have hrb1 : RpL (wr.setCell ⟨w.heap.size, 3, none⟩ bv) (fun b => w.heap.size + 2 ≤ b ∧ b < wr.heap.size) sub sb := hrb.keep (fun c hc => Below.heap_setCell _ _ _ _ (by show c ≠ w.heap.size; omega)) (fun c hc => hc)
  exact ⟨hr'.set4 _ _ _ _, sb, cb, by rw [hbv], hcb, hrb1.keep (fun c hc => heap_set4 _ _ _ _ _ _ _ (by omega)) (fun c hc => ⟨by omega, by rw [size_set4, hz1]; exact hc.2⟩), below_set4 hb1 (by omega) _ _ _ _⟩

def CloneC (N : Nat) : Prop := ∀ (k n : Int) (s : ByteArray) (sub : VL) (sa : Option Addr) (sc : Nat) (w : World), sub.size < N → cost sub ≤ 100000 → sub.len ≤ sc → RpL w (fun b => b < w.heap.size) sub sa →
  Calls Tryz.prog 32 #[.agg #[.int .i64 k, .int .i64 n, .string s, .slice sa sub.len sc]] w (PCopy w k n s sub)

set_option maxRecDepth 100000 in
set_option maxHeartbeats 4000000 in
theorem clone_step (N : Nat) (ih : ∀ N', N' < N → CloneC N') : CloneC N := by
  intro k n s sub sa sc w hN hcost hsc hrep
  obtain ⟨i0, hi0, hz0, hz1, hz2⟩ := info_parts val_info
  obtain ⟨wa, hwa⟩ : ∃ wa, wa = (w.alloc (.cells #[.int .i64 k, .int .i64 n, .string s, .slice sa sub.len sc] 24)).alloc (.cells #[.int .i64 0, .int .i64 0, .string ⟨#[]⟩, .slice none 0 0] 24) := ⟨_, rfl⟩
  have hba : Below w.heap.size w wa := by rw [hwa]; exact ((Below.refl _ _).alloc (Nat.le_refl _) _).alloc (by simp) _
  have hwz : wa.heap.size = w.heap.size + 2 := by rw [hwa]; simp
  have hV : StB wa w.heap.size (.int .i64 k) (.int .i64 n) (.string s) (.slice sa sub.len sc) := by rw [hwa]; exact (StB.new w _ _ _ _).alloc _
  have hR : StB wa (w.heap.size + 1) (.int .i64 0) (.int .i64 0) (.string ⟨#[]⟩) (.slice none 0 0) := by
    rw [hwa]; have := StB.new (w.alloc (.cells #[.int .i64 k, .int .i64 n, .string s, .slice sa sub.len sc] 24)) (.int .i64 0) (.int .i64 0) (.string ⟨#[]⟩) (.slice none 0 0)
    simpa using this
  have v3 := hV.c3
  rw [hwa] at v3
  have HV := Lib.hid hV
  have HR := Lib.hid hR
  have HB := Lib.hid hba
  have HWA := Lib.hid hwa
  have HWZ := Lib.hid hwz
  have HRP := Lib.hid (hrep.keep (w' := wa) (fun b hb => hba.block b hb) (fun b hb => hb))
  have C0 := CInv.nil wa
  have hln := len_cost sub
  clear hba hV hR hwa hwz hrep
  go_enter Tryz.func32, Tryz.ntmps32
  go_wp2_with fail
  rw [← HWA.out]
  clear v3
  go_loopg [3, 9] sub.len (fun kk ov v wr => ∃ (bv : Value) (i : Nat) (xs : List Value), bv = ov ∧ v = .int .i64 i ∧ i + kk = sub.len ∧ Hid (CInv wa.heap.size wa wr bv (sub.take i) xs))
  case atStart => exact ⟨.slice none 0 0, 0, [], rfl, rfl, by omega, by show CInv _ _ _ _ (sub.take 0) _; rw [VL.take]; exact C0⟩
  case round =>
    obtain ⟨bv, i, xs, rfl, rfl, hik, hC⟩ := hrel
    have hbr := hC.out.below
    have hrz := hC.out.size
    have hwz := HWZ.out
    by_cases hi : i < sub.len
    · obtain ⟨g, rfl⟩ : ∃ g, gk = g + 1 := ⟨gk - 1, by omega⟩
      obtain ⟨b, o, k', n', s', sub', sa', sc', hA, hd, hSb, c0, c1, c2, c3, hcl, hrs, hszd⟩ := rp_at (HRP.out.keep (w' := wr) (fun b hb => hbr.block b (by omega)) (fun b hb => hb)) hi
      have hts := Lib.hid (VL.take_succ i sub k' n' s' sub' hd)
      have hcd := cost_drop i sub
      rw [hd, cost] at hcd
      have hcr := cost_ge (sub.drop (i + 1))
      have hmm := mOf_ge k' s'
      have htl : (sub.take i).len ≤ 100000 := by
        have h2 : (sub.take i).len + (sub.drop i).len = sub.len := by rw [← VL.len_app, VL.take_app_drop]
        omega
      obtain ⟨wx, hwx⟩ : ∃ wx, wx = wr.alloc (.cells #[.int .i64 k', .int .i64 n', .string s', .slice sa' sub'.len sc'] 24) := ⟨_, rfl⟩
      have hbx : Below wr.heap.size wr wx := by rw [hwx]; exact (Below.refl _ _).alloc (Nat.le_refl _) _
      have hxz : wx.heap.size = wr.heap.size + 1 := by rw [hwx]; simp
      have IHC := Lib.hid (ih (sub'.size + 1) (by omega) k' n' s' sub' sa' sc' wx (by omega) (by omega) hcl (hrs.keep (fun b hb => hbx.block b (by omega)) (fun b hb => by omega)))
      have CX := Lib.hid (hC.out.move hbx)
      have HSA := Lib.hid hA
      have HWX := Lib.hid hwx
      subst hA
      clear hrs hd hcd hwx hbx hbr
      go_wp2_with fail
      rw [← HWX.out]
      refine IHC.out.mono ?_
      rintro e w3 ⟨sb, cb, rfl, hcb, hrb, hb3⟩
      have C3 := Lib.hid (CX.out.move hb3)
      have HB3 := Lib.hid hb3
      have HRB := Lib.hid hrb
      have h3z := hb3.size
      clear hb3 hrb c0 c1 c2 c3
      go_wp2_with (at_builtin; refine wpList_append_own_at _ rfl (.tmp 13) (.tmp 16) 22 rfl wa.heap.size 24 i0 _ 4 56 Tryz.underlying22 hi0 hz0 hz1 hz2 rfl (by decide) bv (sub.take i).len xs rfl (own_below C3.out.own ((Below.refl _ _).alloc (Nat.le_refl _) _)) ⟨w3.heap.size, 0, none⟩ 1 1 [.int .i64 k', .int .i64 n', .string s', .slice sb sub'.len cb] rfl rfl ?c1 ?c2 ?c3 ?c4 ?c5 ?c6
                   case c1 => exact cell_four_new w3 _ rfl _ _ _ _ _
                   case c2 => intro u hu; simp at hu; rcases hu with rfl | rfl | rfl | rfl <;> rfl
                   case c3 => unfold maxLen; omega
                   case c4 => omega
                   case c5 => simp; omega
                   intro V' w5 hown' hgrow _ hob
                   have ST := Lib.hid (CInv.step CX.out HB3.out hcb HRB.out hown' hgrow hob)
                   clear hown' hgrow hob)
      go_roundg g
      case measure => omega
      case rel => exact ⟨V', i + 1, _, rfl, by go_num, by omega, by show CInv _ _ _ _ (sub.take (i + 1)) _; rw [hts.out]; exact ST.out⟩
    · obtain rfl : i = sub.len := by omega
      have hv := HV.out.below hbr (by omega)
      have hr := HR.out.below hbr (by omega)
      have y0 := hv.c0; have y1 := hv.c1; have y2 := hv.c2; have y3 := hv.c3; have y4 := hv.fr 3
      have z0 := hr.c0; have z1 := hr.c1; have z2 := hr.c2; have z3 := hr.c3; have f0 := hr.fr 0; have f1 := hr.fr 1; have f2 := hr.fr 2; have f3 := hr.fr 3
      obtain ⟨sb, cb, hbv, hcb, hrb⟩ := hC.out.rep
      rw [VL.take_len] at hbv hcb hrb
      have HF := Lib.hid (clone_end (HB.out.trans (below_le' hbr (by omega))) (by omega) hr rfl hcb (hrb.wide (fun c hc => ⟨by omega, hc.2⟩)) (k := k) (n := n) (s := s))
      clear hC
      subst hbv
      have hv' : StB (wr.setCell ⟨w.heap.size, 3, none⟩ (.slice sb sub.len cb)) w.heap.size (.int .i64 k) (.int .i64 n) (.string s) (.slice sb sub.len cb) := hv.set3 _
      have hr' : StB (wr.setCell ⟨w.heap.size, 3, none⟩ (.slice sb sub.len cb)) (w.heap.size + 1) (.int .i64 0) (.int .i64 0) (.string ⟨#[]⟩) (.slice none 0 0) := hr.far (by show w.heap.size + 1 ≠ w.heap.size; omega) _
      have a0 := hv'.c0; have a1 := hv'.c1; have a2 := hv'.c2; have a3 := hv'.c3
      have b0 := hr'.c0; have b1 := hr'.c1; have b2 := hr'.c2; have b3 := hr'.c3; have e0 := hr'.fr 0; have e1 := hr'.fr 1; have e2 := hr'.fr 2; have e3 := hr'.fr 3
      clear hv hr hv' hr' hbr hrb
      go_wp2_with fail
      refine ret_cell4 Tryz.results32 (w.heap.size + 1) rfl rfl HF.out.1 HF.out.2
theorem clone_c (N : Nat) : CloneC N := by
  induction N using Nat.strongRecOn with
  | _ N ih => exact clone_step N ih
end Go.Proofs.YtbalpfpcbckghaaGreatDoor
namespace Go.Proofs.YtbalpfpcbckghaaGreatDoor
open Go.RowKit Go.Lib
set_option linter.unusedVariables false

/-- What holds at Join's loop: the bytes so far in a row of the call's own. -/
structure JInv (base : Nat) (w0 wr : World) (V : Value) (acc : List UInt8) : Prop where
  own : wr.ownsRow base 5 1 V acc.length (u8s acc)
  below : Below base w0 wr
  size : base ≤ wr.heap.size
theorem JInv.move {base : Nat} {w0 wr w' : World} {V : Value} {acc : List UInt8} (h : JInv base w0 wr V acc) (hb : Below wr.heap.size wr w') : JInv base w0 w' V acc :=
  ⟨own_below h.own hb, h.below.trans (below_le' hb h.size), Nat.le_trans h.size hb.size⟩
theorem JInv.alloc {base : Nat} {w0 wr : World} {V : Value} {acc : List UInt8} (h : JInv base w0 wr V acc) (o : Obj) : JInv base w0 (wr.alloc o) V acc := h.move ((Below.refl _ _).alloc (Nat.le_refl _) _)
theorem JInv.app {base : Nat} {w0 wr w5 : World} {V V' : Value} {acc l : List UInt8} (h : JInv base w0 wr V acc) (hown : w5.ownsRow base 5 1 V' (acc.length + (⟨l.toArray⟩ : ByteArray).size) (u8s acc ++ strCells ⟨l.toArray⟩)) (hg : wr.grownBy w5 V.ownBlock) : JInv base w0 w5 V' (acc ++ l) := by
  have e1 : (⟨l.toArray⟩ : ByteArray).size = l.length := by simp [ByteArray.size]
  have e2 : strCells ⟨l.toArray⟩ = u8s l := rfl
  rw [e1, e2] at hown
  refine ⟨?_, grown_below h.below h.size hg (fun k hk => own_ge h.own k hk), Nat.le_trans h.size hg.size⟩
  rw [List.length_append, show u8s (acc ++ l) = u8s acc ++ u8s l from List.map_append]
  exact hown
theorem JInv.byte {base : Nat} {w0 wr w5 : World} {V V' : Value} {acc : List UInt8} {y : UInt8} (h : JInv base w0 wr V acc) (hown : w5.ownsRow base 5 1 V' (acc.length + 1) (u8s acc ++ [.int .u8 y.toNat])) (hg : wr.grownBy w5 V.ownBlock) : JInv base w0 w5 V' (acc ++ [y]) :=
  ⟨own_snoc hown, grown_below h.below h.size hg (fun k hk => own_ge h.own k hk), Nat.le_trans h.size hg.size⟩
end Go.Proofs.YtbalpfpcbckghaaGreatDoor
namespace Go.Proofs.YtbalpfpcbckghaaGreatDoor
open Go.RowKit Go.Lib
set_option linter.unusedVariables false

/-- Two rows whose elements are of different types are two. -/
theorem own_ne {w : World} {b1 b2 e1 e2 s1 s2 n1 n2 : Nat} {v1 v2 : Value} {x1 x2 : List Value} (h1 : w.ownsRow b1 e1 s1 v1 n1 x1) (h2 : w.ownsRow b2 e2 s2 v2 n2 x2) (hne : e1 ≠ e2) : v1.ownBlock = none ∨ v1.ownBlock ≠ v2.ownBlock := by
  rcases h1.2 with ⟨rfl, _⟩ | ⟨g, c, cur, rfl, _, hh, _⟩
  · exact .inl rfl
  · rcases h2.2 with ⟨rfl, _⟩ | ⟨g', c', cur', rfl, _, hh', _⟩
    · exact .inr (by simp [Value.ownBlock])
    · refine .inr fun e => ?_
      have : g = g' := by simpa [Value.ownBlock] using e
      subst this
      rw [hh] at hh'
      injection hh' with hh'
      injection hh' with _ ht
      exact hne ht
theorem own_apart {w w' : World} {b e s n : Nat} {v : Value} {xs : List Value} {row : Option Nat} (h : w.ownsRow b e s v n xs) (hg : w.grownBy w' row) (hne : v.ownBlock = none ∨ v.ownBlock ≠ row) : w'.ownsRow b e s v n xs := by
  refine ⟨h.1, ?_⟩
  rcases h.2 with h0 | ⟨g, c, cur, rfl, hb, hh, r⟩
  · exact .inl h0
  · refine .inr ⟨g, c, cur, rfl, hb, ?_, r⟩
    rw [hg.block g (Array.getElem?_eq_some_iff.1 hh).1 (by simpa [Value.ownBlock] using hne)]
    exact hh
/-- What holds at split's loop. -/
structure SpInv (base : Nat) (w0 wr : World) (ov bv : Value) (outs : List (List UInt8)) (bs : List UInt8) : Prop where
  o : wr.ownsRow base 9 1 ov outs.length (strs outs)
  b : wr.ownsRow base 5 1 bv bs.length (u8s bs)
  below : Below base w0 wr
  size : base ≤ wr.heap.size
theorem SpInv.alloc {base : Nat} {w0 wr : World} {ov bv : Value} {outs : List (List UInt8)} {bs : List UInt8} (h : SpInv base w0 wr ov bv outs bs) (x : Obj) : SpInv base w0 (wr.alloc x) ov bv outs bs :=
  ⟨h.o.alloc x, h.b.alloc x, h.below.alloc h.size x, by have := h.size; simp; omega⟩
theorem SpInv.byte {base : Nat} {w0 wr w5 : World} {ov bv bv' : Value} {outs : List (List UInt8)} {bs : List UInt8} {y : UInt8} (h : SpInv base w0 wr ov bv outs bs) (hown : w5.ownsRow base 5 1 bv' (bs.length + 1) (u8s bs ++ [.int .u8 y.toNat])) (hg : wr.grownBy w5 bv.ownBlock) : SpInv base w0 w5 ov bv' outs (bs ++ [y]) :=
  ⟨own_apart h.o hg (own_ne h.o h.b (by decide)), own_snoc hown, grown_below h.below h.size hg (fun k hk => own_ge h.b k hk), Nat.le_trans h.size hg.size⟩
theorem SpInv.word {base : Nat} {w0 wr w5 : World} {ov bv ov' : Value} {outs : List (List UInt8)} {bs : List UInt8} {x : List UInt8} (h : SpInv base w0 wr ov bv outs bs) (hown : w5.ownsRow base 9 1 ov' (outs.length + 1) (strs outs ++ [.string ⟨x.toArray⟩])) (hg : wr.grownBy w5 ov.ownBlock) : SpInv base w0 w5 ov' (.slice none 0 0) (outs ++ [x]) [] :=
  ⟨strs_snoc hown, World.ownsRow_nil _ _ _ _, grown_below h.below h.size hg (fun k hk => own_ge h.o k hk), Nat.le_trans h.size hg.size⟩

end Go.Proofs.YtbalpfpcbckghaaGreatDoor
namespace Go.Proofs.YtbalpfpcbckghaaGreatDoor
open Go.RowKit Go.Lib
set_option linter.unusedVariables false

/-- The text of a value, empty where it is not right. -/
def txtV (k n : Int) (s : ByteArray) (sub : VL) : ByteArray := if (walk1 k n s sub 1 4096).1 = 0 then ⟨(txt1 k n s (txtL sub)).toArray⟩ else ⟨#[]⟩

set_option maxRecDepth 100000 in
set_option maxHeartbeats 2000000 in
theorem Text_c (k n : Int) (s : ByteArray) (sub : VL) (sa : Option Addr) (sc : Nat) (ea : Nat → Addr) (w : World) (he : ErrsAt w ea) (hst : TxAt w) (hfit : (val1 k n s sub).fit) (h64 : (val1 k n s sub).i64) (hsc : sub.len ≤ sc)
    (hrep : RpL w (fun b => b < w.heap.size) sub sa) :
    Calls Tryz.prog 56 #[.agg #[.int .i64 k, .int .i64 n, .string s, .slice sa sub.len sc]] w fun e w' => e = .returned (.string (txtV k n s sub)) ∧ Below w.heap.size w w' := by
  have hroom := hst.room
  obtain ⟨wa, hwa⟩ : ∃ wa, wa = w.alloc (.cells #[.int .i64 k, .int .i64 n, .string s, .slice sa sub.len sc] 24) := ⟨_, rfl⟩
  have hba : Below w.heap.size w wa := by rw [hwa]; exact (Below.refl _ _).alloc (Nat.le_refl _) _
  have hwz : wa.heap.size = w.heap.size + 1 := by rw [hwa]; simp
  have hV : StB wa w.heap.size (.int .i64 k) (.int .i64 n) (.string s) (.slice sa sub.len sc) := by rw [hwa]; exact StB.new w _ _ _ _
  have v0 := hV.c0; have v1 := hV.c1; have v2 := hV.c2; have v3 := hV.c3
  rw [hwa] at v0 v1 v2 v3
  have hrpa := hrep.keep (w' := wa) (fun b hb => hba.block b hb) (fun b hb => hb)
  have VC := Lib.hid (valid_c k n s sub sa sc ea wa (he.below hba (Nat.le_of_lt hroom)) hfit.1 hfit.2.1 hfit.2.2.1 hsc (hrpa.wide (fun b hb => by omega)))
  have HBA := Lib.hid hba
  have HWA := Lib.hid hwa
  have HV := Lib.hid hV
  have HST := Lib.hid (hst.below hba (Nat.le_refl _))
  have HRP := Lib.hid hrpa
  have HWZ := Lib.hid hwz
  clear hba hV hwa hwz hrep hrpa he hst
  by_cases hc : (walk1 k n s sub 1 4096).1 = 0
  · have HT := Lib.hid (show txtV k n s sub = ⟨(txt1 k n s (txtL sub)).toArray⟩ by unfold txtV; rw [if_pos hc])
    have hcost := walk1_cost k n s sub 1 4096 (by omega) hc
    have TC := Lib.hid (fun W (hb : Below (w.heap.size + 1) wa W) => text_c (sub.size + 1) k n s sub sa sc 1 W (by omega) (walk1_ok hc) h64 (by unfold val1; rw [cost, cost]; omega) hsc
      (HRP.out.keep (fun b hlt => hb.block b (by omega)) (fun b hlt => by have := hb.size; have := HWZ.out; omega)) (HST.out.below hb (by have := HWZ.out; omega)))
    rw [hc, show errV ea 0 = Value.nilIface from rfl] at VC
    rw [HT.out]
    clear hc hcost
    go_enter Tryz.func56, Tryz.ntmps56
    go_wp2_with fail
    rw [← HWA.out]
    refine VC.out.mono ?_
    rintro e w2 ⟨rfl, hb2⟩
    have hb2' : Below (w.heap.size + 1) wa w2 := by rw [← HWZ.out]; exact hb2
    have hV2 := HV.out.below' hb2
    have u0 := hV2.c0; have u1 := hV2.c1; have u2 := hV2.c2; have u3 := hV2.c3
    have HB2 := Lib.hid hb2'
    clear hb2 hb2' hV2 v0 v1 v2 v3
    go_wp2_with fail
    refine (TC.out _ HB2.out).mono ?_
    rintro e w3 ⟨rfl, hb3⟩
    have HB3 := Lib.hid (HBA.out.trans (below_le' (HB2.out.trans (below_le' hb3 (by have := HB2.out.size; have := HWZ.out; omega))) (show w.heap.size ≤ w.heap.size + 1 by omega)))
    clear hb3
    go_wp2_with fail
    go_ret
    exact ⟨rfl, HB3.out⟩
  · have HT := Lib.hid (show txtV k n s sub = ⟨#[]⟩ by unfold txtV; rw [if_neg hc])
    have HERR := Lib.hid (show errV ea (walk1 k n s sub 1 4096).1 = .iface 224 (.pointer (some (ea (walk1 k n s sub 1 4096).1))) by unfold errV; rw [if_neg hc])
    rw [HERR.out] at VC
    rw [HT.out]
    clear hc
    go_enter Tryz.func56, Tryz.ntmps56
    go_wp2_with fail
    rw [← HWA.out]
    refine VC.out.mono ?_
    rintro e w2 ⟨rfl, hb2⟩
    have HB2 := Lib.hid (HBA.out.trans (below_le' hb2 (by have := HWZ.out; omega)))
    clear hb2
    go_wp2_with fail
    go_ret
    exact ⟨rfl, HB2.out⟩
end Go.Proofs.YtbalpfpcbckghaaGreatDoor
namespace Go.Proofs.YtbalpfpcbckghaaGreatDoor
open Go.RowKit Go.Lib
set_option linter.unusedVariables false

/-- What is told of a value that is right. -/
def pln1 (k n : Int) (s : ByteArray) (sub : VL) : ByteArray := if k = 2 then s else if k = 4 then ⟨#[123, 108, 105, 115, 116, 125]⟩ else ⟨(txt1 k n s (txtL sub)).toArray⟩
/-- What is told of a value, empty where it is not right. -/
def plnV (k n : Int) (s : ByteArray) (sub : VL) : ByteArray := if (walk1 k n s sub 1 4096).1 = 0 then pln1 k n s sub else ⟨#[]⟩

set_option maxRecDepth 100000 in
set_option maxHeartbeats 2000000 in
theorem Plain_c (k n : Int) (s : ByteArray) (sub : VL) (sa : Option Addr) (sc : Nat) (ea : Nat → Addr) (w : World) (he : ErrsAt w ea) (hst : TxAt w) (hfit : (val1 k n s sub).fit) (h64 : (val1 k n s sub).i64) (hsc : sub.len ≤ sc)
    (hrep : RpL w (fun b => b < w.heap.size) sub sa) :
    Calls Tryz.prog 53 #[.agg #[.int .i64 k, .int .i64 n, .string s, .slice sa sub.len sc]] w fun e w' => e = .returned (.string (plnV k n s sub)) ∧ Below w.heap.size w w' := by
  have hroom := hst.room
  obtain ⟨wa, hwa⟩ : ∃ wa, wa = w.alloc (.cells #[.int .i64 k, .int .i64 n, .string s, .slice sa sub.len sc] 24) := ⟨_, rfl⟩
  have hba : Below w.heap.size w wa := by rw [hwa]; exact (Below.refl _ _).alloc (Nat.le_refl _) _
  have hwz : wa.heap.size = w.heap.size + 1 := by rw [hwa]; simp
  have hV : StB wa w.heap.size (.int .i64 k) (.int .i64 n) (.string s) (.slice sa sub.len sc) := by rw [hwa]; exact StB.new w _ _ _ _
  have v0 := hV.c0; have v1 := hV.c1; have v2 := hV.c2; have v3 := hV.c3
  rw [hwa] at v0 v1 v2 v3
  have hrpa := hrep.keep (w' := wa) (fun b hb => hba.block b hb) (fun b hb => hb)
  have VC := Lib.hid (valid_c k n s sub sa sc ea wa (he.below hba (Nat.le_of_lt hroom)) hfit.1 hfit.2.1 hfit.2.2.1 hsc (hrpa.wide (fun b hb => by omega)))
  have HBA := Lib.hid hba
  have HWA := Lib.hid hwa
  have HV := Lib.hid hV
  have HST := Lib.hid (hst.below hba (Nat.le_refl _))
  have HRP := Lib.hid hrpa
  have HWZ := Lib.hid hwz
  clear hba hV hwa hwz hrep hrpa he hst
  by_cases hc : (walk1 k n s sub 1 4096).1 = 0
  · have HT := Lib.hid (show plnV k n s sub = pln1 k n s sub by unfold plnV; rw [if_pos hc])
    have hcost := walk1_cost k n s sub 1 4096 (by omega) hc
    have TC := Lib.hid (fun W (hb : Below (w.heap.size + 1) wa W) => text_c (sub.size + 1) k n s sub sa sc 1 W (by omega) (walk1_ok hc) h64 (by unfold val1; rw [cost, cost]; omega) hsc
      (HRP.out.keep (fun b hlt => hb.block b (by omega)) (fun b hlt => by have := hb.size; have := HWZ.out; omega)) (HST.out.below hb (by have := HWZ.out; omega)))
    rw [hc, show errV ea 0 = Value.nilIface from rfl] at VC
    rw [HT.out]
    clear hc hcost HT
    by_cases h2 : k = 2
    · subst h2
      rw [show pln1 2 n s sub = s from rfl]
      go_enter Tryz.func53, Tryz.ntmps53
      go_wp2_with fail
      rw [← HWA.out]
      refine VC.out.mono ?_
      rintro e w2 ⟨rfl, hb2⟩
      have hb2' : Below (w.heap.size + 1) wa w2 := by rw [← HWZ.out]; exact hb2
      have hV2 := HV.out.below' hb2
      have u0 := hV2.c0; have u2 := hV2.c2
      have HB2 := Lib.hid hb2'
      clear hb2 hb2' hV2 v0 v1 v2 v3
      go_wp2_with fail
      go_ret
      exact ⟨rfl, HBA.out.trans (below_le' HB2.out (by omega))⟩
    · by_cases h4 : k = 4
      · subst h4
        rw [show pln1 4 n s sub = ⟨#[123, 108, 105, 115, 116, 125]⟩ from rfl]
        clear h2
        go_enter Tryz.func53, Tryz.ntmps53
        go_wp2_with fail
        rw [← HWA.out]
        refine VC.out.mono ?_
        rintro e w2 ⟨rfl, hb2⟩
        have hb2' : Below (w.heap.size + 1) wa w2 := by rw [← HWZ.out]; exact hb2
        have hV2 := HV.out.below' hb2
        have u0 := hV2.c0; have u2 := hV2.c2
        have HB2 := Lib.hid hb2'
        clear hb2 hb2' hV2 v0 v1 v2 v3
        go_wp2_with fail
        go_ret
        exact ⟨rfl, HBA.out.trans (below_le' HB2.out (by omega))⟩
      · have HP := Lib.hid (show pln1 k n s sub = ⟨(txt1 k n s (txtL sub)).toArray⟩ by unfold pln1; rw [if_neg h2, if_neg h4])
        rw [HP.out]
        have b2 : (k == 2) = false := by rw [beq_eq_false_iff_ne]; exact h2
        have b4 : (k == 4) = false := by rw [beq_eq_false_iff_ne]; exact h4
        clear h2 h4
        go_enter Tryz.func53, Tryz.ntmps53
        go_wp2_with fail
        rw [← HWA.out]
        refine VC.out.mono ?_
        rintro e w2 ⟨rfl, hb2⟩
        have hb2' : Below (w.heap.size + 1) wa w2 := by rw [← HWZ.out]; exact hb2
        have hV2 := HV.out.below' hb2
        have u0 := hV2.c0; have u1 := hV2.c1; have u2 := hV2.c2; have u3 := hV2.c3
        have HB2 := Lib.hid hb2'
        clear hb2 hb2' hV2 v0 v1 v2 v3
        go_wp2_with fail
        refine (TC.out _ HB2.out).mono ?_
        rintro e w3 ⟨rfl, hb3⟩
        have HB3 := Lib.hid (HBA.out.trans (below_le' (HB2.out.trans (below_le' hb3 (by have := HB2.out.size; have := HWZ.out; omega))) (show w.heap.size ≤ w.heap.size + 1 by omega)))
        clear hb3
        go_wp2_with fail
        go_ret
        exact ⟨rfl, HB3.out⟩
  · have HT := Lib.hid (show plnV k n s sub = ⟨#[]⟩ by unfold plnV; rw [if_neg hc])
    have HERR := Lib.hid (show errV ea (walk1 k n s sub 1 4096).1 = .iface 224 (.pointer (some (ea (walk1 k n s sub 1 4096).1))) by unfold errV; rw [if_neg hc])
    rw [HERR.out] at VC
    rw [HT.out]
    clear hc
    go_enter Tryz.func53, Tryz.ntmps53
    go_wp2_with fail
    rw [← HWA.out]
    refine VC.out.mono ?_
    rintro e w2 ⟨rfl, hb2⟩
    have HB2 := Lib.hid (HBA.out.trans (below_le' hb2 (by have := HWZ.out; omega)))
    clear hb2
    go_wp2_with fail
    go_ret
    exact ⟨rfl, HB2.out⟩
end Go.Proofs.YtbalpfpcbckghaaGreatDoor
namespace Go.Proofs.YtbalpfpcbckghaaGreatDoor
open Go.RowKit Go.Lib
set_option linter.unusedVariables false

theorem escL_snoc (l : List UInt8) (c : UInt8) : escL (l ++ [c]) = escL l ++ (if c = 34 ∨ c = 92 then [92, c] else [c]) := by
  induction l with
  | nil => rw [List.nil_append, escL, escL]; rfl
  | cons x r ih => rw [List.cons_append, escL, escL, ih]; split <;> rfl
theorem ext_one (s : ByteArray) (i : Nat) (h : i < s.size) : s.extract i (i + 1) = ⟨#[s[i]]⟩ := by
  have : (s.extract i (i + 1)).data.toList = [s[i]] := by
    rw [ByteArray.data_extract, Array.toList_extract, List.extract_eq_take_drop, show i + 1 - i = 1 by omega, List.drop_eq_getElem_cons (by rw [Array.length_toList]; exact h), List.take_succ_cons, List.take_zero]
    rfl
  apply ByteArray.ext
  rw [← Array.toArray_toList (xs := (s.extract i (i + 1)).data), this]

set_option maxHeartbeats 2000000 in
theorem quoted_c (s : ByteArray) (w : World) (hs : s.size ≤ 1000000) :
    Calls Tryz.prog 69 #[.string s] w fun e w' => e = .returned (.string ⟨(quoL s.data.toList).toArray⟩) ∧ w = w' := by
  go_enter Tryz.func69, Tryz.ntmps69
  go_wp2_with fail
  go_loopg [3, 4] s.size (fun kk v3 v4 wr => ∃ (X : ByteArray) (i : Nat), v3 = .string X ∧ v4 = .int .i64 i ∧ i + kk = s.size ∧ Hid (X.data.toList = 34 :: escL (s.data.toList.take i)) ∧ w = wr)
  case atStart => exact ⟨⟨#[34]⟩, 0, rfl, rfl, by omega, rfl, rfl⟩
  case round =>
    obtain ⟨X, i, rfl, rfl, hik, hX, rfl⟩ := hrel
    have hXz : X.size = 1 + (escL (s.data.toList.take i)).length := by
      have h1 : X.size = X.data.toList.length := by rw [Array.length_toList]; rfl
      rw [h1, hX.out, List.length_cons]; omega
    have hel := (escL_len (s.data.toList.take i)).2
    have htl : (s.data.toList.take i).length ≤ i := by rw [List.length_take]; omega
    have hXb : X.size ≤ 3000000 := by omega
    by_cases hi : i < s.size
    · obtain ⟨g, rfl⟩ : ∃ g, gk = g + 1 := ⟨gk - 1, by omega⟩
      have hts := Lib.hid (take_snoc s i hi)
      have hx := ext_one s i hi
      clear hXz hel htl
      by_cases c34 : s[i] = 34
      · have c1 : (((s[i]'hi).toNat : Int) == 34) = true := by rw [c34]; rfl
        have HN := Lib.hid (show (X ++ ⟨#[92]⟩ ++ ⟨#[s[i]]⟩ : ByteArray).data.toList = 34 :: escL (s.data.toList.take (i + 1)) by rw [hts.out, escL_snoc, if_pos (.inl c34)]; simp [hX.out])
        clear c34
        go_wp2_with fail
        go_roundg g
        case measure => omega
        case rel => exact ⟨_, i + 1, rfl, by go_num, by omega, HN.out, rfl⟩
      · by_cases c92 : s[i] = 92
        · have c1 : (((s[i]'hi).toNat : Int) == 34) = false := by rw [c92]; rfl
          have c2 : (((s[i]'hi).toNat : Int) == 92) = true := by rw [c92]; rfl
          have HN := Lib.hid (show (X ++ ⟨#[92]⟩ ++ ⟨#[s[i]]⟩ : ByteArray).data.toList = 34 :: escL (s.data.toList.take (i + 1)) by rw [hts.out, escL_snoc, if_pos (.inr c92)]; simp [hX.out])
          clear c34 c92
          go_wp2_with fail
          go_roundg g
          case measure => omega
          case rel => exact ⟨_, i + 1, rfl, by go_num, by omega, HN.out, rfl⟩
        · have c1 := (ne_byte (x := s[i]) 34 34 rfl c34).1
          have c2 := (ne_byte (x := s[i]) 92 92 rfl c92).1
          have HN := Lib.hid (show (X ++ ⟨#[s[i]]⟩ : ByteArray).data.toList = 34 :: escL (s.data.toList.take (i + 1)) by
            rw [hts.out, escL_snoc, if_neg (by rintro (h | h); exact c34 h; exact c92 h)]; simp [hX.out])
          clear c34 c92
          go_wp2_with fail
          go_roundg g
          case measure => omega
          case rel => exact ⟨_, i + 1, rfl, by go_num, by omega, HN.out, rfl⟩
    · obtain rfl : i = s.size := by omega
      have HN := Lib.hid (show (X ++ ⟨#[34]⟩ : ByteArray) = ⟨(quoL s.data.toList).toArray⟩ by
        apply ByteArray.ext
        have h1 := hX.out
        rw [List.take_of_length_le (by rw [Array.length_toList]; exact Nat.le_refl _)] at h1
        have h2 : (X ++ ⟨#[34]⟩ : ByteArray).data.toList = quoL s.data.toList := by simp [h1, quoL]
        rw [← h2])
      clear hXz hel htl
      go_wp2_with fail
      go_ret
      exact ⟨ret_str HN.out, rfl⟩
end Go.Proofs.YtbalpfpcbckghaaGreatDoor
namespace Go.Proofs.YtbalpfpcbckghaaGreatDoor
open Go.RowKit Go.Lib
set_option linter.unusedVariables false

end Go.Proofs.YtbalpfpcbckghaaGreatDoor
namespace Go.Proofs.YtbalpfpcbckghaaGreatDoor
open Go.RowKit Go.Lib
set_option linter.unusedVariables false

theorem prB_app {a b : List UInt8} (h1 : prB a = true) (h2 : prB b = true) : prB (a ++ b) = true := by unfold prB at h1 h2 ⊢; rw [List.all_append, h1, h2]; rfl
theorem prB_cons {c : UInt8} {b : List UInt8} (h1 : prC c = true) (h2 : prB b = true) : prB (c :: b) = true := by unfold prB at h2 ⊢; rw [List.all_cons, h1, h2]; rfl
theorem prB_digits {l : List UInt8} (h : ∀ c ∈ l, isDg c = true) : prB l = true := by
  unfold prB
  rw [List.all_eq_true]
  intro c hc
  have := isDg_iff.1 (h c hc)
  exact decide_eq_true (by omega)
theorem itoa_print (v : Int) : prB (itoa v) = true := by
  by_cases hv : v < 0
  · obtain ⟨u, rfl⟩ : ∃ u : Nat, v = -(u : Int) := ⟨v.natAbs, by omega⟩
    rw [itoa_neg u (by omega)]
    exact prB_cons (by decide) (prB_digits (canon_dec u).1.2.1)
  · obtain ⟨u, rfl⟩ : ∃ u : Nat, v = (u : Int) := ⟨v.toNat, by omega⟩
    rw [itoa_nonneg]
    exact prB_digits (canon_dec u).1.2.1
theorem escL_print : ∀ l : List UInt8, prB l = true → prB (escL l) = true
  | [], _ => rfl
  | c :: r, h => by
    have hc : prC c = true ∧ prB r = true := by unfold prB at h ⊢; rw [List.all_cons, Bool.and_eq_true] at h; exact h
    rw [escL]
    split
    · exact prB_cons (by decide) (prB_cons hc.1 (escL_print r hc.2))
    · exact prB_cons hc.1 (escL_print r hc.2)
theorem nm_print : ∀ c : Fin 15, prB (nmAt c.val).data.toList = true := by decide +kernel
theorem join_print (l : List (List UInt8)) (h : ∀ x ∈ l, prB x = true) : prB (join l [44, 32]) = true := by
  cases l with
  | nil => rfl
  | cons a t =>
    rw [join_cons]
    refine prB_app (h a (by simp)) ?_
    have : ∀ t : List (List UInt8), (∀ x ∈ t, prB x = true) → prB (joinTail [44, 32] t) = true := by
      intro t
      induction t with
      | nil => intro _; rfl
      | cons x r ih =>
        intro h
        have e : joinTail [44, 32] (x :: r) = [44, 32] ++ x ++ joinTail [44, 32] r := by simp [joinTail]
        rw [e]
        exact prB_app (prB_app (by decide) (h x (by simp))) (ih (fun y hy => h y (by simp [hy])))
    exact this t (fun x hx => h x (by simp [hx]))
theorem txt1_print {k n : Int} {s : ByteArray} {len : Nat} {l : List (List UInt8)} (h : ownE k n s len = 0) (hl : ∀ x ∈ l, prB x = true) : prB (txt1 k n s l) = true := by
  rcases own_ok h with ⟨rfl, _⟩ | ⟨rfl, _⟩ | ⟨rfl, _, _, hp⟩ | ⟨rfl, h0, h1, _⟩ | ⟨rfl, _⟩
  · exact itoa_print n
  · exact prB_cons (by decide) (itoa_print n)
  · exact prB_cons (by decide) (prB_app (escL_print _ hp) (by decide))
  · obtain ⟨j, rfl⟩ : ∃ j : Nat, n = j := ⟨n.toNat, by omega⟩
    have hj : j < 15 := by omega
    show prB (nmS (j : Int)).data.toList = true
    rw [nmS_at j hj]
    exact nm_print ⟨j, hj⟩
  · exact prB_cons (by decide) (prB_app (join_print l hl) (by decide))
theorem txtL_print : ∀ (l : VL) (d : Int), OkL l d → ∀ x ∈ txtL l, prB x = true
  | .nil, _, _, x, hx => by cases hx
  | .cons k n s sub rest, d, h, x, hx => by
    rw [txtL] at hx
    rcases List.mem_cons.1 hx with rfl | hx
    · exact txt1_print h.1 (txtL_print sub (d + 1) h.2.2.1)
    · exact txtL_print rest d h.2.2.2 x hx

end Go.Proofs.YtbalpfpcbckghaaGreatDoor
