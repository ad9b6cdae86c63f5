/-
  LitLists: the walk of the law.
-/
import Derived.Test.YtoemnccklakkeaaDoorCtQ
import Derived.Test.YtoemnccklakkeaaDoorSeC
import Derived.Test.YtoemnccklakkeaaDoorNbL
import Derived.Test.YtoemnccklakkeaaDoorCpB
namespace Go.Proofs.YtoemnccklakkeaaDoor
open Go.RowKit Go.Lib
set_option linter.unusedVariables false

theorem size_toList (B : ByteArray) : B.data.toList.length = B.size := by rw [Array.length_toList]; rfl
theorem cat_list (a b : ByteArray) : (a ++ b).data.toList = a.data.toList ++ b.data.toList := by simp
theorem ba_ext {a b : ByteArray} (h : a.data.toList = b.data.toList) : a = b := by
  rcases a with ⟨⟨a⟩⟩; rcases b with ⟨⟨b⟩⟩
  simp only at h; rw [h]
theorem txt_len2 {k n : Int} {s : ByteArray} {sub : VL} (h0 : (walk1 k n s sub 1 4096).1 = 0) (h64 : (val1 k n s sub).i64) : (txt1 k n s (txtL sub)).length ≤ 100000 := by
  have h1 := txtL_len_le (val1 k n s sub) 1 (walk1_ok h0) h64
  have h2 := walk1_cost k n s sub 1 4096 (by omega) h0
  have h3 : cost (val1 k n s sub) = 1 + mOf k s + cost sub := by unfold val1; rw [cost, cost]; omega
  have h4 : ((txtL (val1 k n s sub)).map fun x => x.length + 2).sum = (txt1 k n s (txtL sub)).length + 2 := by simp [txtL, val1]
  rw [h4] at h1
  omega
/-- What reading a text that is cut off shows. -/
def PCut (k : Nat) (ea : Nat → Addr) (w : World) (e : Ending) (w' : World) : Prop :=
  ∃ A : Nat, e = .returned (.tuple #[.agg #[.int .i64 0, .int .i64 0, .string ⟨#[]⟩, .slice none 0 0], .iface 66 (.pointer (some ⟨A, 0, none⟩))]) ∧ Below w.heap.size w w' ∧ AtAt w' A k (.iface 142 (.pointer (some (ea 111))))
theorem read_cut {ea : Nat → Addr} {s : ByteArray} {w w' : World} {e : Ending} (hr : (rdV s).1 = s.size ∧ (rdV s).2.1 = false) (h : RdOut ea s w e w') : PCut s.size ea w e w' := by
  obtain ⟨hb, ⟨hbad, A, _, hA, rfl⟩ | ⟨hgood, _⟩⟩ := h
  · refine ⟨A, rfl, hb, ?_⟩
    unfold AtAt
    rw [hr.1] at hA
    exact hA
  · exact absurd (fun h => by rw [hr.2] at h; cases h.1) hgood

set_option maxRecDepth 100000 in
set_option maxHeartbeats 8000000 in
theorem litLists_c (l : VL) (sa : Option Addr) (sc : Nat) (n : Int) (ea : Nat → Addr) (w : World) (hfit : l.fit) (h64 : l.i64) (hln : l.len ≤ 140737488351232) (hsc : l.len ≤ sc) (hrep : RpL w (fun b => b < w.heap.size) l sa)
    (hn0 : -9223372036854775808 ≤ n) (hn1 : n ≤ 9223372036854775807) (hse : SeesAt w ea) (htx : TxAt w) :
    Calls Tryd.prog 7 #[.slice sa l.len sc, .int .i64 n] w fun e w' => e = .returned (.bool true) ∧ Below w.heap.size w w' := by
  have hroom := htx.room
  have HE := fun (W : World) (hW : Below w.heap.size w W) => (hse.below hW).errs
  have HX := fun (W : World) (hW : Below w.heap.size w W) => htx.below hW (Nat.le_refl _)
  have HR := fun (W : World) (hW : Below w.heap.size w W) => hrep.keep (w' := W) (S' := fun b => b < W.heap.size) (fun b hb => hW.block b hb) (fun b hb => by have := hW.size; omega)
  have F := Lib.hid (first_c ea w hse.errs)
  have VC := Lib.hid (fun W hW => worldValues_c l sa sc W hfit hln hsc (HR W hW))
  obtain ⟨q, hq⟩ : ∃ q, q = (decide (l.len ≤ 12) && rightsL l) := ⟨_, rfl⟩
  rw [← hq] at VC
  cases q with
  | false =>
    clear HE HX HR hse htx hrep hq
    go_enter Tryd.func7, Tryd.ntmps7
    go_wp2_with fail
    refine F.out.mono ?_
    rintro e w2 ⟨rfl, hb2⟩
    have HB2 := Lib.hid hb2
    clear hb2
    go_wp2_with fail
    refine (VC.out _ HB2.out).mono ?_
    rintro e w3 ⟨rfl, hb3⟩
    have HB3 := Lib.hid (HB2.out.trans (below_le' hb3 HB2.out.size))
    clear hb3
    go_wp2_with fail
    go_returns
    exact ⟨rfl, HB3.out⟩
  | true =>
    rw [eq_comm, Bool.and_eq_true, decide_eq_true_eq] at hq
    have hcost : cost l ≤ 49152 := by have := rights_cost l hq.2; omega
    have hm4 : mOf 4 ⟨#[]⟩ = 0 := rfl
    have LC := Lib.hid (fun W hW => refL_c l sa sc W (by omega) hsc (HR W hW))
    have FC := Lib.hid (fun (W : World) (sa' : Option Addr) (sc' : Nat) (hsc' : l.len ≤ sc') (hr' : RpL W (fun b => b < W.heap.size) l sa') => fits_c 4 0 ⟨#[]⟩ l sa' sc' W (by omega) hsc' hr')
    obtain ⟨fv, hfv⟩ : ∃ fv, fv = fitsV 4 ⟨#[]⟩ l := ⟨_, rfl⟩
    rw [← hfv] at FC
    by_cases hf0 : fv = 0
    · have hright := fits_right hq.2 (hfv ▸ hf0)
      have ML := Lib.hid (fun W hW => valL_c l sa sc W (by omega) hsc (HR W hW))
      have hvf : (val1 4 0 ⟨#[]⟩ l).fit := ⟨by decide, hln, hfit, trivial⟩
      have hv6 : (val1 4 0 ⟨#[]⟩ l).i64 := ⟨by decide, by decide, h64, trivial⟩
      have TC := Lib.hid (fun (W : World) hW (sa' : Option Addr) (sc' : Nat) (hsc' : l.len ≤ sc') (hr' : RpL W (fun b => b < W.heap.size) l sa') => Text_c 4 0 ⟨#[]⟩ l sa' sc' ea W (HE W hW) (HX W hW) hvf hv6 hsc' hr')
      obtain ⟨T, hT⟩ : ∃ T, T = txtV 4 0 ⟨#[]⟩ l := ⟨_, rfl⟩
      rw [← hT] at TC
      have hTl : T.data.toList = txt1 4 0 ⟨#[]⟩ (txtL l) := by rw [hT]; unfold txtV; rw [if_pos hright]
      have hTs : T.size ≤ 100000 := by rw [← size_toList, hTl]; exact txt_len2 hright hv6
      have hacc : ∀ i, (accT l i).length + 1 ≤ T.size := fun i => by rw [← size_toList, hTl]; exact accT_len l i
      have IT := Lib.hid (fun (W : World) hW (i : Nat) (k n : Int) (s : ByteArray) (sub : VL) (xa : Option Addr) (xc : Nat) (hd : l.drop i = .cons k n s sub (l.drop (i + 1))) (hc : sub.len ≤ xc) (hr' : RpL W (fun b => b < w.heap.size) sub xa) => by
        have hfd := VL.fit_drop i l hfit
        rw [hd] at hfd
        have h6d := i64_drop i l h64
        rw [hd] at h6d
        have := Text_c k n s sub xa xc ea W (HE W hW) (HX W hW) ⟨hfd.1, hfd.2.1, hfd.2.2.1, trivial⟩ ⟨h6d.1, h6d.2.1, h6d.2.2.1, trivial⟩ hc (hr'.wide (fun b hb => Nat.lt_of_lt_of_le hb hW.size))
        have hrb := of_decide_eq_true (rights_at i l hq.2 hd)
        rw [show txtV k n s sub = ⟨(txt1 k n s (txtL sub)).toArray⟩ by unfold txtV; rw [if_pos hrb]] at this
        exact this)
      have hT0 : 0 < T.size := by have := hacc 0; omega
      have NC := Lib.hid (fun W => wnumber_c n T.size W hn0 hn1 (by omega) (by omega))
      have RD := Lib.hid (fun (k : Nat) (hk : k < T.size) (W : World) hW => (read_c (T.extract 0 k) ea W (HE W hW) (by rw [ByteArray.size_extract]; omega)).mono (R' := PCut k ea W) fun e W' h => by
        have hl : (T.extract 0 k).data.toList = T.data.toList.take k := by simp
        have hsz : (T.extract 0 k).size = k := by rw [ByteArray.size_extract]; omega
        have := read_cut (rdV_cut (q := T.data.toList.drop k) (walk1_ok hright) hv6 (by rw [← hTl, hl, List.take_append_drop]) (fun e => by have h2 := congrArg List.length e; rw [List.length_drop, size_toList, List.length_nil] at h2; omega)) h
        rw [hsz] at this; exact this)
      have SC := Lib.hid (fun (k A : Nat) (W : World) (hW : Below w.heap.size w W) (hA : AtAt W A k (.iface 142 (.pointer (some (ea 111))))) =>
        same_c (.iface 66 (.pointer (some ⟨A, 0, none⟩))) 111 true k W (fun W' hW' => fault_at ea 10 A k W' ((hse.below hW).below hW') (by decide) (hA.below hW')))
      have PC := Lib.hid (fun (k : Nat) W => placed_c 111 k rfl W)
      have GR := Lib.hid (fun (W : World) (hW : Below w.heap.size w W) => hrep.keep (w' := W) (S' := fun b => b < w.heap.size) (fun b hb => hW.block b hb) (fun b hb => hb))
      have HACC := Lib.hid hacc
      have HTL := Lib.hid (hTl.trans (accT_end l).symm)
      have HTS := Lib.hid hTs
      rw [hf0] at FC
      clear HE HX HR hse htx hrep hq hf0 hfv hT hTl hvf hv6 hcost hfit h64 hright hacc
      go_enter Tryd.func7, Tryd.ntmps7
      go_wp2_with fail
      refine F.out.mono ?_
      rintro e w2 ⟨rfl, hb2⟩
      have HB2 := Lib.hid hb2
      clear hb2
      go_wp2_with fail
      refine (VC.out _ HB2.out).mono ?_
      rintro e w3 ⟨rfl, hb3⟩
      have HB3 := Lib.hid (HB2.out.trans (below_le' hb3 HB2.out.size))
      clear hb3
      go_wp2_with fail
      refine (LC.out _ HB3.out).mono ?_
      rintro e w4 ⟨sb, cb, rfl, hcb, hrb, hb4⟩
      have HB4 := Lib.hid (HB3.out.trans (below_le' hb4 HB3.out.size))
      have HRB := Lib.hid (hrb.wide (fun b hb => hb.2))
      clear hb4 hrb
      go_wp2_with fail
      refine (FC.out _ sb cb hcb HRB.out).mono ?_
      rintro e w5 ⟨rfl, hb5⟩
      have HB5 := Lib.hid (HB4.out.trans (below_le' hb5 HB4.out.size))
      clear hb5
      go_wp2_with fail
      go_loopg [6, 7] l.len (fun kk v6 v7 wr => ∃ (i : Nat) (X : ByteArray), v7 = .int .i64 i ∧ v6 = .string X ∧ i + kk = l.len ∧ Hid (Below w.heap.size w wr) ∧ Hid (X.data.toList = accT l i))
      case atStart => exact ⟨0, ⟨#[123]⟩, rfl, rfl, by omega, HB5, rfl⟩
      case round =>
        obtain ⟨i, X, rfl, rfl, hik, hbr, hX⟩ := hrel
        have hXs : X.size ≤ 100000 := by have := HACC.out i; have := HTS.out; rw [← hX.out, size_toList] at *; omega
        by_cases hi : i < l.len
        · obtain ⟨g, rfl⟩ : ∃ g, gk = g + 1 := ⟨gk - 1, by omega⟩
          obtain ⟨b, o, k1, n1, s1, x1, xa1, xc1, hA1, hd1, hSb1, c0, c1, c2, c3, hcl1, hrs1, hsz1⟩ := rp_at (GR.out _ hbr.out) hi
          have TI := Lib.hid (IT.out _ hbr.out i k1 n1 s1 x1 xa1 xc1 hd1 hcl1 hrs1)
          obtain ⟨Y, hY⟩ : ∃ Y : ByteArray, Y = ⟨(txt1 k1 n1 s1 (txtL x1)).toArray⟩ := ⟨_, rfl⟩
          rw [← hY] at TI
          have hYl : Y.data.toList = txt1 k1 n1 s1 (txtL x1) := by rw [hY]
          by_cases hi0 : i = 0
          · have HN := Lib.hid (show (X ++ Y).data.toList = accT l (i + 1) by
              rw [cat_list, hX.out, hYl]; subst hi0; exact (accT_first hd1).symm)
            have hYs : X.size + Y.size ≤ 100000 := by have h1 := HACC.out (i + 1); have := HTS.out; rw [← HN.out, size_toList, ByteArray.size_append] at h1; omega
            have hp : decide ((0 : Int) < (i : Int)) = false := by rw [decide_eq_false_iff_not]; omega
            have hp2 : ¬ 0 < i := by omega
            have HA1 := Lib.hid hA1
            subst hA1
            clear hd1 hrs1 hY hYl hsz1 hi0 HA1 hSb1
            go_wp2_with fail
            refine TI.out.mono ?_
            rintro e w6 ⟨rfl, hb6⟩
            have HB6 := Lib.hid (hbr.out.trans (below_le' hb6 hbr.out.size))
            clear hb6 c0 c1 c2 c3 hp hp2
            go_wp2_with fail
            go_roundg g
            case measure => omega
            case rel => exact ⟨i + 1, X ++ Y, by go_num, rfl, by omega, HB6, HN⟩
          · have HN := Lib.hid (show (X ++ ⟨#[44, 32]⟩ ++ Y).data.toList = accT l (i + 1) by
              rw [cat_list, cat_list, hX.out, hYl, accT_next (by omega) hi hd1])
            have hYs : X.size + 2 + Y.size ≤ 100000 := by have h1 := HACC.out (i + 1); have := HTS.out; rw [← HN.out, size_toList, ByteArray.size_append, ByteArray.size_append] at h1; have h2 : (⟨#[44, 32]⟩ : ByteArray).size = 2 := rfl; omega
            have hp : decide ((0 : Int) < (i : Int)) = true := by rw [decide_eq_true_eq]; omega
            have hp2 : 0 < i := by omega
            have HA1 := Lib.hid hA1
            subst hA1
            clear hd1 hrs1 hY hYl hsz1 hi0 HA1 hSb1
            go_wp2_with fail
            refine TI.out.mono ?_
            rintro e w6 ⟨rfl, hb6⟩
            have HB6 := Lib.hid (hbr.out.trans (below_le' hb6 hbr.out.size))
            clear hb6 c0 c1 c2 c3 hp hp2
            go_wp2_with fail
            go_roundg g
            case measure => omega
            case rel => exact ⟨i + 1, X ++ ⟨#[44, 32]⟩ ++ Y, by go_num, rfl, by omega, HB6, HN⟩
        · obtain rfl : i = l.len := by omega
          have hXT : X ++ ⟨#[125]⟩ = T := ba_ext (by rw [cat_list, hX.out, HTL.out])
          have hts := str_eq T
          have HW0 := Lib.hid hbr.out
          clear hi hik HACC HTL hX
          go_wp2_with fail
          refine (ML.out _ HW0.out).mono ?_
          rintro e w6 ⟨sm, cm, rfl, hcm, hrm, hb6⟩
          have HB6 := Lib.hid (HW0.out.trans (below_le' hb6 HW0.out.size))
          have HRM := Lib.hid (hrm.wide (fun b hb => hb.2))
          clear hb6 hrm
          go_wp2_with fail
          refine (TC.out _ HB6.out sm cm hcm HRM.out).mono ?_
          rintro e w7 ⟨rfl, hb7⟩
          have HB7 := Lib.hid (HB6.out.trans (below_le' hb7 HB6.out.size))
          clear hb7
          go_wp2_with fail
          refine (NC.out _).mono ?_
          rintro e w' ⟨k, hk, rfl, rfl⟩
          have hks : k ≤ T.size := by omega
          have RK := Lib.hid (RD.out k hk w7 HB7.out)
          have HXT := Lib.hid hXT
          clear hXT
          go_wp2_with fail
          refine RK.out.mono ?_
          rintro e w8 ⟨A, rfl, hb8, hA8⟩
          have HB8 := Lib.hid (HB7.out.trans (below_le' hb8 HB7.out.size))
          have HA8 := Lib.hid hA8
          clear hb8 hA8
          go_wp2_with fail
          obtain ⟨wb, hwb⟩ : ∃ wb, wb = w8.alloc (.cells #[.int .i64 0, .int .i64 0, .string ⟨#[]⟩, .slice none 0 0] 31) := ⟨_, rfl⟩
          have hbb : Below w8.heap.size w8 wb := by rw [hwb]; exact (Below.refl _ _).alloc (Nat.le_refl _) _
          rw [← hwb]
          have HBb := Lib.hid (HB8.out.trans (below_le' hbb HB8.out.size))
          have HAb := Lib.hid (HA8.out.below hbb)
          clear hwb hbb
          refine (PC.out k _).mono ?_
          rintro e w9 ⟨rfl, hb9⟩
          have HB9 := Lib.hid (HBb.out.trans (below_le' hb9 HBb.out.size))
          have S9 := Lib.hid (SC.out k A w9 HB9.out (HAb.out.below hb9))
          clear hb9
          unfold fltV at S9 ⊢
          go_wp2_with fail
          refine S9.out.mono ?_
          rintro e w10 ⟨rfl, hb10⟩
          have HB10 := Lib.hid (HB9.out.trans (below_le' hb10 HB9.out.size))
          clear hb10
          go_wp2_with fail
          go_returns
          exact ⟨rfl, HB10.out⟩
    · have hfb := (bne_of hf0).1
      clear HE HX HR hse htx hrep hq hf0 hfv
      go_enter Tryd.func7, Tryd.ntmps7
      go_wp2_with fail
      refine F.out.mono ?_
      rintro e w2 ⟨rfl, hb2⟩
      have HB2 := Lib.hid hb2
      clear hb2
      go_wp2_with fail
      refine (VC.out _ HB2.out).mono ?_
      rintro e w3 ⟨rfl, hb3⟩
      have HB3 := Lib.hid (HB2.out.trans (below_le' hb3 HB2.out.size))
      clear hb3
      go_wp2_with fail
      refine (LC.out _ HB3.out).mono ?_
      rintro e w4 ⟨sb, cb, rfl, hcb, hrb, hb4⟩
      have HB4 := Lib.hid (HB3.out.trans (below_le' hb4 HB3.out.size))
      have HRB := Lib.hid (hrb.wide (fun b hb => hb.2))
      clear hb4 hrb
      go_wp2_with fail
      refine (FC.out _ sb cb hcb HRB.out).mono ?_
      rintro e w5 ⟨rfl, hb5⟩
      have HB5 := Lib.hid (HB4.out.trans (below_le' hb5 HB4.out.size))
      clear hb5
      go_wp2_with fail
      go_returns
      exact ⟨rfl, HB5.out⟩
end Go.Proofs.YtoemnccklakkeaaDoor
