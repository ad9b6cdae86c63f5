/- Contracts of the functions that the statement reaches, and the plain mathematics beneath: several texts joined. -/
import Derived.Test.YtbalpfpcbckghaaGreatDoorFtxAF
import Derived.Test.YtbalpfpcbckghaaGreatDoorFtxAG
namespace Go.Proofs.YtbalpfpcbckghaaGreatDoor
open Go.RowKit Go.Lib
set_option linter.unusedVariables false

theorem join_snoc (l : List (List UInt8)) (x : List UInt8) (h : l ≠ []) : join (l ++ [x]) [44, 32] = join l [44, 32] ++ [44, 32] ++ x := by
  cases l with
  | nil => exact absurd rfl h
  | cons a t =>
    rw [List.cons_append, join_cons, join_cons]
    simp [joinTail]
theorem sum_take (l : VL) (i : Nat) : ((txtL (l.take i)).map fun x => x.length + 2).sum ≤ ((txtL l).map fun x => x.length + 2).sum := by
  have h : txtL l = txtL (l.take i) ++ txtL (l.drop i) := by rw [← txtL_app, VL.take_app_drop]
  rw [h, List.map_append, List.sum_append]; omega

/-- What a call of the reference's text is to show. -/
def TextRC (N : Nat) : Prop := ∀ (k n : Int) (s : ByteArray) (sub : VL) (sa : Option Addr) (sc : Nat) (d : Int) (w : World), sub.size < N → OkL (val1 k n s sub) d → (val1 k n s sub).i64 → cost (val1 k n s sub) ≤ 4096 → sub.len ≤ sc →
  RpL w (fun b => b < w.heap.size) sub sa → TxAt w →
  Calls Tryz.prog 36 #[.agg #[.int .i64 k, .int .i64 n, .string s, .slice sa sub.len sc]] w fun e w' => e = .returned (.string ⟨(txt1 k n s (txtL sub)).toArray⟩) ∧ Below w.heap.size w w'

set_option maxRecDepth 100000 in
set_option maxHeartbeats 4000000 in
theorem textR_step (N : Nat) (ih : ∀ N', N' < N → TextRC N') : TextRC N := by
  intro k n s sub sa sc d w hN hok h64 hcost hsc hrep hst
  have hroom := hst.room
  obtain ⟨hown, hoks⟩ := OkL_one hok
  obtain ⟨hn0, hn1, h64s, _⟩ := h64
  obtain ⟨wa, hwa⟩ : ∃ wa, wa = w.alloc (.cells #[.int .i64 k, .int .i64 n, .string s, .slice sa sub.len sc] 24) := ⟨_, rfl⟩
  have hba : Below w.heap.size w wa := by rw [hwa]; exact (Below.refl _ _).alloc (Nat.le_refl _) _
  have hwz : wa.heap.size = w.heap.size + 1 := by rw [hwa]; simp
  have hV : StB wa w.heap.size (.int .i64 k) (.int .i64 n) (.string s) (.slice sa sub.len sc) := by rw [hwa]; exact StB.new w _ _ _ _
  have v0 := hV.c0; have v1 := hV.c1; have v2 := hV.c2; have v3 := hV.c3
  have hsta : TxAt wa := hst.below hba (Nat.le_refl _)
  have HBA := Lib.hid hba
  have HWA := Lib.hid hwa
  have HWZ := Lib.hid hwz
  have HST := Lib.hid hsta
  have HV := Lib.hid hV
  have hcs : cost (val1 k n s sub) = 1 + mOf k s + cost sub := by unfold val1; rw [cost, cost]; omega
  have FC := fun (W : World) (hW : TxAt W) => Lib.hid (Tryz.strconv_FormatInt_10 n (by omega) (by omega) W hW.tab)
  obtain ⟨t, ht⟩ : ∃ t : ByteArray, t = ⟨(itoa n).toArray⟩ := ⟨_, rfl⟩
  have htl : t.size ≤ 20 := by
    have h1 : t.size = t.data.toList.length := by rw [Array.length_toList]; rfl
    rw [h1, ht]; exact itoa_len hn0 hn1
  rw [← ht] at FC
  rw [hwa] at v0 v1 v2 v3
  rcases own_ok hown with ⟨rfl, -⟩ | ⟨rfl, -⟩ | ⟨rfl, -⟩ | ⟨rfl, hm0, hm1, -⟩ | ⟨rfl, -⟩
  · have HR := Lib.hid (show (⟨(txt1 0 n s (txtL sub)).toArray⟩ : ByteArray) = t by rw [ht]; rfl)
    rw [HR.out]
    clear hba hV hsta hwa hwz ht hrep hst hok hown hoks hcs HR
    go_enter Tryz.func36, Tryz.ntmps36
    go_wp2_with fail
    rw [← HWA.out]
    refine (FC _ HST.out).out.mono ?_
    rintro e w3 ⟨rfl, kk, os, hw3⟩
    have HB3 := Lib.hid (show Below w.heap.size w w3 by rw [hw3]; exact HBA.out.trans (below_grow _ _ HBA.out.size _ _))
    clear hw3
    go_wp2_with fail
    go_ret
    exact ⟨rfl, HB3.out⟩
  · have HR := Lib.hid (show (⟨(txt1 1 n s (txtL sub)).toArray⟩ : ByteArray) = ⟨#[35]⟩ ++ t by rw [ht]; apply ByteArray.ext; simp [txt1])
    rw [HR.out]
    clear hba hV hsta hwa hwz ht hrep hst hok hown hoks hcs HR
    go_enter Tryz.func36, Tryz.ntmps36
    go_wp2_with fail
    rw [← HWA.out]
    refine (FC _ HST.out).out.mono ?_
    rintro e w3 ⟨rfl, kk, os, hw3⟩
    have HB3 := Lib.hid (show Below w.heap.size w w3 by rw [hw3]; exact HBA.out.trans (below_grow _ _ HBA.out.size _ _))
    clear hw3
    go_wp2_with fail
    go_ret
    exact ⟨rfl, HB3.out⟩
  · have QC := Lib.hid (fun W => quoted_c s W (by
      have : mOf 2 s = s.size := rfl
      have := cost_ge sub
      omega))
    rw [show (⟨(quoL s.data.toList).toArray⟩ : ByteArray) = ⟨(txt1 2 n s (txtL sub)).toArray⟩ from rfl] at QC
    clear hba hV hsta hwa hwz ht hrep hst hok hown hoks hcs FC
    go_enter Tryz.func36, Tryz.ntmps36
    go_wp2_with fail
    rw [← HWA.out]
    refine (QC.out _).mono ?_
    rintro e w' ⟨rfl, rfl⟩
    go_wp2_with fail
    go_ret
    exact ⟨rfl, HBA.out⟩
  · have NC := Lib.hid (fun W => name_r n W (by omega) (by omega))
    rw [show nmS n = ⟨(txt1 3 n s (txtL sub)).toArray⟩ from rfl] at NC
    clear hba hV hsta hwa hwz ht hrep hst hok hown hoks hcs FC
    go_enter Tryz.func36, Tryz.ntmps36
    go_wp2_with fail
    rw [← HWA.out]
    refine (NC.out _).mono ?_
    rintro e w' ⟨rfl, rfl⟩
    go_wp2_with fail
    go_ret
    exact ⟨rfl, HBA.out⟩
  · have hcsub : cost sub ≤ 4096 := by have : mOf 4 s = 0 := rfl; omega
    have hsum := txtL_len_le sub (d + 1) hoks h64s
    have HRP := Lib.hid (hrep.keep (w' := wa) (fun b hb => hba.block b hb) (fun b hb => hb))
    clear hba hV hsta hwa hwz ht hrep hst hok hown hcs FC
    go_enter Tryz.func36, Tryz.ntmps36
    go_wp2_with fail
    rw [← HWA.out]
    clear v0 v1 v2 v3
    go_loopg [3, 4] sub.len (fun kk ov v wr => ∃ (X : ByteArray) (i : Nat), ov = .string X ∧ v = .int .i64 i ∧ i + kk = sub.len ∧ Hid (X.data.toList = 123 :: join (txtL (sub.take i)) [44, 32]) ∧ Below (w.heap.size + 1) wa wr)
    case atStart => exact ⟨⟨#[123]⟩, 0, rfl, rfl, by omega, by show _ = 123 :: join (txtL (sub.take 0)) [44, 32]; rw [VL.take]; rfl, Below.refl _ _⟩
    case round =>
      obtain ⟨X, i, rfl, rfl, hik, hX, hbr⟩ := hrel
      have hrz := hbr.size
      have hwz := HWZ.out
      have hvr := HV.out.below hbr (by omega)
      have x3 := hvr.c3
      have hXz : X.size ≤ 200000 := by
        have h1 : X.size = X.data.toList.length := by rw [Array.length_toList]; rfl
        have h2 := join_len (txtL (sub.take i))
        have h3 := sum_take sub i
        rw [h1, hX.out, List.length_cons]; omega
      have hln := len_cost sub
      by_cases hi : i < sub.len
      · obtain ⟨g, rfl⟩ : ∃ g, gk = g + 1 := ⟨gk - 1, by omega⟩
        obtain ⟨b, o, k', n', s', sub', sa', sc', hA, hd, hSb, c0, c1, c2, c3, hcl, hrs, hszd⟩ := rp_at (HRP.out.keep (w' := wr) (fun b hb => hbr.block b (by omega)) (fun b hb => hb)) hi
        have hts := VL.take_succ i sub k' n' s' sub' hd
        have hod := ok_drop i sub (d + 1) hoks
        rw [hd] at hod
        have h6d := i64_drop i sub h64s
        rw [hd] at h6d
        have hcd := cost_drop i sub
        rw [hd, cost] at hcd
        have hcr := cost_ge (sub.drop (i + 1))
        have IHC := Lib.hid (ih (sub'.size + 1) (by omega) k' n' s' sub' sa' sc' (d + 1) wr (by omega) ⟨hod.1, hod.2.1, hod.2.2.1, trivial⟩ ⟨h6d.1, h6d.2.1, h6d.2.2.1, trivial⟩ (by unfold val1; rw [cost, cost]; omega) hcl
          (hrs.keep (fun b hb => rfl) (fun b hb => by omega)) (HST.out.below hbr (by omega)))
        obtain ⟨x, hx⟩ : ∃ x : ByteArray, x = ⟨(txt1 k' n' s' (txtL sub')).toArray⟩ := ⟨_, rfl⟩
        rw [← hx] at IHC
        have hxs : x.size ≤ 200000 := by
          have h1 : x.size = x.data.toList.length := by rw [Array.length_toList]; rfl
          have h3 := sum_take sub (i + 1)
          rw [hts, txtL_app, List.map_append, List.sum_append] at h3
          have h4 : x.data.toList = txt1 k' n' s' (txtL sub') := by rw [hx]
          have h5 : ((txtL (.cons k' n' s' sub' .nil)).map fun x => x.length + 2).sum = (txt1 k' n' s' (txtL sub')).length + 2 := by simp [txtL]
          rw [h1, h4]; omega
        have HT := Lib.hid (show txtL (sub.take (i + 1)) = txtL (sub.take i) ++ [x.data.toList] by rw [hts, txtL_app, hx]; rfl)
        have HSA := Lib.hid hA
        have HBR := Lib.hid hbr
        subst hA
        clear hrs hbr hd hts hod h6d hcd hx hvr
        by_cases h0 : i = 0
        · subst h0
          have HN := Lib.hid (show (X ++ x : ByteArray).data.toList = 123 :: join (txtL (sub.take (0 + 1))) [44, 32] by
            have h1 := hX.out
            rw [HT.out]
            rw [VL.take] at h1 ⊢
            rw [show txtL VL.nil = [] from rfl, join_nil] at h1
            rw [show txtL VL.nil = [] from rfl, List.nil_append, join_one]
            simp [h1])
          have hd0 : decide ((0 : Int) < ((0 : Nat) : Int)) = false := by decide
          rw [Nat.zero_mul, Nat.add_zero] at c0 c1 c2 c3
          go_wp2_with fail
          refine IHC.out.mono ?_
          rintro e w5 ⟨rfl, hb5⟩
          have HB5 := Lib.hid (HBR.out.trans (below_le' hb5 (by have := HBR.out.size; omega)))
          clear hb5
          go_wp2_with fail
          go_roundg g
          case measure => omega
          case rel => exact ⟨_, 0 + 1, rfl, by go_num, by omega, HN.out, HB5.out⟩
        · have HN := Lib.hid (show (X ++ ⟨#[44, 32]⟩ ++ x : ByteArray).data.toList = 123 :: join (txtL (sub.take (i + 1))) [44, 32] by
            have h1 := hX.out
            rw [HT.out, join_snoc _ _ (fun e => by
              have := congrArg List.length e
              rw [txtL_len] at this
              have h2 : (sub.take i).len + (sub.drop i).len = sub.len := by rw [← VL.len_app, VL.take_app_drop]
              rw [VL.len_drop] at h2
              simp only [List.length_nil] at this
              omega)]
            simp [h1])
          have hd0 : decide ((0 : Int) < (i : Int)) = true := by simp; omega
          go_wp2_with fail
          refine IHC.out.mono ?_
          rintro e w5 ⟨rfl, hb5⟩
          have HB5 := Lib.hid (HBR.out.trans (below_le' hb5 (by have := HBR.out.size; omega)))
          clear hb5
          go_wp2_with fail
          go_roundg g
          case measure => omega
          case rel => exact ⟨_, i + 1, rfl, by go_num, by omega, HN.out, HB5.out⟩
      · obtain rfl : i = sub.len := by omega
        have HN := Lib.hid (show (X ++ ⟨#[125]⟩ : ByteArray) = ⟨(txt1 4 n s (txtL sub)).toArray⟩ by
          have h1 := hX.out
          rw [VL.take_len] at h1
          apply ByteArray.ext
          have h2 : (X ++ ⟨#[125]⟩ : ByteArray).data.toList = txt1 4 n s (txtL sub) := by
            show _ = 123 :: (join (txtL sub) [44, 32] ++ [125])
            simp [h1]
          rw [← h2])
        have HBR := Lib.hid (HBA.out.trans (below_le' hbr (by omega)))
        clear hbr hvr
        go_wp2_with fail
        go_ret
        exact ⟨ret_str HN.out, HBR.out⟩

theorem textR_c (N : Nat) : TextRC N := by
  induction N using Nat.strongRecOn with
  | _ N ih => exact textR_step N ih
end Go.Proofs.YtbalpfpcbckghaaGreatDoor
namespace Go.Proofs.YtbalpfpcbckghaaGreatDoor
open Go.RowKit Go.Lib
set_option linter.unusedVariables false

theorem rightB_txt (k n : Int) (s : ByteArray) (sub : VL) : (rightB k n s sub = true → txtV k n s sub = ⟨(txt1 k n s (txtL sub)).toArray⟩ ∧ plnV k n s sub = pln1 k n s sub ∧ (walk1 k n s sub 1 4096).1 = 0) ∧ (rightB k n s sub = false → txtV k n s sub = ⟨#[]⟩ ∧ plnV k n s sub = ⟨#[]⟩) := by
  unfold rightB txtV plnV
  constructor
  · intro h; have h := of_decide_eq_true h; rw [if_pos h, if_pos h]; exact ⟨rfl, rfl, h⟩
  · intro h; have h := of_decide_eq_false h; rw [if_neg h, if_neg h]; exact ⟨rfl, rfl⟩

set_option maxRecDepth 100000 in
set_option maxHeartbeats 2000000 in
theorem TextR_c (k n : Int) (s : ByteArray) (sub : VL) (sa : Option Addr) (sc : Nat) (w : World) (hst : TxAt w) (hfit : (val1 k n s sub).fit) (h64 : (val1 k n s sub).i64) (hsc : sub.len ≤ sc)
    (hrep : RpL w (fun b => b < w.heap.size) sub sa) :
    Calls Tryz.prog 19 #[.agg #[.int .i64 k, .int .i64 n, .string s, .slice sa sub.len sc]] w fun e w' => e = .returned (.string (txtV k n s sub)) ∧ Below w.heap.size w w' := by
  have hroom := hst.room
  obtain ⟨wa, hwa⟩ : ∃ wa, wa = w.alloc (.cells #[.int .i64 k, .int .i64 n, .string s, .slice sa sub.len sc] 24) := ⟨_, rfl⟩
  have hba : Below w.heap.size w wa := by rw [hwa]; exact (Below.refl _ _).alloc (Nat.le_refl _) _
  have hwz : wa.heap.size = w.heap.size + 1 := by rw [hwa]; simp
  have hV : StB wa w.heap.size (.int .i64 k) (.int .i64 n) (.string s) (.slice sa sub.len sc) := by rw [hwa]; exact StB.new w _ _ _ _
  have v0 := hV.c0; have v1 := hV.c1; have v2 := hV.c2; have v3 := hV.c3
  rw [hwa] at v0 v1 v2 v3
  have hrpa := hrep.keep (w' := wa) (fun b hb => hba.block b hb) (fun b hb => hb)
  have VC := Lib.hid (right_c k n s sub sa sc wa hfit hsc (hrpa.wide (fun b hb => by omega)))
  have HBA := Lib.hid hba
  have HWA := Lib.hid hwa
  have HV := Lib.hid hV
  have HST := Lib.hid (hst.below hba (Nat.le_refl _))
  have HRP := Lib.hid hrpa
  have HWZ := Lib.hid hwz
  obtain ⟨h1, h2⟩ := rightB_txt k n s sub
  obtain ⟨q, hq⟩ : ∃ q, q = rightB k n s sub := ⟨_, rfl⟩
  rw [← hq] at VC h1 h2
  clear hba hV hwa hwz hrep hrpa hst hq
  cases q with
  | true =>
    obtain ⟨ht, _, hc⟩ := h1 rfl
    have HT := Lib.hid ht
    have hcost := walk1_cost k n s sub 1 4096 (by omega) hc
    have TC := Lib.hid (fun W (hb : Below (w.heap.size + 1) wa W) => textR_c (sub.size + 1) k n s sub sa sc 1 W (by omega) (walk1_ok hc) h64 (by unfold val1; rw [cost, cost]; omega) hsc
      (HRP.out.keep (fun b hlt => hb.block b (by omega)) (fun b hlt => by have := hb.size; have := HWZ.out; omega)) (HST.out.below hb (by have := HWZ.out; omega)))
    rw [HT.out]
    clear hc hcost ht h1 h2
    go_enter Tryz.func19, Tryz.ntmps19
    go_wp2_with fail
    rw [← HWA.out]
    refine VC.out.mono ?_
    rintro e w2 ⟨rfl, hb2⟩
    have hb2' : Below (w.heap.size + 1) wa w2 := by rw [← HWZ.out]; exact hb2
    have hV2 := HV.out.below' hb2
    have u0 := hV2.c0; have u1 := hV2.c1; have u2 := hV2.c2; have u3 := hV2.c3
    have HB2 := Lib.hid hb2'
    clear hb2 hb2' hV2 v0 v1 v2 v3
    go_wp2_with fail
    refine (TC.out _ HB2.out).mono ?_
    rintro e w3 ⟨rfl, hb3⟩
    have HB3 := Lib.hid (HBA.out.trans (below_le' (HB2.out.trans (below_le' hb3 (by have := HB2.out.size; have := HWZ.out; omega))) (show w.heap.size ≤ w.heap.size + 1 by omega)))
    clear hb3
    go_wp2_with fail
    go_ret
    exact ⟨rfl, HB3.out⟩
  | false =>
    have HT := Lib.hid (h2 rfl).1
    rw [HT.out]
    clear h1 h2
    go_enter Tryz.func19, Tryz.ntmps19
    go_wp2_with fail
    rw [← HWA.out]
    refine VC.out.mono ?_
    rintro e w2 ⟨rfl, hb2⟩
    have HB2 := Lib.hid (HBA.out.trans (below_le' hb2 (by have := HWZ.out; omega)))
    clear hb2
    go_wp2_with fail
    go_ret
    exact ⟨rfl, HB2.out⟩

end Go.Proofs.YtbalpfpcbckghaaGreatDoor
