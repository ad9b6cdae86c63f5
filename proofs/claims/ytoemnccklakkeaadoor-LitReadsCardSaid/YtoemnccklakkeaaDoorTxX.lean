/-
  lit.Text: the walk.
-/
import Derived.Test.YtoemnccklakkeaaDoorTxT
namespace Go.Proofs.YtoemnccklakkeaaDoor
open Go.RowKit Go.Lib
set_option linter.unusedVariables false

/-- The text of a value, empty where it is not right. -/
def txtV (k n : Int) (s : ByteArray) (sub : VL) : ByteArray := if (walk1 k n s sub 1 4096).1 = 0 then ⟨(txt1 k n s (txtL sub)).toArray⟩ else ⟨#[]⟩

set_option maxRecDepth 100000 in
set_option maxHeartbeats 2000000 in
theorem Text_c (k n : Int) (s : ByteArray) (sub : VL) (sa : Option Addr) (sc : Nat) (ea : Nat → Addr) (w : World) (he : ErrsAt w ea) (hst : TxAt w) (hfit : (val1 k n s sub).fit) (h64 : (val1 k n s sub).i64) (hsc : sub.len ≤ sc)
    (hrep : RpL w (fun b => b < w.heap.size) sub sa) :
    Calls Tryd.prog 21 #[.agg #[.int .i64 k, .int .i64 n, .string s, .slice sa sub.len sc]] w fun e w' => e = .returned (.string (txtV k n s sub)) ∧ Below w.heap.size w w' := by
  have hroom := hst.room
  obtain ⟨wa, hwa⟩ : ∃ wa, wa = w.alloc (.cells #[.int .i64 k, .int .i64 n, .string s, .slice sa sub.len sc] 31) := ⟨_, rfl⟩
  have hba : Below w.heap.size w wa := by rw [hwa]; exact (Below.refl _ _).alloc (Nat.le_refl _) _
  have hwz : wa.heap.size = w.heap.size + 1 := by rw [hwa]; simp
  have hV : StB wa w.heap.size (.int .i64 k) (.int .i64 n) (.string s) (.slice sa sub.len sc) := by rw [hwa]; exact StB.new w _ _ _ _
  have v0 := hV.c0; have v1 := hV.c1; have v2 := hV.c2; have v3 := hV.c3
  rw [hwa] at v0 v1 v2 v3
  have hrpa := hrep.keep (w' := wa) (fun b hb => hba.block b hb) (fun b hb => hb)
  have VC := Lib.hid (valid_c k n s sub sa sc ea wa (he.below hba (Nat.le_of_lt hroom)) hfit.1 hfit.2.1 hfit.2.2.1 hsc (hrpa.wide (fun b hb => by omega)))
  have HBA := Lib.hid hba
  have HWA := Lib.hid hwa
  have HV := Lib.hid hV
  have HST := Lib.hid (hst.below hba (Nat.le_refl _))
  have HRP := Lib.hid hrpa
  have HWZ := Lib.hid hwz
  clear hba hV hwa hwz hrep hrpa he hst
  by_cases hc : (walk1 k n s sub 1 4096).1 = 0
  · have HT := Lib.hid (show txtV k n s sub = ⟨(txt1 k n s (txtL sub)).toArray⟩ by unfold txtV; rw [if_pos hc])
    have hcost := walk1_cost k n s sub 1 4096 (by omega) hc
    have TC := Lib.hid (fun W (hb : Below (w.heap.size + 1) wa W) => text_c (sub.size + 1) k n s sub sa sc 1 W (by omega) (walk1_ok hc) h64 (by unfold val1; rw [cost, cost]; omega) hsc
      (HRP.out.keep (fun b hlt => hb.block b (by omega)) (fun b hlt => by have := hb.size; have := HWZ.out; omega)) (HST.out.below hb (by have := HWZ.out; omega)))
    rw [hc, show errV ea 0 = Value.nilIface from rfl] at VC
    rw [HT.out]
    clear hc hcost
    go_enter Tryd.func21, Tryd.ntmps21
    go_wp2_with fail
    rw [← HWA.out]
    refine VC.out.mono ?_
    rintro e w2 ⟨rfl, hb2⟩
    have hb2' : Below (w.heap.size + 1) wa w2 := by rw [← HWZ.out]; exact hb2
    have hV2 := HV.out.below' hb2
    have u0 := hV2.c0; have u1 := hV2.c1; have u2 := hV2.c2; have u3 := hV2.c3
    have HB2 := Lib.hid hb2'
    clear hb2 hb2' hV2 v0 v1 v2 v3
    go_wp2_with fail
    refine (TC.out _ HB2.out).mono ?_
    rintro e w3 ⟨rfl, hb3⟩
    have HB3 := Lib.hid (HBA.out.trans (below_le' (HB2.out.trans (below_le' hb3 (by have := HB2.out.size; have := HWZ.out; omega))) (show w.heap.size ≤ w.heap.size + 1 by omega)))
    clear hb3
    go_wp2_with fail
    go_ret
    exact ⟨rfl, HB3.out⟩
  · have HT := Lib.hid (show txtV k n s sub = ⟨#[]⟩ by unfold txtV; rw [if_neg hc])
    have HERR := Lib.hid (show errV ea (walk1 k n s sub 1 4096).1 = .iface 142 (.pointer (some (ea (walk1 k n s sub 1 4096).1))) by unfold errV; rw [if_neg hc])
    rw [HERR.out] at VC
    rw [HT.out]
    clear hc
    go_enter Tryd.func21, Tryd.ntmps21
    go_wp2_with fail
    rw [← HWA.out]
    refine VC.out.mono ?_
    rintro e w2 ⟨rfl, hb2⟩
    have HB2 := Lib.hid (HBA.out.trans (below_le' hb2 (by have := HWZ.out; omega)))
    clear hb2
    go_wp2_with fail
    go_ret
    exact ⟨rfl, HB2.out⟩
end Go.Proofs.YtoemnccklakkeaaDoor
