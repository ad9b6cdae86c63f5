/-
  LitSpoilt: the walk of the law.
-/
import Derived.Test.YtoemnccklakkeaaDoorSpP
import Derived.Test.YtoemnccklakkeaaDoorFtB
import Derived.Test.YtoemnccklakkeaaDoorNbL
import Derived.Deep.RegionHeld3
import Derived.Deep.QuietTactic
import Derived.BigQuiet
namespace Go.Proofs.YtoemnccklakkeaaDoor
open Go.RowKit Go.Lib
set_option linter.unusedVariables false

theorem txt_len' {k n : Int} {s : ByteArray} {sub : VL} (h0 : (walk1 k n s sub 1 4096).1 = 0) (h64 : (val1 k n s sub).i64) : (txt1 k n s (txtL sub)).length ≤ 100000 := by
  have h1 := txtL_len_le (val1 k n s sub) 1 (walk1_ok h0) h64
  have h2 := walk1_cost k n s sub 1 4096 (by omega) h0
  have h3 : cost (val1 k n s sub) = 1 + mOf k s + cost sub := by unfold val1; rw [cost, cost]; omega
  have h4 : ((txtL (val1 k n s sub)).map fun x => x.length + 2).sum = (txt1 k n s (txtL sub)).length + 2 := by simp [txtL, val1]
  rw [h4] at h1
  omega

/-- What the second reading shows, in one form. -/
def PRead (s : ByteArray) (w : World) (e : Ending) (w' : World) : Prop :=
  ∃ (k n : Int) (t : ByteArray) (A : Option Addr) (L C : Nat) (ev : Value), e = .returned (.tuple #[.agg #[.int .i64 k, .int .i64 n, .string t, .slice A L C], ev]) ∧ Below w.heap.size w w' ∧
    Hid ((∃ p : Addr, ev = .iface 66 (.pointer (some p)) ∨ ev = .iface 142 (.pointer (some p))) ∨ (ev = .nilIface ∧ ∃ sub : VL, L = sub.len ∧ sub.len ≤ C ∧ RpL w' (fun b => w.heap.size ≤ b ∧ b < w'.heap.size) sub A ∧ (walk1 k n t sub 1 4096).1 = 0 ∧ s.data.toList = txt1 k n t (txtL sub) ∧ (val1 k n t sub).fit ∧ (val1 k n t sub).i64))
theorem read_text1 {ea : Nat → Addr} {s : ByteArray} {w w' : World} {e : Ending} (hs : s.size ≤ 1000000000) (h : RdOut ea s w e w') : PRead s w e w' := by
  obtain ⟨hb, ⟨k, n, t, A, L, C, ev, rfl, hev⟩ | ⟨k, n, t, sub, sa, sc, rfl, h1, h2, h3, h4, h5, h6⟩⟩ := read_text hs h
  · exact ⟨_, _, _, _, _, _, _, rfl, hb, .inl hev⟩
  · exact ⟨_, _, _, _, _, _, _, rfl, hb, .inr ⟨rfl, sub, rfl, h1, h2, h3, h4, h5, h6⟩⟩

set_option maxRecDepth 100000 in
set_option maxHeartbeats 8000000 in
theorem litSpoilt_c (l : VL) (sa : Option Addr) (sc : Nat) (n : Int) (ea : Nat → Addr) (w : World) (hfit : l.fit) (h64 : l.i64) (hln : l.len ≤ 140737488351232) (hsc : l.len ≤ sc) (hrep : RpL w (fun b => b < w.heap.size) l sa)
    (hn0 : -9223372036854775808 ≤ n) (hn1 : n ≤ 9223372036854775807) (he : ErrsAt w ea) (htx : TxAt w) :
    Calls Tryd.prog 8 #[.slice sa l.len sc, .int .i64 n] w fun e w' => e = .returned (.bool true) ∧ Below w.heap.size w w' := by
  have hroom := htx.room
  have HE := fun (W : World) (hW : Below w.heap.size w W) => he.below hW (Nat.le_of_lt hroom)
  have HX := fun (W : World) (hW : Below w.heap.size w W) => htx.below hW (Nat.le_refl _)
  have HR := fun (W : World) (hW : Below w.heap.size w W) => hrep.keep (w' := W) (S' := fun b => b < W.heap.size) (fun b hb => hW.block b hb) (fun b hb => by have := hW.size; omega)
  have F := Lib.hid (first_c ea w he)
  have VC := Lib.hid (fun W hW => worldValues_c l sa sc W hfit hln hsc (HR W hW))
  obtain ⟨q, hq⟩ : ∃ q, q = (decide (l.len ≤ 12) && rightsL l) := ⟨_, rfl⟩
  rw [← hq] at VC
  cases q with
  | false =>
    clear HE HX HR he htx hrep hq
    go_enter Tryd.func8, Tryd.ntmps8
    go_wp2_with fail
    refine F.out.mono ?_
    rintro e w2 ⟨rfl, hb2⟩
    have HB2 := Lib.hid hb2
    clear hb2
    go_wp2_with fail
    refine (VC.out _ HB2.out).mono ?_
    rintro e w3 ⟨rfl, hb3⟩
    have HB3 := Lib.hid (HB2.out.trans (below_le' hb3 HB2.out.size))
    clear hb3
    go_wp2_with fail
    go_returns
    exact ⟨rfl, HB3.out⟩
  | true =>
    rw [eq_comm, Bool.and_eq_true, decide_eq_true_eq] at hq
    have hcost : cost l ≤ 49152 := by have := rights_cost l hq.2; omega
    have hm4 : mOf 4 ⟨#[]⟩ = 0 := rfl
    have LC := Lib.hid (fun W hW => refL_c l sa sc W (by omega) hsc (HR W hW))
    have FC := Lib.hid (fun (W : World) (sa' : Option Addr) (sc' : Nat) (hsc' : l.len ≤ sc') (hr' : RpL W (fun b => b < W.heap.size) l sa') => fits_c 4 0 ⟨#[]⟩ l sa' sc' W (by omega) hsc' hr')
    obtain ⟨fv, hfv⟩ : ∃ fv, fv = fitsV 4 ⟨#[]⟩ l := ⟨_, rfl⟩
    rw [← hfv] at FC
    by_cases hf0 : fv = 0
    · have ML := Lib.hid (fun W hW => valL_c l sa sc W (by omega) hsc (HR W hW))
      have hvf : (val1 4 0 ⟨#[]⟩ l).fit := ⟨by decide, hln, hfit, trivial⟩
      have hv6 : (val1 4 0 ⟨#[]⟩ l).i64 := ⟨by decide, by decide, h64, trivial⟩
      have TC := Lib.hid (fun (W : World) hW (sa' : Option Addr) (sc' : Nat) (hsc' : l.len ≤ sc') (hr' : RpL W (fun b => b < W.heap.size) l sa') => Text_c 4 0 ⟨#[]⟩ l sa' sc' ea W (HE W hW) (HX W hW) hvf hv6 hsc' hr')
      obtain ⟨T, hT⟩ : ∃ T, T = txtV 4 0 ⟨#[]⟩ l := ⟨_, rfl⟩
      rw [← hT] at TC
      have hTc : T = ⟨#[]⟩ ∨ ((walk1 4 0 ⟨#[]⟩ l 1 4096).1 = 0 ∧ T.data.toList = txt1 4 0 ⟨#[]⟩ (txtL l)) := by
        rw [hT]; unfold txtV
        split
        · rename_i h; exact .inr ⟨h, rfl⟩
        · exact .inl rfl
      have hTs : T.size ≤ 100000 := by
        rcases hTc with h | ⟨h1, h2⟩
        · rw [h]; decide
        · have h3 : T.size = T.data.toList.length := by rw [Array.length_toList]; rfl
          rw [h3, h2]; exact txt_len' h1 hv6
      have NC := Lib.hid (fun W => wnumber_c n (T.size + 1) W hn0 hn1 (by omega) (by omega))
      rw [show (((T.size + 1 : Nat)) : Int) = (T.size : Int) + 1 from by omega] at NC
      have RD := Lib.hid (fun (X : ByteArray) (hX : X.size ≤ 300000) (W : World) hW => read_c X ea W (HE W hW) (by omega))
      have RS := Lib.hid (fun (X : ByteArray) (hX : (1 : UInt8) ∈ X.data.toList) (W W' : World) (e : Ending) (h : RdOut ea X W e W') => read_sign hX h)
      have RT := Lib.hid (fun (X : ByteArray) (hX : X.size ≤ 300000) (W W' : World) (e : Ending) (h : RdOut ea X W e W') => read_text1 (by omega) h)
      have GE := Lib.hid HE
      have GX := Lib.hid HX
      have GR := Lib.hid HR
      have HTC := Lib.hid hTc
      have HVF := Lib.hid hvf
      have HCO := Lib.hid hcost
      rw [hf0] at FC
      clear HE HX HR he htx hrep hq hf0 hfv hT hTc hvf hv6 hcost hfit h64
      go_enter Tryd.func8, Tryd.ntmps8
      go_wp2_with fail
      refine F.out.mono ?_
      rintro e w2 ⟨rfl, hb2⟩
      have HB2 := Lib.hid hb2
      clear hb2
      go_wp2_with fail
      refine (VC.out _ HB2.out).mono ?_
      rintro e w3 ⟨rfl, hb3⟩
      have HB3 := Lib.hid (HB2.out.trans (below_le' hb3 HB2.out.size))
      clear hb3
      go_wp2_with fail
      refine (LC.out _ HB3.out).mono ?_
      rintro e w4 ⟨sb, cb, rfl, hcb, hrb, hb4⟩
      have HB4 := Lib.hid (HB3.out.trans (below_le' hb4 HB3.out.size))
      have HRB := Lib.hid (hrb.wide (fun b hb => hb.2))
      clear hb4 hrb
      go_wp2_with fail
      refine (FC.out _ sb cb hcb HRB.out).mono ?_
      rintro e w5 ⟨rfl, hb5⟩
      have HB5 := Lib.hid (HB4.out.trans (below_le' hb5 HB4.out.size))
      clear hb5
      go_wp2_with fail
      refine (ML.out _ HB5.out).mono ?_
      rintro e w6 ⟨sm, cm, rfl, hcm, hrm, hb6⟩
      have HB6 := Lib.hid (HB5.out.trans (below_le' hb6 HB5.out.size))
      have HRM := Lib.hid (hrm.wide (fun b hb => hb.2))
      clear hb6 hrm
      go_wp2_with fail
      refine (TC.out _ HB6.out sm cm hcm HRM.out).mono ?_
      rintro e w7 ⟨rfl, hb7⟩
      have HB7 := Lib.hid (HB6.out.trans (below_le' hb7 HB6.out.size))
      clear hb7
      go_wp2_with fail
      refine (NC.out _).mono ?_
      rintro e w' ⟨k, hk, rfl, rfl⟩
      have hkl : k ≤ T.size := by omega
      obtain ⟨X1, hX1⟩ : ∃ X1 : ByteArray, X1 = T.extract 0 k ++ ⟨#[1]⟩ ++ T.extract k T.size := ⟨_, rfl⟩
      have hx1 : X1.size ≤ 300000 := by rw [hX1]; simp only [ByteArray.size_append, ByteArray.size_extract]; have : (⟨#[1]⟩ : ByteArray).size = 1 := rfl; omega
      have hx1m : (1 : UInt8) ∈ X1.data.toList := by rw [hX1]; simp
      obtain ⟨wz, hwz⟩ : ∃ wz, wz = (w7.alloc (.cells #[.int .i64 0, .int .i64 0, .string ⟨#[]⟩, .slice none 0 0] 31)).drew := ⟨_, rfl⟩
      have hbz : Below w7.heap.size w7 wz := by rw [hwz]; exact ((Below.refl _ _).alloc (Nat.le_refl _) _).drew
      have HB7z := Lib.hid (HB7.out.trans (below_le' hbz HB7.out.size))
      have HB7d := Lib.hid (show Below w.heap.size w w7.drew from HB7.out.drew)
      have HSz := Lib.hid (show StB wz w7.heap.size (.int .i64 0) (.int .i64 0) (.string ⟨#[]⟩) (.slice none 0 0) by rw [hwz]; exact StB.new w7 _ _ _ _)
      have RZ := Lib.hid ((RD.out X1 hx1 wz HB7z.out).mono (R' := fun e W' => ∃ (k n : Int) (t : ByteArray) (A : Option Addr) (L C : Nat) (Ty : TypeId) (V : Value), e = .returned (.tuple #[.agg #[.int .i64 k, .int .i64 n, .string t, .slice A L C], .iface Ty V]) ∧ Below wz.heap.size wz W') (fun e W' => RS.out X1 hx1m wz W' e))
      have RZ2 := Lib.hid ((RD.out X1 hx1 w7.drew HB7d.out).mono (R' := fun e W' => ∃ (k n : Int) (t : ByteArray) (A : Option Addr) (L C : Nat) (Ty : TypeId) (V : Value), e = .returned (.tuple #[.agg #[.int .i64 k, .int .i64 n, .string t, .slice A L C], .iface Ty V]) ∧ Below w7.drew.heap.size w7.drew W') (fun e W' => RS.out X1 hx1m w7.drew W' e))
      rw [hwz] at RZ HSz HB7z
      rw [hX1] at RZ RZ2
      clear hwz hbz hX1 hx1 hx1m
      have hz2 : ¬ 9223372036854775807 < k + 1 := by omega
      have hz3 : ¬ 9223372036854775807 < k + 1 + (T.size - k) := by omega
      have hz4 : ¬ 9223372036854775807 < k + (T.size - (k + 1)) := by omega
      by_cases hke : k = T.size
      · have hkd : ((k : Int) == (T.size : Int)) = true := by rw [hke]; exact beq_self_eq_true _
        clear hke
        go_wp2_with fail
        go_region_with (first
          | (go_at_call 17; refine RZ.out.mono ?_; rintro e w9 ⟨k9, n9, t9, A9, L9, C9, Ty9, V9, rfl, hb9⟩
             have hs9 := HSz.out.below' hb9
             have z0 := hs9.c0; have z1 := hs9.c1; have z2 := hs9.c2; have z3 := hs9.c3; have f0 := hs9.fr 0; have f1 := hs9.fr 1; have f2 := hs9.fr 2; have f3 := hs9.fr 3
             have HB9 := Lib.hid (below_set4 (HB7z.out.trans (below_le' hb9 HB7z.out.size)) HB7.out.size (.int .i64 k9) (.int .i64 n9) (.string t9) (.slice A9 L9 C9))
             clear hb9 hs9)
          | (go_at_call 17; refine RZ2.out.mono ?_; rintro e w9 ⟨k9, n9, t9, A9, L9, C9, Ty9, V9, rfl, hb9⟩
             have HB9 := Lib.hid (show Below w.heap.size w (w9.alloc (.cells #[.int .i64 k9, .int .i64 n9, .string t9, .slice A9 L9 C9] 31)) from (HB7d.out.trans (below_le' hb9 HB7d.out.size)).alloc (HB7d.out.trans (below_le' hb9 HB7d.out.size)).size _)
             clear hb9))
        all_goals (go_wp2_with fail)
        all_goals
          go_returns
          exact ⟨rfl, HB9.out⟩
      · have hkd : ((k : Int) == (T.size : Int)) = false := (bne_of (by omega)).2
        have hk1 : k < T.size := by omega
        have hk2 : k + 1 ≤ T.size := by omega
        obtain ⟨k1, hk1e⟩ : ∃ k1 : Nat, k1 = k + 1 := ⟨_, rfl⟩
        have hk1s : k1 ≤ T.size := by omega
        have HWR := Lib.hid (show IntKind.i64.wrap ((k : Int) + 1) = (k1 : Int) by rw [IntKind.wrap_i64]; omega)
        have HZ5 := Lib.hid (show ¬ 9223372036854775807 < k + (T.size - k1) by omega)
        have HK1 := Lib.hid hk1e
        clear hk1e hk2
        clear hke
        go_wp2_with fail
        go_region_with (first
          | (go_at_call 17; refine RZ.out.mono ?_; rintro e w9 ⟨k9, n9, t9, A9, L9, C9, Ty9, V9, rfl, hb9⟩
             have hs9 := HSz.out.below' hb9
             have z0 := hs9.c0; have z1 := hs9.c1; have z2 := hs9.c2; have z3 := hs9.c3; have f0 := hs9.fr 0; have f1 := hs9.fr 1; have f2 := hs9.fr 2; have f3 := hs9.fr 3
             have HB9 := Lib.hid (below_set4 (HB7z.out.trans (below_le' hb9 HB7z.out.size)) HB7.out.size (.int .i64 k9) (.int .i64 n9) (.string t9) (.slice A9 L9 C9))
             clear hb9 hs9)
          | (go_at_call 17; refine RZ2.out.mono ?_; rintro e w9 ⟨k9, n9, t9, A9, L9, C9, Ty9, V9, rfl, hb9⟩
             have HB9 := Lib.hid (show Below w.heap.size w (w9.alloc (.cells #[.int .i64 k9, .int .i64 n9, .string t9, .slice A9 L9 C9] 31)) from (HB7d.out.trans (below_le' hb9 HB7d.out.size)).alloc (HB7d.out.trans (below_le' hb9 HB7d.out.size)).size _)
             clear hb9))
        all_goals (go_wp2_with fail)
        all_goals first
          | (obtain ⟨w10, hw10⟩ : ∃ w10, w10 = ((((w9.setCell ⟨w7.heap.size, 0, none⟩ (.int .i64 k9)).setCell ⟨w7.heap.size, 1, none⟩ (.int .i64 n9)).setCell ⟨w7.heap.size, 2, none⟩ (.string t9)).setCell ⟨w7.heap.size, 3, none⟩ (.slice A9 L9 C9)) := ⟨_, rfl⟩
             rw [← hw10] at HB9 ⊢)
          | (obtain ⟨w10, hw10⟩ : ∃ w10, w10 = w9.alloc (.cells #[.int .i64 k9, .int .i64 n9, .string t9, .slice A9 L9 C9] 31) := ⟨_, rfl⟩
             rw [← hw10] at HB9 ⊢)
        all_goals
          clear hw10 RZ RZ2 HSz HB7z HB7d RS
          obtain ⟨X2, hX2⟩ : ∃ X2 : ByteArray, X2 = T.extract 0 k ++ T.extract k1 T.size := ⟨_, rfl⟩
          have hx2 : X2.size ≤ 300000 := by rw [hX2]; simp only [ByteArray.size_append, ByteArray.size_extract]; omega
          obtain ⟨wy, hwy⟩ : ∃ wy, wy = (w10.alloc (.cells #[.int .i64 0, .int .i64 0, .string ⟨#[]⟩, .slice none 0 0] 31)).drew := ⟨_, rfl⟩
          have hby : Below w10.heap.size w10 wy := by rw [hwy]; exact ((Below.refl _ _).alloc (Nat.le_refl _) _).drew
          have hyz : wy.heap.size = w10.heap.size + 1 := by rw [hwy]; simp [World.drew]
          have HBy := Lib.hid (HB9.out.trans (below_le' hby HB9.out.size))
          have HBd := Lib.hid (show Below w.heap.size w w10.drew from HB9.out.drew)
          have HSy := Lib.hid (show StB wy w10.heap.size (.int .i64 0) (.int .i64 0) (.string ⟨#[]⟩) (.slice none 0 0) by rw [hwy]; exact StB.new w10 _ _ _ _)
          have RY := Lib.hid ((RD.out X2 hx2 wy HBy.out).mono (R' := PRead X2 wy) (fun e W' => RT.out X2 hx2 wy W' e))
          have RY2 := Lib.hid ((RD.out X2 hx2 w10.drew HBd.out).mono (R' := PRead X2 w10.drew) (fun e W' => RT.out X2 hx2 w10.drew W' e))
          have HYZ := Lib.hid hyz
          have HX2 := Lib.hid hX2
          have X2e := str_eq X2
          rw [hwy] at RY HSy HBy HYZ
          rw [hX2] at RY RY2 X2e HX2
          clear hwy hby hX2 hx2 hyz
          have hwr2 := HWR.out
          have hz5 := HZ5.out
          go_region_with (first
            | (go_at_call 17; refine RY.out.mono ?_; rintro e w11 ⟨kx, nx, t1, A1, L1, C1, ev, rfl, hb1, hdis⟩
               have hs1 := HSy.out.below' hb1
               have z0 := hs1.c0; have z1 := hs1.c1; have z2 := hs1.c2; have z3 := hs1.c3; have f0 := hs1.fr 0; have f1 := hs1.fr 1; have f2 := hs1.fr 2; have f3 := hs1.fr 3
               have HS1 := Lib.hid hs1
               have HB1 := Lib.hid (HBy.out.trans (below_le' hb1 HBy.out.size))
               have HZ1 := Lib.hid hb1.size
               clear hb1 hs1)
            | (go_at_call 17; refine RY2.out.mono ?_; rintro e w11 ⟨kx, nx, t1, A1, L1, C1, ev, rfl, hb1, hdis⟩
               have HB1 := Lib.hid (HBd.out.trans (below_le' hb1 HBd.out.size))
               clear hb1))
        all_goals first
          | (obtain ⟨w12, hw12⟩ : ∃ w12, w12 = ((((w11.setCell ⟨w10.heap.size, 0, none⟩ (.int .i64 kx)).setCell ⟨w10.heap.size, 1, none⟩ (.int .i64 nx)).setCell ⟨w10.heap.size, 2, none⟩ (.string t1)).setCell ⟨w10.heap.size, 3, none⟩ (.slice A1 L1 C1)) := ⟨_, rfl⟩
             rw [← hw12]
             obtain ⟨g, hg⟩ : ∃ g, g = w10.heap.size := ⟨_, rfl⟩
             rw [← hg]
             have HB12 := Lib.hid (show Below w.heap.size w w12 by rw [hw12]; exact below_set4 HB1.out HB9.out.size _ _ _ _)
             have HT12 := Lib.hid (show StB w12 g (.int .i64 kx) (.int .i64 nx) (.string t1) (.slice A1 L1 C1) by rw [hw12, hg]; exact HS1.out.set4 _ _ _ _)
             have HK := Lib.hid (show ∀ (sub : VL) (A : Option Addr), RpL w11 (fun b => (w10.alloc (.cells #[.int .i64 0, .int .i64 0, .string ⟨#[]⟩, .slice none 0 0] 31)).drew.heap.size ≤ b ∧ b < w11.heap.size) sub A → RpL w12 (fun b => b < w12.heap.size) sub A from fun sub A h => h.keep (fun b hb => by rw [hw12]; exact heap_set4 _ _ _ _ _ _ _ (by have := HYZ.out; omega)) (fun b hb => by rw [hw12, size_set4]; exact hb.2))
             have HD := Lib.hid (show ((∃ p : Addr, ev = .iface 66 (.pointer (some p)) ∨ ev = .iface 142 (.pointer (some p))) ∨ (ev = .nilIface ∧ ∃ sub : VL, L1 = sub.len ∧ sub.len ≤ C1 ∧ RpL w12 (fun b => b < w12.heap.size) sub A1 ∧ (walk1 kx nx t1 sub 1 4096).1 = 0 ∧ (T.extract 0 k ++ T.extract k1 T.size : ByteArray).data.toList = txt1 kx nx t1 (txtL sub) ∧ (val1 kx nx t1 sub).fit ∧ (val1 kx nx t1 sub).i64)) by
               rcases hdis.out with h | ⟨h, sub, a1, a2, a3, a4, a5, a6, a7⟩
               · exact .inl h
               · exact .inr ⟨h, sub, a1, a2, HK.out _ _ a3, a4, a5, a6, a7⟩)
             clear hw12 hg HK hdis)
          | (obtain ⟨w12, hw12⟩ : ∃ w12, w12 = w11.alloc (.cells #[.int .i64 kx, .int .i64 nx, .string t1, .slice A1 L1 C1] 31) := ⟨_, rfl⟩
             rw [← hw12]
             obtain ⟨g, hg⟩ : ∃ g, g = w11.heap.size := ⟨_, rfl⟩
             rw [← hg]
             have HB12 := Lib.hid (show Below w.heap.size w w12 by rw [hw12]; exact HB1.out.alloc HB1.out.size _)
             have HT12 := Lib.hid (show StB w12 g (.int .i64 kx) (.int .i64 nx) (.string t1) (.slice A1 L1 C1) by rw [hw12, hg]; exact StB.new w11 _ _ _ _)
             have HK := Lib.hid (show ∀ (sub : VL) (A : Option Addr), RpL w11 (fun b => w10.drew.heap.size ≤ b ∧ b < w11.heap.size) sub A → RpL w12 (fun b => b < w12.heap.size) sub A from fun sub A h => h.keep (fun b hb => by rw [hw12]; exact Below.heap_alloc _ _ _ hb.2) (fun b hb => by rw [hw12]; have := hb.2; simp; omega))
             have HD := Lib.hid (show ((∃ p : Addr, ev = .iface 66 (.pointer (some p)) ∨ ev = .iface 142 (.pointer (some p))) ∨ (ev = .nilIface ∧ ∃ sub : VL, L1 = sub.len ∧ sub.len ≤ C1 ∧ RpL w12 (fun b => b < w12.heap.size) sub A1 ∧ (walk1 kx nx t1 sub 1 4096).1 = 0 ∧ (T.extract 0 k ++ T.extract k1 T.size : ByteArray).data.toList = txt1 kx nx t1 (txtL sub) ∧ (val1 kx nx t1 sub).fit ∧ (val1 kx nx t1 sub).i64)) by
               rcases hdis.out with h | ⟨h, sub, a1, a2, a3, a4, a5, a6, a7⟩
               · exact .inl h
               · exact .inr ⟨h, sub, a1, a2, HK.out _ _ a3, a4, a5, a6, a7⟩)
             clear hw12 hg HK hdis)
        all_goals
          rcases HD.out with ⟨p2, rfl | rfl⟩ | ⟨rfl, sub, rfl, hsc1, hr1, hw1, htx1, hf1, h61⟩
          · clear HD HT12 hwr2 hz5 hz2 hz3 hz4 X2e hk1 hk1s hkl hTs HWR HZ5 HK1 RD RT GE GX GR HTC HVF HCO NC TC ML FC LC VC F hkd hk
            go_wp2_with fail
            change Code.wp _ _ _ (Act.put _ (some 11) _) _
            simp only [Act.put, List.setIfInBounds_toArray, List.set_cons_succ, List.set_cons_zero]
            go_quiet (fail)
            go_wp2_with fail
            go_returns
            exact ⟨rfl, ⟨HB12.out.os, HB12.out.tape, HB12.out.output, HB12.out.size, HB12.out.block⟩⟩
          · clear HD HT12 hwr2 hz5 hz2 hz3 hz4 X2e hk1 hk1s hkl hTs HWR HZ5 HK1 RD RT GE GX GR HTC HVF HCO NC TC ML FC LC VC F hkd hk
            go_wp2_with fail
            change Code.wp _ _ _ (Act.put _ (some 11) _) _
            simp only [Act.put, List.setIfInBounds_toArray, List.set_cons_succ, List.set_cons_zero]
            go_quiet (fail)
            go_wp2_with fail
            go_returns
            exact ⟨rfl, ⟨HB12.out.os, HB12.out.tape, HB12.out.output, HB12.out.size, HB12.out.block⟩⟩
          · have hsame : same1 kx nx t1 sub 4 0 ⟨#[]⟩ l = false := by
              cases hq : same1 kx nx t1 sub 4 0 ⟨#[]⟩ l with
              | false => rfl
              | true =>
                exfalso
                obtain ⟨e1, e2, e3, e4⟩ := same1_iff.1 hq
                rw [e1, e2, e3, e4] at htx1
                rcases HTC.out with h | ⟨_, h⟩
                · rw [h] at hk1s; have := HK1.out; have h0 : (⟨#[]⟩ : ByteArray).size = 0 := rfl; omega
                · have h2 := congrArg List.length (htx1.trans h.symm)
                  have h3 : ∀ B : ByteArray, B.data.toList.length = B.size := fun B => by rw [Array.length_toList]; rfl
                  rw [h3, h3] at h2
                  simp only [ByteArray.size_append, ByteArray.size_extract] at h2
                  have := HK1.out
                  omega
            have htv : txtV kx nx t1 sub = T.extract 0 k ++ T.extract k1 T.size := by
              unfold txtV
              rw [if_pos hw1, ← htx1]
            obtain ⟨S, hS⟩ : ∃ S : World → Prop, S = fun W => W.cell? ⟨g, 0, none⟩ = some (.int .i64 kx) ∧ W.cell? ⟨g, 1, none⟩ = some (.int .i64 nx) ∧ W.cell? ⟨g, 2, none⟩ = some (.string t1) ∧ W.cell? ⟨g, 3, none⟩ = some (.slice A1 sub.len C1) ∧ Below w12.heap.size w12 W := ⟨_, rfl⟩
            have KS : ∀ W, Below w12.heap.size w12 W → S W := fun W hW => by
              rw [hS]
              exact ⟨cell_below hW HT12.out.c0, cell_below hW HT12.out.c1, cell_below hW HT12.out.c2, cell_below hW HT12.out.c3, hW⟩
            have BS : ∀ W, S W → Below w12.heap.size w12 W := fun W h => by rw [hS] at h; exact h.2.2.2.2
            have BA : ∀ W, S W → Below w.heap.size w W := fun W h => HB12.out.trans (below_le' (BS W h) HB12.out.size)
            have RV : ∀ W, S W → RpL W (fun b => b < W.heap.size) sub A1 := fun W h => hr1.keep (fun b hb => (BS W h).block b hb) (fun b hb => by have := (BS W h).size; omega)
            have C1' := Lib.hid (fun W (h : S W) => (Text_c kx nx t1 sub A1 C1 ea W (GE.out W (BA W h)) (GX.out W (BA W h)) hf1 h61 hsc1 (RV W h)).mono (R' := fun e W' => e = .returned (.string (T.extract 0 k ++ T.extract k1 T.size)) ∧ S W') fun e W' h' => ⟨by rw [h'.1, htv], KS _ ((BS W h).trans (below_le' h'.2 (BS W h).size))⟩)
            have C2' := Lib.hid (fun W (h : S W) => (ML.out W (BA W h)).mono (R' := fun e W' => ∃ (sb : Option Addr) (cb : Nat), e = .returned (.agg #[.int .i64 4, .int .i64 0, .string ⟨#[]⟩, .slice sb l.len cb]) ∧ l.len ≤ cb ∧ RpL W' (fun b => b < W'.heap.size) l sb ∧ S W') fun e W' h' => by
              obtain ⟨sb, cb, h1, h2, h3, h4⟩ := h'
              exact ⟨sb, cb, h1, h2, h3.wide (fun b hb => hb.2), KS _ ((BS W h).trans (below_le' h4 (BS W h).size))⟩)
            have C3' := Lib.hid (fun W (h : S W) (sb : Option Addr) (cb : Nat) (hc : l.len ≤ cb) (hr : RpL W (fun b => b < W.heap.size) l sb) => (sameV_c kx nx t1 sub A1 C1 4 0 ⟨#[]⟩ l sb cb W hf1 HVF.out hsc1 hc (RV W h) hr).mono (R' := fun e W' => e = .returned (.bool false) ∧ S W') fun e W' h' => ⟨by rw [h'.1, hsame], KS _ ((BS W h).trans (below_le' h'.2 (BS W h).size))⟩)
            have K0 : S w12.drew := KS _ (Below.refl _ _).drew
            have BAA := Lib.hid BA
            clear KS BS BA RV hr1 htx1 hw1 hf1 h61 htv hsame HD HT12
            subst hS
            go_wp2_with fail
            go_region_held3 (fun W => W.cell? ⟨g, 0, none⟩ = some (.int .i64 kx) ∧ W.cell? ⟨g, 1, none⟩ = some (.int .i64 nx) ∧ W.cell? ⟨g, 2, none⟩ = some (.string t1) ∧ W.cell? ⟨g, 3, none⟩ = some (.slice A1 sub.len C1) ∧ Below w12.heap.size w12 W)
              (first | assumption | exact K0)
              (first
                | (go_at_call 21; refine (C1'.out _ ?_).mono ?_; assumption; rintro e w' ⟨rfl, hs⟩)
                | (go_at_call 31; refine (C2'.out _ ?_).mono ?_; assumption; rintro e w' ⟨sv, cv, rfl, hcv, hrv, hs⟩)
                | (go_at_call 20; refine (C3'.out _ ?_ sv cv hcv hrv).mono ?_; assumption; rintro e w' ⟨rfl, hs⟩))
            all_goals
              go_wp2_with fail
              go_returns
              exact ⟨rfl, BAA.out _ (by assumption)⟩
    · have hfb := (bne_of hf0).1
      clear HE HX HR he htx hrep hq hf0 hfv
      go_enter Tryd.func8, Tryd.ntmps8
      go_wp2_with fail
      refine F.out.mono ?_
      rintro e w2 ⟨rfl, hb2⟩
      have HB2 := Lib.hid hb2
      clear hb2
      go_wp2_with fail
      refine (VC.out _ HB2.out).mono ?_
      rintro e w3 ⟨rfl, hb3⟩
      have HB3 := Lib.hid (HB2.out.trans (below_le' hb3 HB2.out.size))
      clear hb3
      go_wp2_with fail
      refine (LC.out _ HB3.out).mono ?_
      rintro e w4 ⟨sb, cb, rfl, hcb, hrb, hb4⟩
      have HB4 := Lib.hid (HB3.out.trans (below_le' hb4 HB3.out.size))
      have HRB := Lib.hid (hrb.wide (fun b hb => hb.2))
      clear hb4 hrb
      go_wp2_with fail
      refine (FC.out _ sb cb hcb HRB.out).mono ?_
      rintro e w5 ⟨rfl, hb5⟩
      have HB5 := Lib.hid (HB4.out.trans (below_le' hb5 HB4.out.size))
      clear hb5
      go_wp2_with fail
      go_returns
      exact ⟨rfl, HB5.out⟩
end Go.Proofs.YtoemnccklakkeaaDoor
