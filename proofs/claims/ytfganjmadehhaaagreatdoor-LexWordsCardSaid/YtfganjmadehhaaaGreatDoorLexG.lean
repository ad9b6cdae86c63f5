/- Contracts of the functions that the statement reaches, and the plain mathematics beneath: several texts joined. -/
import Derived.Test.YtfganjmadehhaaaGreatDoorLexF
import Derived.Test.YtfganjmadehhaaaGreatDoorLexD
import Derived.Test.YtfganjmadehhaaaGreatDoorLexB
import Derived.Test.YtfganjmadehhaaaGreatDoorLexC
import Derived.Deep.RegionHeld3
import Derived.Test.YtfganjmadehhaaaGreatDoorRows
import Derived.Stop.LaidErr
import Derived.Lib.LaidTab
import Derived.ProofKit
import Derived.Test.YtfganjmadehhaaaGreatDoorTie
import Derived.Test.YtfganjmadehhaaaGreatDoorCards
import Derived.SevenTiedAt
import Derived.LaidMore
import Derived.Stop.Joined
import Derived.HandedShaped
import Derived.OpenShut
import Derived.ShutString
import Derived.Lay
import Derived.Carry
import Derived.Test.YtfganjmadehhaaaGreatDoorLexA
import Derived.Test.YtfganjmadehhaaaGreatDoorLexE
namespace Go.Proofs.YtfganjmadehhaaaGreatDoor
open Go.RowKit Go.Lib
set_option linter.unusedVariables false

theorem join_snoc (l : List (List UInt8)) (x : List UInt8) (h : l ≠ []) : join (l ++ [x]) [44, 32] = join l [44, 32] ++ [44, 32] ++ x := by
  cases l with
  | nil => exact absurd rfl h
  | cons a t =>
    rw [List.cons_append, join_cons, join_cons]
    simp [joinTail]
theorem sum_take (l : VL) (i : Nat) : ((txtL (l.take i)).map fun x => x.length + 2).sum ≤ ((txtL l).map fun x => x.length + 2).sum := by
  have h : txtL l = txtL (l.take i) ++ txtL (l.drop i) := by rw [← txtL_app, VL.take_app_drop]
  rw [h, List.map_append, List.sum_append]; omega

/-- What a call of the reference's text is to show. -/
def TextRC (N : Nat) : Prop := ∀ (k n : Int) (s : ByteArray) (sub : VL) (sa : Option Addr) (sc : Nat) (d : Int) (w : World), sub.size < N → OkL (val1 k n s sub) d → (val1 k n s sub).i64 → cost (val1 k n s sub) ≤ 4096 → sub.len ≤ sc →
  RpL w (fun b => b < w.heap.size) sub sa → TxAt w →
  Calls Tryz.prog 27 #[.agg #[.int .i64 k, .int .i64 n, .string s, .slice sa sub.len sc]] w fun e w' => e = .returned (.string ⟨(txt1 k n s (txtL sub)).toArray⟩) ∧ Below w.heap.size w w'

set_option maxRecDepth 100000 in
set_option maxHeartbeats 4000000 in
theorem textR_step (N : Nat) (ih : ∀ N', N' < N → TextRC N') : TextRC N := by
  intro k n s sub sa sc d w hN hok h64 hcost hsc hrep hst
  have hroom := hst.room
  obtain ⟨hown, hoks⟩ := OkL_one hok
  obtain ⟨hn0, hn1, h64s, _⟩ := h64
  obtain ⟨wa, hwa⟩ : ∃ wa, wa = w.alloc (.cells #[.int .i64 k, .int .i64 n, .string s, .slice sa sub.len sc] 32) := ⟨_, rfl⟩
  have hba : Below w.heap.size w wa := by rw [hwa]; exact (Below.refl _ _).alloc (Nat.le_refl _) _
  have hwz : wa.heap.size = w.heap.size + 1 := by rw [hwa]; simp
  have hV : StB wa w.heap.size (.int .i64 k) (.int .i64 n) (.string s) (.slice sa sub.len sc) := by rw [hwa]; exact StB.new w _ _ _ _
  have v0 := hV.c0; have v1 := hV.c1; have v2 := hV.c2; have v3 := hV.c3
  have hsta : TxAt wa := hst.below hba (Nat.le_refl _)
  have HBA := Lib.hid hba
  have HWA := Lib.hid hwa
  have HWZ := Lib.hid hwz
  have HST := Lib.hid hsta
  have HV := Lib.hid hV
  have hcs : cost (val1 k n s sub) = 1 + mOf k s + cost sub := by unfold val1; rw [cost, cost]; omega
  have FC := fun (W : World) (hW : TxAt W) => Lib.hid (Tryz.strconv_FormatInt_10 n (by omega) (by omega) W hW.tab)
  obtain ⟨t, ht⟩ : ∃ t : ByteArray, t = ⟨(itoa n).toArray⟩ := ⟨_, rfl⟩
  have htl : t.size ≤ 20 := by
    have h1 : t.size = t.data.toList.length := by rw [Array.length_toList]; rfl
    rw [h1, ht]; exact itoa_len hn0 hn1
  rw [← ht] at FC
  rw [hwa] at v0 v1 v2 v3
  rcases own_ok hown with ⟨rfl, -⟩ | ⟨rfl, -⟩ | ⟨rfl, -⟩ | ⟨rfl, hm0, hm1, -⟩ | ⟨rfl, -⟩
  · have HR := Lib.hid (show (⟨(txt1 0 n s (txtL sub)).toArray⟩ : ByteArray) = t by rw [ht]; rfl)
    rw [HR.out]
    clear hba hV hsta hwa hwz ht hrep hst hok hown hoks hcs HR
    go_enter Tryz.func27, Tryz.ntmps27
    go_wp2_with fail
    rw [← HWA.out]
    refine (FC _ HST.out).out.mono ?_
    rintro e w3 ⟨rfl, kk, os, hw3⟩
    have HB3 := Lib.hid (show Below w.heap.size w w3 by rw [hw3]; exact HBA.out.trans (below_grow _ _ HBA.out.size _ _))
    clear hw3
    go_wp2_with fail
    go_ret
    exact ⟨rfl, HB3.out⟩
  · have HR := Lib.hid (show (⟨(txt1 1 n s (txtL sub)).toArray⟩ : ByteArray) = ⟨#[35]⟩ ++ t by rw [ht]; apply ByteArray.ext; simp [txt1])
    rw [HR.out]
    clear hba hV hsta hwa hwz ht hrep hst hok hown hoks hcs HR
    go_enter Tryz.func27, Tryz.ntmps27
    go_wp2_with fail
    rw [← HWA.out]
    refine (FC _ HST.out).out.mono ?_
    rintro e w3 ⟨rfl, kk, os, hw3⟩
    have HB3 := Lib.hid (show Below w.heap.size w w3 by rw [hw3]; exact HBA.out.trans (below_grow _ _ HBA.out.size _ _))
    clear hw3
    go_wp2_with fail
    go_ret
    exact ⟨rfl, HB3.out⟩
  · have QC := Lib.hid (fun W => quoted_c s W (by
      have : mOf 2 s = s.size := rfl
      have := cost_ge sub
      omega))
    rw [show (⟨(quoL s.data.toList).toArray⟩ : ByteArray) = ⟨(txt1 2 n s (txtL sub)).toArray⟩ from rfl] at QC
    clear hba hV hsta hwa hwz ht hrep hst hok hown hoks hcs FC
    go_enter Tryz.func27, Tryz.ntmps27
    go_wp2_with fail
    rw [← HWA.out]
    refine (QC.out _).mono ?_
    rintro e w' ⟨rfl, rfl⟩
    go_wp2_with fail
    go_ret
    exact ⟨rfl, HBA.out⟩
  · have NC := Lib.hid (fun W => name_r n W (by omega) (by omega))
    rw [show nmS n = ⟨(txt1 3 n s (txtL sub)).toArray⟩ from rfl] at NC
    clear hba hV hsta hwa hwz ht hrep hst hok hown hoks hcs FC
    go_enter Tryz.func27, Tryz.ntmps27
    go_wp2_with fail
    rw [← HWA.out]
    refine (NC.out _).mono ?_
    rintro e w' ⟨rfl, rfl⟩
    go_wp2_with fail
    go_ret
    exact ⟨rfl, HBA.out⟩
  · have hcsub : cost sub ≤ 4096 := by have : mOf 4 s = 0 := rfl; omega
    have hsum := txtL_len_le sub (d + 1) hoks h64s
    have HRP := Lib.hid (hrep.keep (w' := wa) (fun b hb => hba.block b hb) (fun b hb => hb))
    clear hba hV hsta hwa hwz ht hrep hst hok hown hcs FC
    go_enter Tryz.func27, Tryz.ntmps27
    go_wp2_with fail
    rw [← HWA.out]
    clear v0 v1 v2 v3
    go_loopg [3, 4] sub.len (fun kk ov v wr => ∃ (X : ByteArray) (i : Nat), ov = .string X ∧ v = .int .i64 i ∧ i + kk = sub.len ∧ Hid (X.data.toList = 123 :: join (txtL (sub.take i)) [44, 32]) ∧ Below (w.heap.size + 1) wa wr)
    case atStart => exact ⟨⟨#[123]⟩, 0, rfl, rfl, by omega, by show _ = 123 :: join (txtL (sub.take 0)) [44, 32]; rw [VL.take]; rfl, Below.refl _ _⟩
    case round =>
      obtain ⟨X, i, rfl, rfl, hik, hX, hbr⟩ := hrel
      have hrz := hbr.size
      have hwz := HWZ.out
      have hvr := HV.out.below hbr (by omega)
      have x3 := hvr.c3
      have hXz : X.size ≤ 200000 := by
        have h1 : X.size = X.data.toList.length := by rw [Array.length_toList]; rfl
        have h2 := join_len (txtL (sub.take i))
        have h3 := sum_take sub i
        rw [h1, hX.out, List.length_cons]; omega
      have hln := len_cost sub
      by_cases hi : i < sub.len
      · obtain ⟨g, rfl⟩ : ∃ g, gk = g + 1 := ⟨gk - 1, by omega⟩
        obtain ⟨b, o, k', n', s', sub', sa', sc', hA, hd, hSb, c0, c1, c2, c3, hcl, hrs, hszd⟩ := rp_at (HRP.out.keep (w' := wr) (fun b hb => hbr.block b (by omega)) (fun b hb => hb)) hi
        have hts := VL.take_succ i sub k' n' s' sub' hd
        have hod := ok_drop i sub (d + 1) hoks
        rw [hd] at hod
        have h6d := i64_drop i sub h64s
        rw [hd] at h6d
        have hcd := cost_drop i sub
        rw [hd, cost] at hcd
        have hcr := cost_ge (sub.drop (i + 1))
        have IHC := Lib.hid (ih (sub'.size + 1) (by omega) k' n' s' sub' sa' sc' (d + 1) wr (by omega) ⟨hod.1, hod.2.1, hod.2.2.1, trivial⟩ ⟨h6d.1, h6d.2.1, h6d.2.2.1, trivial⟩ (by unfold val1; rw [cost, cost]; omega) hcl
          (hrs.keep (fun b hb => rfl) (fun b hb => by omega)) (HST.out.below hbr (by omega)))
        obtain ⟨x, hx⟩ : ∃ x : ByteArray, x = ⟨(txt1 k' n' s' (txtL sub')).toArray⟩ := ⟨_, rfl⟩
        rw [← hx] at IHC
        have hxs : x.size ≤ 200000 := by
          have h1 : x.size = x.data.toList.length := by rw [Array.length_toList]; rfl
          have h3 := sum_take sub (i + 1)
          rw [hts, txtL_app, List.map_append, List.sum_append] at h3
          have h4 : x.data.toList = txt1 k' n' s' (txtL sub') := by rw [hx]
          have h5 : ((txtL (.cons k' n' s' sub' .nil)).map fun x => x.length + 2).sum = (txt1 k' n' s' (txtL sub')).length + 2 := by simp [txtL]
          rw [h1, h4]; omega
        have HT := Lib.hid (show txtL (sub.take (i + 1)) = txtL (sub.take i) ++ [x.data.toList] by rw [hts, txtL_app, hx]; rfl)
        have HSA := Lib.hid hA
        have HBR := Lib.hid hbr
        subst hA
        clear hrs hbr hd hts hod h6d hcd hx hvr
        by_cases h0 : i = 0
        · subst h0
          have HN := Lib.hid (show (X ++ x : ByteArray).data.toList = 123 :: join (txtL (sub.take (0 + 1))) [44, 32] by
            have h1 := hX.out
            rw [HT.out]
            rw [VL.take] at h1 ⊢
            rw [show txtL VL.nil = [] from rfl, join_nil] at h1
            rw [show txtL VL.nil = [] from rfl, List.nil_append, join_one]
            simp [h1])
          have hd0 : decide ((0 : Int) < ((0 : Nat) : Int)) = false := by decide
          rw [Nat.zero_mul, Nat.add_zero] at c0 c1 c2 c3
          go_wp2_with fail
          refine IHC.out.mono ?_
          rintro e w5 ⟨rfl, hb5⟩
          have HB5 := Lib.hid (HBR.out.trans (below_le' hb5 (by have := HBR.out.size; omega)))
          clear hb5
          go_wp2_with fail
          go_roundg g
          case measure => omega
          case rel => exact ⟨_, 0 + 1, rfl, by go_num, by omega, HN.out, HB5.out⟩
        · have HN := Lib.hid (show (X ++ ⟨#[44, 32]⟩ ++ x : ByteArray).data.toList = 123 :: join (txtL (sub.take (i + 1))) [44, 32] by
            have h1 := hX.out
            rw [HT.out, join_snoc _ _ (fun e => by
              have := congrArg List.length e
              rw [txtL_len] at this
              have h2 : (sub.take i).len + (sub.drop i).len = sub.len := by rw [← VL.len_app, VL.take_app_drop]
              rw [VL.len_drop] at h2
              simp only [List.length_nil] at this
              omega)]
            simp [h1])
          have hd0 : decide ((0 : Int) < (i : Int)) = true := by simp; omega
          go_wp2_with fail
          refine IHC.out.mono ?_
          rintro e w5 ⟨rfl, hb5⟩
          have HB5 := Lib.hid (HBR.out.trans (below_le' hb5 (by have := HBR.out.size; omega)))
          clear hb5
          go_wp2_with fail
          go_roundg g
          case measure => omega
          case rel => exact ⟨_, i + 1, rfl, by go_num, by omega, HN.out, HB5.out⟩
      · obtain rfl : i = sub.len := by omega
        have HN := Lib.hid (show (X ++ ⟨#[125]⟩ : ByteArray) = ⟨(txt1 4 n s (txtL sub)).toArray⟩ by
          have h1 := hX.out
          rw [VL.take_len] at h1
          apply ByteArray.ext
          have h2 : (X ++ ⟨#[125]⟩ : ByteArray).data.toList = txt1 4 n s (txtL sub) := by
            show _ = 123 :: (join (txtL sub) [44, 32] ++ [125])
            simp [h1]
          rw [← h2])
        have HBR := Lib.hid (HBA.out.trans (below_le' hbr (by omega)))
        clear hbr hvr
        go_wp2_with fail
        go_ret
        exact ⟨ret_str HN.out, HBR.out⟩

theorem textR_c (N : Nat) : TextRC N := by
  induction N using Nat.strongRecOn with
  | _ N ih => exact textR_step N ih
end Go.Proofs.YtfganjmadehhaaaGreatDoor
namespace Go.Proofs.YtfganjmadehhaaaGreatDoor
open Go.RowKit Go.Lib
set_option linter.unusedVariables false

/-- What is told of a value that is right. -/
def pln1 (k n : Int) (s : ByteArray) (sub : VL) : ByteArray := if k = 2 then s else if k = 4 then ⟨#[123, 108, 105, 115, 116, 125]⟩ else ⟨(txt1 k n s (txtL sub)).toArray⟩
/-- What is told of a value, empty where it is not right. -/
def plnV (k n : Int) (s : ByteArray) (sub : VL) : ByteArray := if (walk1 k n s sub 1 4096).1 = 0 then pln1 k n s sub else ⟨#[]⟩

end Go.Proofs.YtfganjmadehhaaaGreatDoor
namespace Go.Proofs.YtfganjmadehhaaaGreatDoor
open Go.RowKit Go.Lib
set_option linter.unusedVariables false

set_option maxHeartbeats 400000 in
theorem printed_c (s : ByteArray) (w : World) (hs : s.size ≤ 140737488351232) :
    Calls Tryz.prog 78 #[.string s] w fun e w' => e = .returned (.bool (prB s.data.toList)) ∧ w = w' := by
  go_enter Tryz.func78, Tryz.ntmps78
  go_wp2
  go_loop [3] (fun i => ∃ k : Nat, k ≤ s.size ∧ i = .int .i64 k ∧ Hid (prB (s.data.toList.take k) = true)) (fun i => s.size - (intOf i).toNat)
  case atStart => exact ⟨0, Nat.zero_le _, rfl, rfl⟩
  case round =>
    obtain ⟨k, hk, rfl, hall⟩ := hrel
    by_cases hlt : k < s.size
    · have hts := Lib.hid (take_snoc s k hlt)
      go_wp2
      all_goals first
        | (go_ret
           exact ⟨ret_bool (prB_bad s k hlt (by omega)).symm, rfl⟩)
        | (refine ⟨⟨k + 1, by omega, by go_num, ?_⟩, by simp [intOf]; omega⟩
           show prB _ = true
           have hx := hall.out
           unfold prB at hx ⊢
           rw [hts.out, List.all_append, hx, List.all_cons, show prC s[k] = true from decide_eq_true (by omega)]
           rfl)
    · obtain rfl : k = s.size := by omega
      go_wp2
      go_ret
      refine ⟨ret_bool ?_, rfl⟩
      have := hall.out
      rw [List.take_of_length_le (by simp)] at this
      exact this.symm

/-- The reference's count: one number in a block of its own. -/
def RwAt (w : World) (L : Nat) (n : Int) : Prop := w.heap[L]? = some (.cells #[.int .i64 n] 76 (0, 0))
section
variable {w w' : World} {L : Nat} {left : Int}
theorem RwAt.lt (h : RwAt w L left) : L < w.heap.size := by
  rcases Nat.lt_or_ge L w.heap.size with hlt | hge
  · exact hlt
  · unfold RwAt at h; rw [Array.getElem?_eq_none hge] at h; cases h
theorem RwAt.c0 (h : RwAt w L left) : w.cell? ⟨L, 0, none⟩ = some (.int .i64 left) := cell_of_row w L 0 _ _ _ h
theorem RwAt.fr (h : RwAt w L left) : w.frozen? ⟨L, 0, none⟩ = false := by unfold RwAt at h; simp [World.frozen?, h]
theorem RwAt.alloc (h : RwAt w L left) (o : Obj) : RwAt (w.alloc o) L left := (Below.heap_alloc w o L h.lt).trans h
theorem RwAt.set (h : RwAt w L left) (n : Int) : RwAt (w.setCell ⟨L, 0, none⟩ (.int .i64 n)) L n := by
  unfold RwAt at h ⊢; simp [World.setCell, Array.getElem?_modify, h]
theorem RwAt.below (h : RwAt w L left) {B : Nat} (hb : Below B w w') (hL : L < B) : RwAt w' L left := (hb.block L hL).trans h
theorem RwAt.new (W : World) (n : Int) : RwAt (W.alloc (.cells #[.int .i64 n] 76)) W.heap.size n := by unfold RwAt World.alloc; simp
end

/-- What a call of odd is to show. -/
def POdd (w : World) (L : Nat) (r : Nat × Int) (e : Ending) (w' : World) : Prop := e = .returned (.int .i64 r.1) ∧ (∃ m, RwAt w' L m ∧ (r.1 = 0 → m = 4096 - r.2)) ∧ w.grownBy w' (some L)

def OddC (N : Nat) : Prop := ∀ (k n : Int) (s : ByteArray) (sub : VL) (sa : Option Addr) (sc : Nat) (deep left : Int) (L : Nat) (w : World), sub.size < N → RwAt w L (4096 - left) →
  s.size ≤ 140737488351232 → sub.len ≤ 140737488351232 → sub.fit → sub.len ≤ sc → RpL w (fun b => b < w.heap.size ∧ b ≠ L) sub sa → 1 ≤ deep → deep ≤ 41 → 0 ≤ left → left ≤ 4096 →
  Calls Tryz.prog 45 #[.pointer (some ⟨L, 0, none⟩), .agg #[.int .i64 k, .int .i64 n, .string s, .slice sa sub.len sc], .int .i64 deep] w (POdd w L (walk1 k n s sub deep left))

/-- Out of the loop over the items. -/
theorem bne_of {a b : Int} (h : a ≠ b) : (a != b) = true ∧ (a == b) = false := by simp [h]

/-- Where odd goes on to look at a value's kind, and it is not a Str. -/
theorem kind_cases {k n : Int} {s : ByteArray} {len : Nat} (hk : k ≠ 2) :
    (ownE k n s len = 105 ∧ (k < 0 ∨ (0 ≤ k ∧ 4 < k) ∨ (k = 1 ∧ n < -2147483648) ∨ (k = 1 ∧ -2147483648 ≤ n ∧ 2147483647 < n) ∨ (k = 3 ∧ n < 0) ∨ (k = 3 ∧ 0 ≤ n ∧ 14 < n))) ∨
    (ownE k n s len = 103 ∧ ((k = 0 ∧ s.toList.isEmpty = false) ∨ (k = 0 ∧ s.toList.isEmpty = true ∧ 0 < len) ∨ (k = 1 ∧ -2147483648 ≤ n ∧ n ≤ 2147483647 ∧ s.toList.isEmpty = false) ∨ (k = 1 ∧ -2147483648 ≤ n ∧ n ≤ 2147483647 ∧ s.toList.isEmpty = true ∧ 0 < len) ∨
      (k = 3 ∧ 0 ≤ n ∧ n ≤ 14 ∧ s.toList.isEmpty = false) ∨ (k = 3 ∧ 0 ≤ n ∧ n ≤ 14 ∧ s.toList.isEmpty = true ∧ 0 < len) ∨ (k = 4 ∧ n ≠ 0) ∨ (k = 4 ∧ n = 0 ∧ s.toList.isEmpty = false))) ∨
    (ownE k n s len = 0 ∧ s = ⟨#[]⟩ ∧ ((k = 0 ∧ len = 0) ∨ (k = 1 ∧ -2147483648 ≤ n ∧ n ≤ 2147483647 ∧ len = 0) ∨ (k = 3 ∧ 0 ≤ n ∧ n ≤ 14 ∧ len = 0) ∨ (k = 4 ∧ n = 0))) := by
  have hse : (s.toList.isEmpty = true ∧ s.data.toList = [] ∧ s = ⟨#[]⟩) ∨ (s.toList.isEmpty = false ∧ s.data.toList ≠ []) := by
    rw [Lib.toList_data]
    rcases s with ⟨⟨l⟩⟩
    cases l with
    | nil => exact .inl ⟨rfl, rfl, rfl⟩
    | cons a r => exact .inr ⟨rfl, by simp⟩
  unfold ownE
  by_cases h1 : k < 0 ∨ 4 < k
  · rw [if_pos h1]; exact .inl ⟨rfl, by omega⟩
  rw [if_neg h1]
  by_cases h2 : k = 1 ∧ (n < -2147483648 ∨ 2147483647 < n)
  · rw [if_pos h2]; exact .inl ⟨rfl, by omega⟩
  rw [if_neg h2]
  by_cases h3 : k = 3 ∧ (n < 0 ∨ 14 < n)
  · rw [if_pos h3]; exact .inl ⟨rfl, by omega⟩
  rw [if_neg h3]
  right
  have hkk : k = 0 ∨ k = 1 ∨ k = 3 ∨ k = 4 := by omega
  rcases hse with ⟨e1, e2, e3⟩ | ⟨e1, e2⟩
  · by_cases h4 : k ≠ 4 ∧ 0 < len
    · rw [if_pos (.inr (.inl h4))]
      left; refine ⟨rfl, ?_⟩
      simp only [e1]; simp; omega
    · by_cases h5 : k = 4 ∧ n ≠ 0
      · rw [if_pos (.inr (.inr ⟨.inr h5.1, h5.2⟩))]
        left; refine ⟨rfl, ?_⟩
        simp only [e1]; simp; omega
      · rw [if_neg (by rintro (⟨_, h⟩ | h | ⟨h, h'⟩); exact h e2; exact h4 h; rcases h with h | h; exact hk h; exact h5 ⟨h, h'⟩), if_neg (by rw [e2]; decide)]
        right; exact ⟨rfl, e3, by omega⟩
  · rw [if_pos (.inl ⟨hk, e2⟩)]
    left; refine ⟨rfl, ?_⟩
    simp only [e1]; simp; omega
/-- The same of a Str. -/
theorem str_cases {n : Int} {s : ByteArray} {len : Nat} :
    (ownE 2 n s len = 103 ∧ (n ≠ 0 ∨ (n = 0 ∧ 0 < len))) ∨ (ownE 2 n s len = 103 ∧ n = 0 ∧ len = 0 ∧ prB s.data.toList = false) ∨ (ownE 2 n s len = 0 ∧ n = 0 ∧ len = 0 ∧ prB s.data.toList = true) := by
  unfold ownE
  rw [if_neg (by decide), if_neg (by rintro ⟨h, _⟩; cases h), if_neg (by rintro ⟨h, _⟩; cases h)]
  by_cases h : n ≠ 0 ∨ 0 < len
  · rw [if_pos (by rcases h with h | h; exact .inr (.inr ⟨.inl rfl, h⟩); exact .inr (.inl ⟨by decide, h⟩))]
    left; exact ⟨rfl, by omega⟩
  · rw [if_neg (by rintro (⟨h', _⟩ | ⟨_, h'⟩ | ⟨_, h'⟩); exact h' rfl; exact h (.inr h'); exact h (.inl h'))]
    right
    by_cases hp : prB s.data.toList = false
    · rw [if_pos hp]; left; exact ⟨rfl, by omega, by omega, hp⟩
    · rw [if_neg hp]; right; exact ⟨rfl, by omega, by omega, by simpa using hp⟩
end Go.Proofs.YtfganjmadehhaaaGreatDoor
namespace Go.Proofs.YtfganjmadehhaaaGreatDoor
open Go.RowKit Go.Lib
set_option linter.unusedVariables false

set_option maxRecDepth 100000 in
set_option maxHeartbeats 4000000 in
theorem odd_step (N : Nat) (ih : ∀ N', N' < N → OddC N') : OddC N := by
  intro k n s sub sa sc deep left L w hN hlf hss hsl hfit hsc hrep hd1 hd2 hl1 hl2
  have hLl := hlf.lt
  obtain ⟨wa, hwa⟩ : ∃ wa, wa = w.alloc (.cells #[.int .i64 k, .int .i64 n, .string s, .slice sa sub.len sc] 32) := ⟨_, rfl⟩
  have hba : Below w.heap.size w wa := by rw [hwa]; exact (Below.refl _ _).alloc (Nat.le_refl _) _
  have hV : StB wa w.heap.size (.int .i64 k) (.int .i64 n) (.string s) (.slice sa sub.len sc) := by rw [hwa]; exact StB.new w _ _ _ _
  have hlfa : RwAt wa L (4096 - left) := hlf.below hba hLl
  have hwz : wa.heap.size = w.heap.size + 1 := by rw [hwa]; simp
  have v0 := hV.c0; have v1 := hV.c1; have v2 := hV.c2; have v3 := hV.c3
  have l0 := hlfa.c0
  have lf0 := hlfa.fr
  have HBA := Lib.hid hba
  have HV := Lib.hid hV
  have HLF := Lib.hid hlfa
  have HRP := Lib.hid hrep
  rw [hwa] at v0 v1 v2 v3 l0 lf0
  by_cases hdp : 40 < deep
  · have HS := Lib.hid (show walk1 k n s sub deep left = (112, left) by unfold walk1; rw [if_pos hdp])
    have HF := Lib.hid (show POdd w L (walk1 k n s sub deep left) (.returned (.int .i64 112)) wa by rw [HS.out]; exact ⟨rfl, ⟨_, HLF.out, fun h => by cases h⟩, only_below HBA.out _⟩)
    rw [hwa] at HF
    clear hba hV hlfa hwa hrep
    go_enter Tryz.func45, Tryz.ntmps45
    go_wp2_with fail
    go_ret
    exact HF.out
  have hdp' : deep ≤ 40 := by omega
  clear hdp
  obtain ⟨w1', hw1'⟩ : ∃ w1', w1' = (w.setCell ⟨L, 0, none⟩ (.int .i64 (4096 - left + 1))).alloc (.cells #[.int .i64 k, .int .i64 n, .string s, .slice sa sub.len sc] 32) := ⟨_, rfl⟩
  have hr1' : RwAt w1' L (4096 - left + 1) := by rw [hw1']; exact (hlf.set _).alloc _
  have hv1' : StB w1' w.heap.size (.int .i64 k) (.int .i64 n) (.string s) (.slice sa sub.len sc) := by rw [hw1']; have := StB.new (w.setCell ⟨L, 0, none⟩ (.int .i64 (4096 - left + 1))) (.int .i64 k) (.int .i64 n) (.string s) (.slice sa sub.len sc); simpa [World.setCell] using this
  have hg1' : w.grownBy w1' (some L) := by rw [hw1']; exact only_alloc (only_setCell (only_refl w _) (.inl rfl) _) _
  by_cases hk : k = 2
  · subst hk
    obtain ⟨w1, hw1⟩ : ∃ w1, w1 = (((w.setCell ⟨L, 0, none⟩ (.int .i64 (4096 - left + 1))).setCell ⟨L, 0, none⟩ (.int .i64 (4096 - left + 1 + (s.size : Int)))).alloc (.cells #[.int .i64 2, .int .i64 n, .string s, .slice sa sub.len sc] 32)).drew := ⟨_, rfl⟩
    have hr1 : RwAt w1 L (4096 - left + 1 + (s.size : Int)) := by rw [hw1]; exact (((hlf.set _).set _).alloc _)
    have hv1 : StB w1 w.heap.size (.int .i64 2) (.int .i64 n) (.string s) (.slice sa sub.len sc) := by rw [hw1]; have := StB.new ((w.setCell ⟨L, 0, none⟩ (.int .i64 (4096 - left + 1))).setCell ⟨L, 0, none⟩ (.int .i64 (4096 - left + 1 + (s.size : Int)))) (.int .i64 2) (.int .i64 n) (.string s) (.slice sa sub.len sc); simpa [World.setCell, StB, World.drew] using this
    have hg1 : w.grownBy w1 (some L) := by rw [hw1]; exact only_drew (only_alloc (only_setCell (only_setCell (only_refl w _) (.inl rfl) _) (.inl rfl) _) _)
    have p0 := hv1'.c0; have p2 := hv1'.c2; have q0 := hr1'.c0; have qf := hr1'.fr
    have u0 := hv1.c0; have u1 := hv1.c1; have u2 := hv1.c2; have u3 := hv1.c3; have r0 := hr1.c0
    have HG1 := Lib.hid hg1
    have hm : mOf 2 s = (s.size : Int) := rfl
    by_cases hlm : left ≤ (s.size : Int)
    · have HS := Lib.hid (show walk1 2 n s sub deep left = (104, left) by unfold walk1; rw [if_neg (by omega), hm, if_pos hlm])
      have HF := Lib.hid (show POdd w L (walk1 2 n s sub deep left) (.returned (.int .i64 104)) w1 by rw [HS.out]; exact ⟨rfl, ⟨_, hr1, fun h => by cases h⟩, hg1⟩)
      rw [hw1] at HF
      rw [hw1] at u0 u1 u2 u3 r0
      rw [hw1'] at p0 p2 q0 qf
      clear hba hV hlfa hwa hrep hw1' hr1' hv1' hg1' hw1 hr1 hv1 hg1
      go_enter Tryz.func45, Tryz.ntmps45
      go_wp2_with fail
      go_region
      go_wp2_with fail
      go_ret
      exact HF.out
    obtain ⟨lf, hlfe⟩ : ∃ lf : Int, lf = left - (1 + (s.size : Int)) := ⟨_, rfl⟩
    have HS := Lib.hid (show walk1 2 n s sub deep left = if ownE 2 n s sub.len = 0 then walkL sub (deep + 1) lf else (ownE 2 n s sub.len, lf) by unfold walk1; rw [if_neg (by omega), hm, if_neg (by omega), hlfe])
    have hlf0 : 0 ≤ lf := by omega
    have hlf4 : lf ≤ 4096 := by omega
    have HR1 := Lib.hid (show RwAt w1 L (4096 - lf) by rw [show 4096 - lf = 4096 - left + 1 + (s.size : Int) by omega]; exact hr1)
    have HV1 := Lib.hid hv1
    have PC := Lib.hid (fun W => printed_c s W hss)
    have HW1 := Lib.hid (show (((w.setCell ⟨L, 0, none⟩ (.int .i64 (4096 - left + 1))).setCell ⟨L, 0, none⟩ (.int .i64 (4096 - left + 1 + (s.size : Int)))).alloc (.cells #[.int .i64 2, .int .i64 n, .string s, .slice sa sub.len sc] 32)).drew = w1 by rw [hw1])
    rw [hw1] at u0 u1 u2 u3 r0
    rw [hw1'] at p0 p2 q0 qf
    clear hba hV hlfa hwa hrep hw1' hr1' hv1' hg1' hw1 hr1 hv1 hg1 hlfe
    rcases str_cases (n := n) (s := s) (len := sub.len) with ⟨hE, hcs⟩ | ⟨hE, rfl, h0, hp⟩ | ⟨hE, rfl, h0, hp⟩
    · rw [hE, if_neg (by decide)] at HS
      rcases hcs with hn | ⟨rfl, hl⟩
      · have hn1 := (bne_of hn).1
        have hn2 := (bne_of hn).2
        clear hn
        go_enter Tryz.func45, Tryz.ntmps45
        go_wp2_with fail
        go_region
        go_wp2_with fail
        go_ret
        rw [HW1.out, HS.out]
        exact ⟨rfl, ⟨_, HR1.out, fun h => by cases h⟩, HG1.out⟩
      · have hl' : (0 : Int) < (sub.len : Int) := by omega
        go_enter Tryz.func45, Tryz.ntmps45
        go_wp2_with fail
        go_region
        go_wp2_with fail
        go_ret
        rw [HW1.out, HS.out]
        exact ⟨rfl, ⟨_, HR1.out, fun h => by cases h⟩, HG1.out⟩
    · rw [hE, if_neg (by decide)] at HS
      rw [hp] at PC
      clear hp
      obtain rfl : sub = .nil := by cases sub with | nil => rfl | cons _ _ _ _ _ => exact absurd h0 (Nat.succ_ne_zero _)
      rw [show VL.nil.len = 0 from rfl] at v0 v1 v2 v3 l0 lf0 u0 u1 u2 u3 r0 HV1 HW1
      rw [show VL.nil.len = 0 from rfl] at p0 p2 q0 qf
      rw [show VL.nil.len = 0 from rfl]
      clear h0
      go_enter Tryz.func45, Tryz.ntmps45
      go_wp2_with fail
      go_region
      go_wp2_with fail
      rw [HW1.out]
      refine (PC.out _).mono ?_
      rintro e w' ⟨rfl, rfl⟩
      go_wp2_with fail
      go_ret
      rw [HS.out]
      exact ⟨rfl, ⟨_, HR1.out, fun h => by cases h⟩, HG1.out⟩
    · rw [hE, if_pos rfl] at HS
      rw [hp] at PC
      clear hp
      obtain rfl : sub = .nil := by cases sub with | nil => rfl | cons _ _ _ _ _ => exact absurd h0 (Nat.succ_ne_zero _)
      rw [show VL.nil.len = 0 from rfl] at v0 v1 v2 v3 l0 lf0 u0 u1 u2 u3 r0 HV1 HW1
      rw [show VL.nil.len = 0 from rfl] at p0 p2 q0 qf
      rw [show VL.nil.len = 0 from rfl]
      clear h0
      go_enter Tryz.func45, Tryz.ntmps45
      go_wp2_with fail
      go_region
      go_wp2_with fail
      rw [HW1.out]
      refine (PC.out _).mono ?_
      rintro e w' ⟨rfl, rfl⟩
      have x3 := HV1.out.c3
      go_wp2_with fail
      go_loopg [9] 0 (fun kk v wr => v = .int .i64 0 ∧ w1 = wr)
      case atStart => exact ⟨rfl, rfl⟩
      case round =>
        obtain ⟨rfl, rfl⟩ := hrel
        go_wp2_with fail
        go_ret
        rw [HS.out]
        exact ⟨rfl, ⟨_, HR1.out, fun _ => rfl⟩, HG1.out⟩
  · have hm : mOf k s = 0 := by unfold mOf; rw [if_neg hk]
    have hk1 := (bne_of hk).1
    have hk2 := (bne_of hk).2
    have u0 := hv1'.c0; have u1 := hv1'.c1; have u2 := hv1'.c2; have u3 := hv1'.c3; have r0 := hr1'.c0
    by_cases hlm : left ≤ 0
    · have HS := Lib.hid (show walk1 k n s sub deep left = (104, left) by unfold walk1; rw [if_neg (by omega), hm, if_pos hlm])
      have HF := Lib.hid (show POdd w L (walk1 k n s sub deep left) (.returned (.int .i64 104)) w1' by rw [HS.out]; exact ⟨rfl, ⟨_, hr1', fun h => by cases h⟩, hg1'⟩)
      rw [hw1'] at HF
      rw [hw1'] at u0 u1 u2 u3 r0
      clear hba hV hlfa hwa hrep hw1' hr1' hv1' hg1' hk
      go_enter Tryz.func45, Tryz.ntmps45
      go_wp2_with fail
      go_ret
      exact HF.out
    obtain ⟨lf, hlfe⟩ : ∃ lf : Int, lf = left - 1 := ⟨_, rfl⟩
    have HS := Lib.hid (show walk1 k n s sub deep left = if ownE k n s sub.len = 0 then walkL sub (deep + 1) lf else (ownE k n s sub.len, lf) by unfold walk1; rw [if_neg (by omega), hm, if_neg (by omega), hlfe, show left - (1 + 0) = left - 1 by omega])
    have hlf0 : 0 ≤ lf := by omega
    have hlf4 : lf ≤ 4096 := by omega
    obtain ⟨w1, hw1⟩ : ∃ w1, w1 = w1' := ⟨_, rfl⟩
    have HR1 := Lib.hid (show RwAt w1 L (4096 - lf) by rw [hw1, show 4096 - lf = 4096 - left + 1 by omega]; exact hr1')
    have HV1 := Lib.hid (show StB w1 w.heap.size (.int .i64 k) (.int .i64 n) (.string s) (.slice sa sub.len sc) by rw [hw1]; exact hv1')
    have HG1 := Lib.hid (show w.grownBy w1 (some L) by rw [hw1]; exact hg1')
    have HW1 := Lib.hid (show ((w.setCell ⟨L, 0, none⟩ (.int .i64 (4096 - left + 1))).alloc (.cells #[.int .i64 k, .int .i64 n, .string s, .slice sa sub.len sc] 32)) = w1 by rw [hw1, hw1'])
    rw [hw1'] at u0 u1 u2 u3 r0
    clear hba hV hlfa hwa hrep hw1' hr1' hv1' hg1' hw1 hlfe
    rcases kind_cases (n := n) (s := s) (len := sub.len) hk with ⟨hE, hcs⟩ | ⟨hE, hcs⟩ | ⟨hE, hs0, hcs⟩
    · rw [hE, if_neg (by decide)] at HS
      clear hk hE
      rcases hcs with h | ⟨h, h'⟩ | ⟨rfl, h⟩ | ⟨rfl, h, h'⟩ | ⟨rfl, h⟩ | ⟨rfl, h, h'⟩
      all_goals
        go_enter Tryz.func45, Tryz.ntmps45
        go_wp2_with fail
        go_ret
        rw [HW1.out, HS.out]
        exact ⟨rfl, ⟨_, HR1.out, fun h => by cases h⟩, HG1.out⟩
    · rw [hE, if_neg (by decide)] at HS
      clear hk hE
      have hln : 0 < sub.len → (0 : Int) < (sub.len : Int) := fun h => by omega
      have hnn : n ≠ 0 → (n != 0) = true ∧ (n == 0) = false := fun h => bne_of h
      have hsn : s.toList.isEmpty = false → ¬ s.toList = [] := fun h e => by rw [e] at h; cases h
      rcases hcs with ⟨rfl, he⟩ | ⟨rfl, he, hl⟩ | ⟨rfl, h1, h2, he⟩ | ⟨rfl, h1, h2, he, hl⟩ | ⟨rfl, h1, h2, he⟩ | ⟨rfl, h1, h2, he, hl⟩ | ⟨rfl, hn⟩ | ⟨rfl, rfl, he⟩
      all_goals
        try have hl' := hln hl
        try have he' := hsn he
        try (obtain ⟨hn1, hn2⟩ := hnn hn; clear hn)
        clear hln hnn hsn
        go_enter Tryz.func45, Tryz.ntmps45
        go_wp2_with fail
        go_ret
        rw [HW1.out, HS.out]
        exact ⟨rfl, ⟨_, HR1.out, fun h => by cases h⟩, HG1.out⟩
    · rw [hE, if_pos rfl] at HS
      have he : s.toList.isEmpty = true := by rw [hs0, Lib.toList_data]; rfl
      have he' : s.toList = [] := by rw [hs0, Lib.toList_data]
      have PC := Lib.hid (fun W => printed_c s W hss)
      rw [show prB s.data.toList = true by rw [hs0]; decide] at PC
      clear hk hE hs0
      rcases hcs with ⟨rfl, h0⟩ | ⟨rfl, h1, h2, h0⟩ | ⟨rfl, h1, h2, h0⟩ | ⟨rfl, rfl⟩
      · obtain rfl : sub = .nil := by cases sub with | nil => rfl | cons _ _ _ _ _ => exact absurd h0 (Nat.succ_ne_zero _)
        rw [show VL.nil.len = 0 from rfl] at v0 v1 v2 v3 l0 lf0 u0 u1 u2 u3 r0 HV1 HW1
        rw [show VL.nil.len = 0 from rfl]
        clear h0
        go_enter Tryz.func45, Tryz.ntmps45
        go_wp2_with fail
        rw [HW1.out]
        refine (PC.out _).mono ?_
        rintro e w' ⟨rfl, rfl⟩
        have x3 := HV1.out.c3
        go_wp2_with fail
        go_loopg [9] 0 (fun kk v wr => v = .int .i64 0 ∧ w1 = wr)
        case atStart => exact ⟨rfl, rfl⟩
        case round =>
          obtain ⟨rfl, rfl⟩ := hrel
          go_wp2_with fail
          go_ret
          rw [HS.out]
          exact ⟨rfl, ⟨_, HR1.out, fun _ => rfl⟩, HG1.out⟩
      · obtain rfl : sub = .nil := by cases sub with | nil => rfl | cons _ _ _ _ _ => exact absurd h0 (Nat.succ_ne_zero _)
        rw [show VL.nil.len = 0 from rfl] at v0 v1 v2 v3 l0 lf0 u0 u1 u2 u3 r0 HV1 HW1
        rw [show VL.nil.len = 0 from rfl]
        clear h0
        go_enter Tryz.func45, Tryz.ntmps45
        go_wp2_with fail
        rw [HW1.out]
        refine (PC.out _).mono ?_
        rintro e w' ⟨rfl, rfl⟩
        have x3 := HV1.out.c3
        go_wp2_with fail
        go_loopg [9] 0 (fun kk v wr => v = .int .i64 0 ∧ w1 = wr)
        case atStart => exact ⟨rfl, rfl⟩
        case round =>
          obtain ⟨rfl, rfl⟩ := hrel
          go_wp2_with fail
          go_ret
          rw [HS.out]
          exact ⟨rfl, ⟨_, HR1.out, fun _ => rfl⟩, HG1.out⟩
      · obtain rfl : sub = .nil := by cases sub with | nil => rfl | cons _ _ _ _ _ => exact absurd h0 (Nat.succ_ne_zero _)
        rw [show VL.nil.len = 0 from rfl] at v0 v1 v2 v3 l0 lf0 u0 u1 u2 u3 r0 HV1 HW1
        rw [show VL.nil.len = 0 from rfl]
        clear h0
        go_enter Tryz.func45, Tryz.ntmps45
        go_wp2_with fail
        rw [HW1.out]
        refine (PC.out _).mono ?_
        rintro e w' ⟨rfl, rfl⟩
        have x3 := HV1.out.c3
        go_wp2_with fail
        go_loopg [9] 0 (fun kk v wr => v = .int .i64 0 ∧ w1 = wr)
        case atStart => exact ⟨rfl, rfl⟩
        case round =>
          obtain ⟨rfl, rfl⟩ := hrel
          go_wp2_with fail
          go_ret
          rw [HS.out]
          exact ⟨rfl, ⟨_, HR1.out, fun _ => rfl⟩, HG1.out⟩
      · go_enter Tryz.func45, Tryz.ntmps45
        go_wp2_with fail
        rw [HW1.out]
        refine (PC.out _).mono ?_
        rintro e w' ⟨rfl, rfl⟩
        have x3 := HV1.out.c3
        go_wp2_with fail
        go_loopg [9] sub.len (fun kk v wr => ∃ (i : Nat) (l : Int), v = .int .i64 i ∧ i + kk = sub.len ∧ RwAt wr L (4096 - l) ∧ StB wr w.heap.size (.int .i64 4) (.int .i64 0) (.string s) (.slice sa sub.len sc) ∧ w1.grownBy wr (some L) ∧ 0 ≤ l ∧ l ≤ 4096 ∧ Hid (walkL (sub.drop i) (deep + 1) l = walkL sub (deep + 1) lf))
        case atStart => exact ⟨0, lf, rfl, by omega, HR1.out, HV1.out, only_refl _ _, hlf0, hlf4, by show walkL (sub.drop 0) _ _ = _; rw [VL.drop]⟩
        case round =>
          obtain ⟨i, l, rfl, hik, hlr, hvr, hgr, hl0, hl4, hwl⟩ := hrel
          have x3 := hvr.c3
          by_cases hi : i < sub.len
          · obtain ⟨g, rfl⟩ : ∃ g, gk = g + 1 := ⟨gk - 1, by omega⟩
            obtain ⟨k', n', s', sub', hd⟩ := VL.drop_of_lt i sub hi
            have hrw := HRP.out.grown (only_trans HG1.out hgr) (fun b hb => ⟨hb.1, fun e => by injection e with e; exact hb.2 e⟩)
            obtain ⟨b, o, hsa⟩ : ∃ b o, sa = some ⟨b, o, none⟩ := by
              cases sub with
              | nil => simp [VL.len] at hi
              | cons _ _ _ _ _ => obtain ⟨b, o, _, _, h, _⟩ := hrw; exact ⟨b, o, h⟩
            rw [hsa] at hrw
            have hdr := RpL.drop i sub b o hrw
            rw [hd] at hdr
            obtain ⟨b', o', sa', sc', hA, hSb, c0, c1, c2, c3, hcl, hrs, _⟩ := hdr
            injection hA with hA
            injection hA with hA1 hA2
            subst hA1
            subst hA2
            have hfd := VL.fit_drop i sub hfit
            rw [hd] at hfd
            obtain ⟨hf1, hf2, hf3, _⟩ := hfd
            have hszd := VL.size_drop i sub
            rw [hd] at hszd
            simp only [VL.size] at hszd
            have HWL := Lib.hid hwl
            have HDD := Lib.hid hd
            have HSA := Lib.hid hsa
            subst hsa
            have HRS := Lib.hid hrs
            have HLR := Lib.hid hlr
            have HVR := Lib.hid hvr
            have HGR := Lib.hid hgr
            clear hwl hd hrw hrs hlr hvr hgr
            rw [Nat.mul_comm 4 i] at c0 c1 c2 c3
            have IHC := Lib.hid (ih (sub'.size + 1) (by omega) k' n' s' sub' sa' sc' (deep + 1) l L wr (by omega) HLR.out hf1 hf2 hf3 hcl
              (HRS.out.keep (fun b hb => rfl) (fun b hb => ⟨by have := hb.1; have := HG1.out.size; have := HGR.out.size; omega, hb.2⟩)) (by omega) (by omega) hl0 hl4)
            have HST := Lib.hid (show walkL (sub.drop i) (deep + 1) l = if (walk1 k' n' s' sub' (deep + 1) l).1 = 0 then walkL (sub.drop (i + 1)) (deep + 1) (walk1 k' n' s' sub' (deep + 1) l).2 else walk1 k' n' s' sub' (deep + 1) l by rw [HDD.out, walkL_cons])
            have hrng := walk1_range k' n' s' sub' (deep + 1) l hl0
            obtain ⟨rc, rl, hrr⟩ : ∃ rc rl, walk1 k' n' s' sub' (deep + 1) l = (rc, rl) := ⟨_, _, rfl⟩
            rw [hrr] at IHC HST hrng
            simp only at hrng
            obtain ⟨hrg1, hrg2⟩ := hrng
            clear hrr
            go_wp2_with fail
            refine IHC.out.mono ?_
            rintro e w5 ⟨rfl, ⟨m5, hl5, hm5⟩, hg5⟩
            have HL5 := Lib.hid hl5
            have HG5 := Lib.hid (only_trans HGR.out hg5)
            have HV5 := Lib.hid (HVR.out.only hg5 (by intro e; injection e with e; omega))
            clear hl5 hg5
            by_cases hrc : rc = 0
            · subst hrc
              obtain rfl : m5 = 4096 - rl := hm5 rfl
              have HN := Lib.hid (HST.out.symm.trans HWL.out)
              rw [if_pos rfl] at HN
              rw [show (((0, rl) : Nat × Int).1 : Int) = 0 from rfl]
              go_wp2_with fail
              go_roundg g
              case measure => omega
              case rel => exact ⟨i + 1, rl, by go_num, by omega, HL5.out, HV5.out, HG5.out, hrg1, by omega, HN.out⟩
            · have HN := Lib.hid (HST.out.symm.trans HWL.out)
              rw [if_neg hrc] at HN
              have hb1 : (((rc : Nat) : Int) != 0) = true := (bne_of (by omega)).1
              have hb2 : (((rc : Nat) : Int) == 0) = false := (bne_of (by omega)).2
              rw [show (((rc, rl) : Nat × Int).1 : Int) = (rc : Int) from rfl]
              go_wp2_with fail
              go_ret
              rw [HS.out, ← HN.out]
              exact ⟨rfl, ⟨_, HL5.out, fun h => absurd h hrc⟩, only_trans HG1.out HG5.out⟩
          · obtain rfl : i = sub.len := by omega
            rw [VL.drop_len] at hwl
            have HN := Lib.hid hwl
            have HLR := Lib.hid hlr
            have HGR := Lib.hid hgr
            clear hwl hlr hgr hvr
            go_wp2_with fail
            go_ret
            rw [HS.out, ← HN.out]
            exact ⟨rfl, ⟨_, HLR.out, fun _ => rfl⟩, only_trans HG1.out HGR.out⟩

theorem odd_c (N : Nat) : OddC N := by
  induction N using Nat.strongRecOn with
  | _ N ih => exact odd_step N ih

end Go.Proofs.YtfganjmadehhaaaGreatDoor
namespace Go.Proofs.YtfganjmadehhaaaGreatDoor
open Go.RowKit Go.Lib
set_option linter.unusedVariables false

set_option maxHeartbeats 1000000 in
theorem validR_c (k n : Int) (s : ByteArray) (sub : VL) (sa : Option Addr) (sc : Nat) (w : World) (hs : s.size ≤ 140737488351232) (hl : sub.len ≤ 140737488351232) (hf : sub.fit) (hsc : sub.len ≤ sc)
    (hr : RpL w (fun b => b < w.heap.size) sub sa) :
    Calls Tryz.prog 26 #[.agg #[.int .i64 k, .int .i64 n, .string s, .slice sa sub.len sc]] w fun e w' => e = .returned (.int .i64 (walk1 k n s sub 1 4096).1) ∧ Below w.heap.size w w' := by
  obtain ⟨wa, hwa⟩ : ∃ wa, wa = (w.alloc (.cells #[.int .i64 k, .int .i64 n, .string s, .slice sa sub.len sc] 32)).alloc (.cells #[.int .i64 0] 76) := ⟨_, rfl⟩
  have hb : Below w.heap.size w wa := by rw [hwa]; exact ((Below.refl _ _).alloc (Nat.le_refl _) _).alloc (by simp) _
  have hV : StB wa w.heap.size (.int .i64 k) (.int .i64 n) (.string s) (.slice sa sub.len sc) := by rw [hwa]; exact (StB.new w _ _ _ _).alloc _
  have hL : RwAt wa (w.heap.size + 1) (4096 - 4096) := by rw [hwa]; have := RwAt.new (w.alloc (.cells #[.int .i64 k, .int .i64 n, .string s, .slice sa sub.len sc] 32)) 0; simpa using this
  have hwz : wa.heap.size = w.heap.size + 2 := by rw [hwa]; simp
  have WC := Lib.hid (odd_c (sub.size + 1) k n s sub sa sc 1 4096 (w.heap.size + 1) wa (by omega) hL hs hl hf hsc
    (hr.keep (fun b hlt => hb.block b hlt) (fun b hlt => ⟨by omega, by omega⟩)) (by omega) (by omega) (by omega) (by omega))
  have v0 := hV.c0; have v1 := hV.c1; have v2 := hV.c2; have v3 := hV.c3
  have HB := Lib.hid hb
  have HWA := Lib.hid hwa
  have HWZ := Lib.hid hwz
  rw [hwa] at v0 v1 v2 v3
  clear hb hV hL hwa hwz hr
  go_enter Tryz.func26, Tryz.ntmps26
  go_wp2_with fail
  rw [← HWA.out]
  refine WC.out.mono ?_
  rintro e w5 ⟨rfl, _, hg5⟩
  have HG := Lib.hid hg5
  clear hg5 HWA v0 v1 v2 v3
  go_wp2_with fail
  go_ret
  exact ⟨rfl, HB.out.trans ⟨HG.out.os, HG.out.tape, HG.out.output, HG.out.size, fun b hb => HG.out.block b (by have := HWZ.out; omega) (fun e => by injection e with e; omega)⟩⟩

/-- Is a value right? -/
def rightB (k n : Int) (s : ByteArray) (sub : VL) : Bool := decide ((walk1 k n s sub 1 4096).1 = 0)
set_option maxHeartbeats 1000000 in
theorem right_c (k n : Int) (s : ByteArray) (sub : VL) (sa : Option Addr) (sc : Nat) (w : World) (hf : (val1 k n s sub).fit) (hsc : sub.len ≤ sc)
    (hr : RpL w (fun b => b < w.heap.size) sub sa) :
    Calls Tryz.prog 15 #[.agg #[.int .i64 k, .int .i64 n, .string s, .slice sa sub.len sc]] w fun e w' => e = .returned (.bool (rightB k n s sub)) ∧ Below w.heap.size w w' := by
  obtain ⟨wa, hwa⟩ : ∃ wa, wa = w.alloc (.cells #[.int .i64 k, .int .i64 n, .string s, .slice sa sub.len sc] 32) := ⟨_, rfl⟩
  have hb : Below w.heap.size w wa := by rw [hwa]; exact (Below.refl _ _).alloc (Nat.le_refl _) _
  have hwz : wa.heap.size = w.heap.size + 1 := by rw [hwa]; simp
  have hV : StB wa w.heap.size (.int .i64 k) (.int .i64 n) (.string s) (.slice sa sub.len sc) := by rw [hwa]; exact StB.new w _ _ _ _
  have WC := Lib.hid (validR_c k n s sub sa sc wa hf.1 hf.2.1 hf.2.2.1 hsc (hr.keep (fun b hlt => hb.block b hlt) (fun b hlt => by omega)))
  have v0 := hV.c0; have v1 := hV.c1; have v2 := hV.c2; have v3 := hV.c3
  obtain ⟨c, hc⟩ : ∃ c, c = (walk1 k n s sub 1 4096).1 := ⟨_, rfl⟩
  have HR := Lib.hid (show rightB k n s sub = decide (c = 0) by rw [hc]; rfl)
  rw [← hc] at WC
  rw [HR.out]
  have HB := Lib.hid hb
  have HWA := Lib.hid hwa
  have HWZ := Lib.hid hwz
  rw [hwa] at v0 v1 v2 v3
  clear hb hV hwa hwz hr hc
  have hcc : ((c : Int) == 0) = decide (c = 0) := by
    by_cases h : c = 0
    · subst h; rfl
    · rw [(bne_of (show (c : Int) ≠ 0 by omega)).2, decide_eq_false h]
  go_enter Tryz.func15, Tryz.ntmps15
  go_wp2_with fail
  rw [← HWA.out]
  refine WC.out.mono ?_
  rintro e w5 ⟨rfl, hb5⟩
  have HB5 := Lib.hid (HB.out.trans (below_le' hb5 (by have := HWZ.out; omega)))
  clear hb5
  go_wp2_with fail
  go_ret
  exact ⟨ret_bool rfl, HB5.out⟩
end Go.Proofs.YtfganjmadehhaaaGreatDoor
namespace Go.Proofs.YtfganjmadehhaaaGreatDoor
open Go.RowKit Go.Lib
set_option linter.unusedVariables false

theorem rightB_txt (k n : Int) (s : ByteArray) (sub : VL) : (rightB k n s sub = true → txtV k n s sub = ⟨(txt1 k n s (txtL sub)).toArray⟩ ∧ plnV k n s sub = pln1 k n s sub ∧ (walk1 k n s sub 1 4096).1 = 0) ∧ (rightB k n s sub = false → txtV k n s sub = ⟨#[]⟩ ∧ plnV k n s sub = ⟨#[]⟩) := by
  unfold rightB txtV plnV
  constructor
  · intro h; have h := of_decide_eq_true h; rw [if_pos h, if_pos h]; exact ⟨rfl, rfl, h⟩
  · intro h; have h := of_decide_eq_false h; rw [if_neg h, if_neg h]; exact ⟨rfl, rfl⟩

set_option maxRecDepth 100000 in
set_option maxHeartbeats 2000000 in
theorem TextR_c (k n : Int) (s : ByteArray) (sub : VL) (sa : Option Addr) (sc : Nat) (w : World) (hst : TxAt w) (hfit : (val1 k n s sub).fit) (h64 : (val1 k n s sub).i64) (hsc : sub.len ≤ sc)
    (hrep : RpL w (fun b => b < w.heap.size) sub sa) :
    Calls Tryz.prog 16 #[.agg #[.int .i64 k, .int .i64 n, .string s, .slice sa sub.len sc]] w fun e w' => e = .returned (.string (txtV k n s sub)) ∧ Below w.heap.size w w' := by
  have hroom := hst.room
  obtain ⟨wa, hwa⟩ : ∃ wa, wa = w.alloc (.cells #[.int .i64 k, .int .i64 n, .string s, .slice sa sub.len sc] 32) := ⟨_, rfl⟩
  have hba : Below w.heap.size w wa := by rw [hwa]; exact (Below.refl _ _).alloc (Nat.le_refl _) _
  have hwz : wa.heap.size = w.heap.size + 1 := by rw [hwa]; simp
  have hV : StB wa w.heap.size (.int .i64 k) (.int .i64 n) (.string s) (.slice sa sub.len sc) := by rw [hwa]; exact StB.new w _ _ _ _
  have v0 := hV.c0; have v1 := hV.c1; have v2 := hV.c2; have v3 := hV.c3
  rw [hwa] at v0 v1 v2 v3
  have hrpa := hrep.keep (w' := wa) (fun b hb => hba.block b hb) (fun b hb => hb)
  have VC := Lib.hid (right_c k n s sub sa sc wa hfit hsc (hrpa.wide (fun b hb => by omega)))
  have HBA := Lib.hid hba
  have HWA := Lib.hid hwa
  have HV := Lib.hid hV
  have HST := Lib.hid (hst.below hba (Nat.le_refl _))
  have HRP := Lib.hid hrpa
  have HWZ := Lib.hid hwz
  obtain ⟨h1, h2⟩ := rightB_txt k n s sub
  obtain ⟨q, hq⟩ : ∃ q, q = rightB k n s sub := ⟨_, rfl⟩
  rw [← hq] at VC h1 h2
  clear hba hV hwa hwz hrep hrpa hst hq
  cases q with
  | true =>
    obtain ⟨ht, _, hc⟩ := h1 rfl
    have HT := Lib.hid ht
    have hcost := walk1_cost k n s sub 1 4096 (by omega) hc
    have TC := Lib.hid (fun W (hb : Below (w.heap.size + 1) wa W) => textR_c (sub.size + 1) k n s sub sa sc 1 W (by omega) (walk1_ok hc) h64 (by unfold val1; rw [cost, cost]; omega) hsc
      (HRP.out.keep (fun b hlt => hb.block b (by omega)) (fun b hlt => by have := hb.size; have := HWZ.out; omega)) (HST.out.below hb (by have := HWZ.out; omega)))
    rw [HT.out]
    clear hc hcost ht h1 h2
    go_enter Tryz.func16, Tryz.ntmps16
    go_wp2_with fail
    rw [← HWA.out]
    refine VC.out.mono ?_
    rintro e w2 ⟨rfl, hb2⟩
    have hb2' : Below (w.heap.size + 1) wa w2 := by rw [← HWZ.out]; exact hb2
    have hV2 := HV.out.below' hb2
    have u0 := hV2.c0; have u1 := hV2.c1; have u2 := hV2.c2; have u3 := hV2.c3
    have HB2 := Lib.hid hb2'
    clear hb2 hb2' hV2 v0 v1 v2 v3
    go_wp2_with fail
    refine (TC.out _ HB2.out).mono ?_
    rintro e w3 ⟨rfl, hb3⟩
    have HB3 := Lib.hid (HBA.out.trans (below_le' (HB2.out.trans (below_le' hb3 (by have := HB2.out.size; have := HWZ.out; omega))) (show w.heap.size ≤ w.heap.size + 1 by omega)))
    clear hb3
    go_wp2_with fail
    go_ret
    exact ⟨rfl, HB3.out⟩
  | false =>
    have HT := Lib.hid (h2 rfl).1
    rw [HT.out]
    clear h1 h2
    go_enter Tryz.func16, Tryz.ntmps16
    go_wp2_with fail
    rw [← HWA.out]
    refine VC.out.mono ?_
    rintro e w2 ⟨rfl, hb2⟩
    have HB2 := Lib.hid (HBA.out.trans (below_le' hb2 (by have := HWZ.out; omega)))
    clear hb2
    go_wp2_with fail
    go_ret
    exact ⟨rfl, HB2.out⟩

end Go.Proofs.YtfganjmadehhaaaGreatDoor
namespace Go.Proofs.YtfganjmadehhaaaGreatDoor
open Go.RowKit Go.Lib
set_option linter.unusedVariables false

/-- Read, where all is right. -/
theorem read_ok {ea : Nat → Addr} {s : ByteArray} {w w' : World} {e : Ending} {k n : Int} {t : ByteArray} {sub : VL} (hr : rdV s = (s.size, true, val1 k n t sub)) (h0 : (walk1 k n t sub 1 4096).1 = 0) (h : RdOut ea s w e w') :
    Below w.heap.size w w' ∧ ∃ (sa : Option Addr) (sc : Nat), sub.len ≤ sc ∧ RpL w' (fun b => b < w'.heap.size) sub sa ∧ e = .returned (.tuple #[.agg #[.int .i64 k, .int .i64 n, .string t, .slice sa sub.len sc], .nilIface]) := by
  obtain ⟨hb, ⟨hbad, _⟩ | ⟨_, k', n', t', sub', hv, h⟩⟩ := h
  · exact absurd ⟨by rw [hr], by rw [hr]; exact Nat.le_refl _⟩ hbad
  · rw [hr] at hv
    injection hv with e1 e2 e3 e4 _
    subst e1; subst e2; subst e3; subst e4
    rcases h with ⟨h, _⟩ | ⟨_, sa, sc, hsc, hrep, rfl⟩
    · exact absurd h0 h
    · exact ⟨hb, sa, sc, hsc, hrep.wide (fun b hb => hb.2), rfl⟩
theorem txt_len {k n : Int} {s : ByteArray} {sub : VL} (h0 : (walk1 k n s sub 1 4096).1 = 0) (h64 : (val1 k n s sub).i64) : (txt1 k n s (txtL sub)).length ≤ 100000 := by
  have h1 := txtL_len_le (val1 k n s sub) 1 (walk1_ok h0) h64
  have h2 := walk1_cost k n s sub 1 4096 (by omega) h0
  have h3 : cost (val1 k n s sub) = 1 + mOf k s + cost sub := by unfold val1; rw [cost, cost]; omega
  have h4 : ((txtL (val1 k n s sub)).map fun x => x.length + 2).sum = (txt1 k n s (txtL sub)).length + 2 := by simp [txtL, val1]
  rw [h4] at h1
  omega
theorem cell_below {w W : World} (hb : Below w.heap.size w W) {p : Addr} {v : Value} (h : w.cell? p = some v) : W.cell? p = some v := by
  have hlt : p.block < w.heap.size := by
    unfold World.cell? at h
    rcases Nat.lt_or_ge p.block w.heap.size with hlt | hge
    · exact hlt
    · rw [Array.getElem?_eq_none hge] at h; cases h
  exact (World.cell?_of_block (w := w) (hb.block _ hlt)).trans h

end Go.Proofs.YtfganjmadehhaaaGreatDoor
namespace Go.Proofs.YtfganjmadehhaaaGreatDoor
open Go.RowKit Go.Lib
set_option linter.unusedVariables false

theorem escL_le : ∀ l : List UInt8, (escL l).length ≤ 2 * l.length
  | [] => Nat.le_refl _
  | c :: r => by
    have := escL_le r
    rw [escL]
    split
    · simp only [List.length_cons]; omega
    · simp only [List.length_cons]; omega
theorem litOk_len {k n : Int} {t : ByteArray} (h0 : (walk1 k n t .nil 1 4096).1 = 0) (h64 : (val1 k n t .nil).i64) (hsz : t.size < 4096) : (txt1 k n t []).length ≤ 10000 := by
  by_cases h2 : k = 2
  · subst h2
    have e : txt1 2 n t [] = quoL t.data.toList := rfl
    have hz : t.data.toList.length = t.size := by rw [Array.length_toList]; rfl
    have := escL_le t.data.toList
    rw [e]; unfold quoL
    simp only [List.length_append, List.length_cons, List.length_nil]
    omega
  · have h1 := txtL_len_le (val1 k n t .nil) 1 (walk1_ok h0) h64
    have h4 : ((txtL (val1 k n t .nil)).map fun x => x.length + 2).sum = (txt1 k n t []).length + 2 := by simp [txtL, val1]
    have hm : mOf k t = 0 := by unfold mOf; rw [if_neg h2]
    have h3 : cost (val1 k n t .nil) = 1 := by unfold val1; rw [cost, cost, hm]; rfl
    rw [h4, h3] at h1
    omega
/-- A right value that is no list, as lex asks for it. -/
theorem right_lit {k n : Int} {t : ByteArray} {sub : VL} (hr : rightB k n t sub = true) (h4 : k ≠ 4) (h0 : ¬ (k = 0 ∧ n < 0)) (h64 : (val1 k n t sub).i64) : sub = .nil ∧ LitOk k n t ∧ (walk1 k n t .nil 1 4096).1 = 0 := by
  have hw : (walk1 k n t sub 1 4096).1 = 0 := of_decide_eq_true hr
  have hw2 := hw
  unfold walk1 at hw
  rw [if_neg (by decide)] at hw
  by_cases hm : (4096 : Int) ≤ mOf k t
  · rw [if_pos hm] at hw; cases hw
  · rw [if_neg hm] at hw
    by_cases ho : ownE k n t sub.len = 0
    · have hl : sub.len = 0 := by
        rcases own_ok ho with ⟨_, _, h⟩ | ⟨_, _, _, _, h⟩ | ⟨_, _, h, _⟩ | ⟨_, _, _, _, h⟩ | ⟨h, _⟩
        · exact h
        · exact h
        · exact h
        · exact h
        · exact absurd h h4
      have hs : sub = .nil := by cases sub with | nil => rfl | cons => exact absurd hl (Nat.succ_ne_zero _)
      subst hs
      refine ⟨rfl, ⟨ho, h4, fun hk => ?_, ?_, h64.1, h64.2.1⟩, hw2⟩
      · rcases Int.lt_or_le n 0 with h | h
        · exact absurd ⟨hk, h⟩ h0
        · exact h
      · rcases own_ok ho with ⟨_, h, _⟩ | ⟨_, _, _, h, _⟩ | ⟨h, _⟩ | ⟨_, _, _, h, _⟩ | ⟨h, _⟩
        · rw [bytes_empty h]; decide
        · rw [bytes_empty h]; decide
        · subst h
          unfold mOf at hm
          rw [if_pos rfl] at hm
          omega
        · rw [bytes_empty h]; decide
        · exact absurd h h4
    · rw [if_neg ho] at hw; exact absurd hw ho

set_option maxRecDepth 100000 in
set_option maxHeartbeats 8000000 in
theorem lexLits_c (k n : Int) (s : ByteArray) (sub : VL) (sa : Option Addr) (sc : Nat) (ea : Nat → Addr) (w : World) (hfit : (val1 k n s sub).fit) (h64 : (val1 k n s sub).i64) (hsc : sub.len ≤ sc)
    (hrep : RpL w (fun b => b < w.heap.size) sub sa) (hse : SeesAt w ea) (hst : StrcAt w) (htx : TxAt w) (hsp : SpaceAt w) :
    Calls Tryz.prog 5 #[.agg #[.int .i64 k, .int .i64 n, .string s, .slice sa sub.len sc]] w fun e w' => e = .returned (.bool true) ∧ Below w.heap.size w w' := by
  have he : LxEnv w ea := ⟨hse.errs, hsp, hst⟩
  have hroom := htx.room
  obtain ⟨wa, hwa⟩ : ∃ wa, wa = w.alloc (.cells #[.int .i64 k, .int .i64 n, .string s, .slice sa sub.len sc] 32) := ⟨_, rfl⟩
  have hba : Below w.heap.size w wa := by rw [hwa]; exact (Below.refl _ _).alloc (Nat.le_refl _) _
  have hza : w.heap.size < wa.heap.size := by rw [hwa]; simp
  have hV : StB wa w.heap.size (.int .i64 k) (.int .i64 n) (.string s) (.slice sa sub.len sc) := by rw [hwa]; exact StB.new w _ _ _ _
  have F := Lib.hid (lfirst_c ea wa (he.below hba (by omega)))
  have EV := Lib.hid (fun W (hW : Below wa.heap.size wa W) => he.below (hba.trans (below_le' hW hba.size)) (by omega))
  have SV := Lib.hid (fun W (hW : Below wa.heap.size wa W) => hse.below (hba.trans (below_le' hW hba.size)))
  have XV := Lib.hid (fun W (hW : Below wa.heap.size wa W) => htx.below (hba.trans (below_le' hW hba.size)) (Nat.le_refl _))
  have RV := Lib.hid (fun W (hW : Below wa.heap.size wa W) => hrep.keep (w' := W) (S' := fun b => b < W.heap.size) (fun b hb => (hba.trans (below_le' hW hba.size)).block b hb) (fun b hb => by have := hW.size; have := hba.size; omega))
  have RC := fun W (hW : Below wa.heap.size wa W) => right_c k n s sub sa sc W hfit hsc (RV.out W hW)
  have HV := Lib.hid (fun W (hW : Below wa.heap.size wa W) => hV.below hW hza)
  have HBA := Lib.hid hba
  have HWA := Lib.hid hwa
  clear he hse hst htx hsp hba hV hwa hrep
  cases hrb : rightB k n s sub with
  | false =>
    rw [hrb] at RC
    have RCX := Lib.hid RC
    clear hrb RC
    go_enter Tryz.func5, Tryz.ntmps5
    go_wp2_with fail
    rw [← HWA.out]
    refine F.out.mono ?_
    rintro e w2 ⟨rfl, hb2⟩
    have HB2 := Lib.hid hb2
    have hv2 := HV.out w2 hb2
    have v0 := hv2.c0; have v1 := hv2.c1; have v2 := hv2.c2; have v3 := hv2.c3
    clear hb2 hv2
    go_wp2_with fail
    refine (RCX.out w2 HB2.out).mono ?_
    rintro e w3 ⟨rfl, hb3⟩
    have HB3 := Lib.hid (HB2.out.trans (below_le' hb3 HB2.out.size))
    clear v0 v1 v2 v3 hb3
    have hv3 := HV.out w3 HB3.out
    have v0 := hv3.c0; have v1 := hv3.c1; have v2 := hv3.c2; have v3 := hv3.c3
    clear hv3
    go_wp2_with fail
    go_ret
    exact ⟨rfl, HBA.out.trans (below_le' HB3.out HBA.out.size)⟩
  | true =>
    rw [hrb] at RC
    have RCX := Lib.hid RC
    by_cases h4 : k = 4
    · have hk4 : (k == 4) = true := by rw [h4]; rfl
      clear h4 hrb RC
      go_enter Tryz.func5, Tryz.ntmps5
      go_wp2_with fail
      rw [← HWA.out]
      refine F.out.mono ?_
      rintro e w2 ⟨rfl, hb2⟩
      have HB2 := Lib.hid hb2
      have hv2 := HV.out w2 hb2
      have v0 := hv2.c0; have v1 := hv2.c1; have v2 := hv2.c2; have v3 := hv2.c3
      clear hb2 hv2
      go_wp2_with fail
      refine (RCX.out w2 HB2.out).mono ?_
      rintro e w3 ⟨rfl, hb3⟩
      have HB3 := Lib.hid (HB2.out.trans (below_le' hb3 HB2.out.size))
      clear v0 v1 v2 v3 hb3
      have hv3 := HV.out w3 HB3.out
      have v0 := hv3.c0; have v1 := hv3.c1; have v2 := hv3.c2; have v3 := hv3.c3
      clear hv3
      go_wp2_with fail
      go_ret
      exact ⟨rfl, HBA.out.trans (below_le' HB3.out HBA.out.size)⟩
    by_cases h0 : k = 0 ∧ n < 0
    · have hk0 : (k == 0) = true := by rw [h0.1]; rfl
      have hk4 : (k == 4) = false := by rw [h0.1]; rfl
      have hn0 : n < 0 := h0.2
      clear h4 h0 hrb RC
      go_enter Tryz.func5, Tryz.ntmps5
      go_wp2_with fail
      rw [← HWA.out]
      refine F.out.mono ?_
      rintro e w2 ⟨rfl, hb2⟩
      have HB2 := Lib.hid hb2
      have hv2 := HV.out w2 hb2
      have v0 := hv2.c0; have v1 := hv2.c1; have v2 := hv2.c2; have v3 := hv2.c3
      clear hb2 hv2
      go_wp2_with fail
      refine (RCX.out w2 HB2.out).mono ?_
      rintro e w3 ⟨rfl, hb3⟩
      have HB3 := Lib.hid (HB2.out.trans (below_le' hb3 HB2.out.size))
      clear v0 v1 v2 v3 hb3
      have hv3 := HV.out w3 HB3.out
      have v0 := hv3.c0; have v1 := hv3.c1; have v2 := hv3.c2; have v3 := hv3.c3
      clear hv3
      go_wp2_with fail
      go_ret
      exact ⟨rfl, HBA.out.trans (below_le' HB3.out HBA.out.size)⟩
    obtain ⟨hnil, hlit, hwk⟩ := right_lit hrb h4 h0 h64
    subst hnil
    have htv := ((rightB_txt k n s .nil).1 hrb).1
    have htl := litOk_len hwk h64 hlit.2.2.2.1
    obtain ⟨T, hT⟩ : ∃ T : ByteArray, T = ⟨(txt1 k n s (txtL .nil)).toArray⟩ := ⟨_, rfl⟩
    have hTl : T.data.toList = txt1 k n s [] := by rw [hT]; rfl
    have hTz : T.size ≤ 10000 := by
      have : T.data.toList.length = T.size := by rw [Array.length_toList]; rfl
      rw [← this, hTl]; exact htl
    have TC := Lib.hid (fun W (hW : Below wa.heap.size wa W) => by
      have := TextR_c k n s .nil sa sc W (XV.out W hW) hfit h64 hsc (RV.out W hW)
      rw [htv, ← hT] at this
      exact this)
    have A1 := Lib.hid (lits_one hlit hTl)
    have A2 := Lib.hid (lits_x (s := T ++ ⟨#[120]⟩) hlit (by rw [← hTl]; simp))
    have hT2 : (T ++ (⟨#[120]⟩ : ByteArray)).size ≤ 32768 := by
      rw [ByteArray.size_append]; show T.size + 1 ≤ _; omega
    have SC := Lib.hid (fun W (sa' : Option Addr) (sc' : Nat) (hW : Below wa.heap.size wa W) => by
      have := sameV_c k n s .nil sa' sc' k n s .nil sa sc W hfit hfit (Nat.zero_le _) hsc trivial trivial
      rw [show same1 k n s .nil k n s .nil = true by unfold same1; simp [sameL]] at this
      exact this)
    have hk4 : (k == 4) = false := by rw [beq_eq_false_iff_ne]; exact h4
    have HT2 := Lib.hid hT2
    rw [show VL.nil.len = 0 from rfl] at RCX HV TC SC HWA
    rw [show VL.nil.len = 0 from rfl]
    clear hT hTl htv htl RC hrb hT2 hwk
    by_cases h2 : k = 2
    · have hk0 : (k == 0) = false := by rw [h2]; rfl
      have hk2 : (k == 2) = true := by rw [h2]; rfl
      have A3 := Lib.hid (A2.out.trans (if_pos h2))
      clear A2 h4 h0 h2
      go_enter Tryz.func5, Tryz.ntmps5
      go_wp2_with fail
      rw [← HWA.out]
      refine F.out.mono ?_
      rintro e w2 ⟨rfl, hb2⟩
      have HB2 := Lib.hid hb2
      have hv2 := HV.out w2 hb2
      have v0 := hv2.c0; have v1 := hv2.c1; have v2 := hv2.c2; have v3 := hv2.c3
      clear hb2 hv2
      go_wp2_with fail
      refine (RCX.out w2 HB2.out).mono ?_
      rintro e w3 ⟨rfl, hb3⟩
      have HB3 := Lib.hid (HB2.out.trans (below_le' hb3 HB2.out.size))
      clear v0 v1 v2 v3 hb3
      have hv3 := HV.out w3 HB3.out
      have v0 := hv3.c0; have v1 := hv3.c1; have v2 := hv3.c2; have v3 := hv3.c3
      clear hv3
      go_wp2_with fail
      refine (TC.out w3 HB3.out).mono ?_
      rintro e w4 ⟨rfl, hb4⟩
      have HB4 := Lib.hid (HB3.out.trans (below_le' hb4 HB3.out.size))
      clear v0 v1 v2 v3 hb4
      have hv4 := HV.out w4 HB4.out
      have v0 := hv4.c0; have v1 := hv4.c1; have v2 := hv4.c2; have v3 := hv4.c3
      clear hv4
      go_wp2_with fail
      refine (all_some ea w4 (EV.out w4 HB4.out) (by omega) A1.out Nat.one_pos).mono ?_
      rintro e w5 ⟨g, cap, rfl, hg1, hg2, hb5, hcap, ht⟩
      have HB5 := Lib.hid (HB4.out.trans (below_le' hb5 HB4.out.size))
      clear v0 v1 v2 v3 hb5
      obtain ⟨ta, tc, t0⟩ := ht 0 _ rfl
      have hv5 := HV.out w5 HB5.out
      obtain ⟨S, hS⟩ : ∃ S : World → Prop, S = fun W => W.cell? ⟨g, 0, none⟩ = some (.int .i64 3) ∧ W.cell? ⟨g, 1, none⟩ = some (.int .i64 1) ∧ W.cell? ⟨g, 3, none⟩ = some (.int .i64 k) ∧ W.cell? ⟨g, 4, none⟩ = some (.int .i64 n) ∧ W.cell? ⟨g, 5, none⟩ = some (.string s) ∧ W.cell? ⟨g, 6, none⟩ = some (.slice ta 0 tc) ∧
        W.cell? ⟨w.heap.size, 0, none⟩ = some (.int .i64 k) ∧ W.cell? ⟨w.heap.size, 1, none⟩ = some (.int .i64 n) ∧ W.cell? ⟨w.heap.size, 2, none⟩ = some (.string s) ∧ W.cell? ⟨w.heap.size, 3, none⟩ = some (.slice sa 0 sc) ∧ Below w5.heap.size w5 W := ⟨_, rfl⟩
      have KS : ∀ W, Below w5.heap.size w5 W → S W := fun W hW => by
        rw [hS]
        exact ⟨cell_below hW t0.c0, cell_below hW t0.c1, cell_below hW t0.c3, cell_below hW t0.c4, cell_below hW t0.c5, cell_below hW t0.c6, cell_below hW hv5.c0, cell_below hW hv5.c1, cell_below hW hv5.c2, cell_below hW hv5.c3, hW⟩
      have BS : ∀ W, S W → Below w5.heap.size w5 W := fun W h => by rw [hS] at h; exact h.2.2.2.2.2.2.2.2.2.2
      have C1 := Lib.hid (fun W (h : S W) => (SC.out W ta tc (HB5.out.trans (below_le' (BS W h) HB5.out.size))).mono (R' := fun e W' => e = .returned (.bool true) ∧ S W') fun e W' h' => ⟨h'.1, KS _ ((BS W h).trans (below_le' h'.2 (BS W h).size))⟩)
      have K0 : S w5.drew := KS _ (Below.refl _ _).drew
      have BSS := Lib.hid (fun W (h : S W) => HB5.out.trans (below_le' (BS W h) HB5.out.size))
      clear KS BS ht t0 hv5 hg1 hg2 hcap
      subst hS
      rw [show [(⟨3, 1, ⟨#[]⟩, k, n, s⟩ : Tok)].length = 1 from rfl]
      go_wp2_with fail
      go_region_held3 (fun W => W.cell? ⟨g, 0, none⟩ = some (.int .i64 3) ∧ W.cell? ⟨g, 1, none⟩ = some (.int .i64 1) ∧ W.cell? ⟨g, 3, none⟩ = some (.int .i64 k) ∧ W.cell? ⟨g, 4, none⟩ = some (.int .i64 n) ∧ W.cell? ⟨g, 5, none⟩ = some (.string s) ∧ W.cell? ⟨g, 6, none⟩ = some (.slice ta 0 tc) ∧
        W.cell? ⟨w.heap.size, 0, none⟩ = some (.int .i64 k) ∧ W.cell? ⟨w.heap.size, 1, none⟩ = some (.int .i64 n) ∧ W.cell? ⟨w.heap.size, 2, none⟩ = some (.string s) ∧ W.cell? ⟨w.heap.size, 3, none⟩ = some (.slice sa 0 sc) ∧ Below w5.heap.size w5 W)
        (first | (with_reducible assumption) | (with_reducible exact K0))
        (first
          | (go_at_call 17; refine (C1.out _ ?_).mono ?_; (with_reducible assumption); rintro e w6 ⟨rfl, hs6⟩))
      all_goals
        have HB6 := Lib.hid (BSS.out _ (by assumption))
        go_wp2_with fail
        refine (all_some ea _ (EV.out _ ?_) HT2.out A3.out Nat.two_pos).mono ?_
        · exact HB6.out
        rintro e w7 ⟨g', cap', rfl, hg1, hg2, hb7, hcap, ht⟩
        have HB7 := Lib.hid (HB6.out.trans (below_le' hb7 HB6.out.size))
        have hv7 := HV.out w7 HB7.out
        have y0 := hv7.c0; have y1 := hv7.c1; have y2 := hv7.c2; have y3 := hv7.c3
        clear hv7 hg1 hg2 hb7 ht
        rw [show [(⟨3, 1, ⟨#[]⟩, k, n, s⟩ : Tok), ⟨1, 1, ⟨#[120]⟩, 0, 0, ⟨#[]⟩⟩].length = 2 from rfl]
        go_wp2_with fail
        go_ret
        exact ⟨rfl, HBA.out.trans (below_le' HB7.out HBA.out.size)⟩
    have hk2 : (k == 2) = false := by rw [beq_eq_false_iff_ne]; exact h2
    by_cases hz : k = 0
    · have hk0 : (k == 0) = true := by rw [hz]; rfl
      have hn0 : 0 ≤ n := hlit.2.2.1 hz
      have A3 := Lib.hid (A2.out.trans (if_neg h2))
      clear A2 h4 h0 h2 hz
      go_enter Tryz.func5, Tryz.ntmps5
      go_wp2_with fail
      rw [← HWA.out]
      refine F.out.mono ?_
      rintro e w2 ⟨rfl, hb2⟩
      have HB2 := Lib.hid hb2
      have hv2 := HV.out w2 hb2
      have v0 := hv2.c0; have v1 := hv2.c1; have v2 := hv2.c2; have v3 := hv2.c3
      clear hb2 hv2
      go_wp2_with fail
      refine (RCX.out w2 HB2.out).mono ?_
      rintro e w3 ⟨rfl, hb3⟩
      have HB3 := Lib.hid (HB2.out.trans (below_le' hb3 HB2.out.size))
      clear v0 v1 v2 v3 hb3
      have hv3 := HV.out w3 HB3.out
      have v0 := hv3.c0; have v1 := hv3.c1; have v2 := hv3.c2; have v3 := hv3.c3
      clear hv3
      go_wp2_with fail
      refine (TC.out w3 HB3.out).mono ?_
      rintro e w4 ⟨rfl, hb4⟩
      have HB4 := Lib.hid (HB3.out.trans (below_le' hb4 HB3.out.size))
      clear v0 v1 v2 v3 hb4
      have hv4 := HV.out w4 HB4.out
      have v0 := hv4.c0; have v1 := hv4.c1; have v2 := hv4.c2; have v3 := hv4.c3
      clear hv4
      go_wp2_with fail
      refine (all_some ea w4 (EV.out w4 HB4.out) (by omega) A1.out Nat.one_pos).mono ?_
      rintro e w5 ⟨g, cap, rfl, hg1, hg2, hb5, hcap, ht⟩
      have HB5 := Lib.hid (HB4.out.trans (below_le' hb5 HB4.out.size))
      clear v0 v1 v2 v3 hb5
      obtain ⟨ta, tc, t0⟩ := ht 0 _ rfl
      have hv5 := HV.out w5 HB5.out
      obtain ⟨S, hS⟩ : ∃ S : World → Prop, S = fun W => W.cell? ⟨g, 0, none⟩ = some (.int .i64 3) ∧ W.cell? ⟨g, 1, none⟩ = some (.int .i64 1) ∧ W.cell? ⟨g, 3, none⟩ = some (.int .i64 k) ∧ W.cell? ⟨g, 4, none⟩ = some (.int .i64 n) ∧ W.cell? ⟨g, 5, none⟩ = some (.string s) ∧ W.cell? ⟨g, 6, none⟩ = some (.slice ta 0 tc) ∧
        W.cell? ⟨w.heap.size, 0, none⟩ = some (.int .i64 k) ∧ W.cell? ⟨w.heap.size, 1, none⟩ = some (.int .i64 n) ∧ W.cell? ⟨w.heap.size, 2, none⟩ = some (.string s) ∧ W.cell? ⟨w.heap.size, 3, none⟩ = some (.slice sa 0 sc) ∧ Below w5.heap.size w5 W := ⟨_, rfl⟩
      have KS : ∀ W, Below w5.heap.size w5 W → S W := fun W hW => by
        rw [hS]
        exact ⟨cell_below hW t0.c0, cell_below hW t0.c1, cell_below hW t0.c3, cell_below hW t0.c4, cell_below hW t0.c5, cell_below hW t0.c6, cell_below hW hv5.c0, cell_below hW hv5.c1, cell_below hW hv5.c2, cell_below hW hv5.c3, hW⟩
      have BS : ∀ W, S W → Below w5.heap.size w5 W := fun W h => by rw [hS] at h; exact h.2.2.2.2.2.2.2.2.2.2
      have C1 := Lib.hid (fun W (h : S W) => (SC.out W ta tc (HB5.out.trans (below_le' (BS W h) HB5.out.size))).mono (R' := fun e W' => e = .returned (.bool true) ∧ S W') fun e W' h' => ⟨h'.1, KS _ ((BS W h).trans (below_le' h'.2 (BS W h).size))⟩)
      have K0 : S w5.drew := KS _ (Below.refl _ _).drew
      have BSS := Lib.hid (fun W (h : S W) => HB5.out.trans (below_le' (BS W h) HB5.out.size))
      clear KS BS ht t0 hv5 hg1 hg2 hcap
      subst hS
      rw [show [(⟨3, 1, ⟨#[]⟩, k, n, s⟩ : Tok)].length = 1 from rfl]
      go_wp2_with fail
      go_region_held3 (fun W => W.cell? ⟨g, 0, none⟩ = some (.int .i64 3) ∧ W.cell? ⟨g, 1, none⟩ = some (.int .i64 1) ∧ W.cell? ⟨g, 3, none⟩ = some (.int .i64 k) ∧ W.cell? ⟨g, 4, none⟩ = some (.int .i64 n) ∧ W.cell? ⟨g, 5, none⟩ = some (.string s) ∧ W.cell? ⟨g, 6, none⟩ = some (.slice ta 0 tc) ∧
        W.cell? ⟨w.heap.size, 0, none⟩ = some (.int .i64 k) ∧ W.cell? ⟨w.heap.size, 1, none⟩ = some (.int .i64 n) ∧ W.cell? ⟨w.heap.size, 2, none⟩ = some (.string s) ∧ W.cell? ⟨w.heap.size, 3, none⟩ = some (.slice sa 0 sc) ∧ Below w5.heap.size w5 W)
        (first | (with_reducible assumption) | (with_reducible exact K0))
        (first
          | (go_at_call 17; refine (C1.out _ ?_).mono ?_; (with_reducible assumption); rintro e w6 ⟨rfl, hs6⟩))
      all_goals
        have HB6 := Lib.hid (BSS.out _ (by assumption))
        go_wp2_with fail
        refine (all_bad ea _ (EV.out _ ?_) HT2.out A3.out).mono ?_
        · exact HB6.out
        rintro e w7 ⟨A, hA, hh, rfl, hb7⟩
        have HB7 := Lib.hid (HB6.out.trans (below_le' hb7 HB6.out.size))
        have HAT := Lib.hid (show AtAt w7 A 1 (.iface 199 (.pointer (some (ea (101 + 10))))) from hh)
        have hv7 := HV.out w7 HB7.out
        have y0 := hv7.c0; have y1 := hv7.c1; have y2 := hv7.c2; have y3 := hv7.c3
        clear hv7 hA hh hb7
        go_wp2_with fail
        refine (placed_c 111 1 rfl _).mono ?_
        rintro e w8 ⟨rfl, hb8⟩
        have HB8 := Lib.hid (HB7.out.trans (below_le' hb8 HB7.out.size))
        have HAT8 := Lib.hid (HAT.out.below hb8)
        clear hb8
        go_wp2_with fail
        refine (same_c _ 111 true 1 _ (fun W hW => fault_at ea 10 A 1 W (SV.out W (HB8.out.trans (below_le' hW HB8.out.size))) (by decide) (HAT8.out.below hW))).mono ?_
        rintro e w9 ⟨rfl, hb9⟩
        have HB9 := Lib.hid (HB8.out.trans (below_le' hb9 HB8.out.size))
        clear hb9
        go_wp2_with fail
        go_ret
        exact ⟨rfl, HBA.out.trans (below_le' HB9.out HBA.out.size)⟩
    · have hk0 : (k == 0) = false := by rw [beq_eq_false_iff_ne]; exact hz
      have A3 := Lib.hid (A2.out.trans (if_neg h2))
      clear A2 h4 h0 h2 hz
      go_enter Tryz.func5, Tryz.ntmps5
      go_wp2_with fail
      rw [← HWA.out]
      refine F.out.mono ?_
      rintro e w2 ⟨rfl, hb2⟩
      have HB2 := Lib.hid hb2
      have hv2 := HV.out w2 hb2
      have v0 := hv2.c0; have v1 := hv2.c1; have v2 := hv2.c2; have v3 := hv2.c3
      clear hb2 hv2
      go_wp2_with fail
      refine (RCX.out w2 HB2.out).mono ?_
      rintro e w3 ⟨rfl, hb3⟩
      have HB3 := Lib.hid (HB2.out.trans (below_le' hb3 HB2.out.size))
      clear v0 v1 v2 v3 hb3
      have hv3 := HV.out w3 HB3.out
      have v0 := hv3.c0; have v1 := hv3.c1; have v2 := hv3.c2; have v3 := hv3.c3
      clear hv3
      go_wp2_with fail
      refine (TC.out w3 HB3.out).mono ?_
      rintro e w4 ⟨rfl, hb4⟩
      have HB4 := Lib.hid (HB3.out.trans (below_le' hb4 HB3.out.size))
      clear v0 v1 v2 v3 hb4
      have hv4 := HV.out w4 HB4.out
      have v0 := hv4.c0; have v1 := hv4.c1; have v2 := hv4.c2; have v3 := hv4.c3
      clear hv4
      go_wp2_with fail
      refine (all_some ea w4 (EV.out w4 HB4.out) (by omega) A1.out Nat.one_pos).mono ?_
      rintro e w5 ⟨g, cap, rfl, hg1, hg2, hb5, hcap, ht⟩
      have HB5 := Lib.hid (HB4.out.trans (below_le' hb5 HB4.out.size))
      clear v0 v1 v2 v3 hb5
      obtain ⟨ta, tc, t0⟩ := ht 0 _ rfl
      have hv5 := HV.out w5 HB5.out
      obtain ⟨S, hS⟩ : ∃ S : World → Prop, S = fun W => W.cell? ⟨g, 0, none⟩ = some (.int .i64 3) ∧ W.cell? ⟨g, 1, none⟩ = some (.int .i64 1) ∧ W.cell? ⟨g, 3, none⟩ = some (.int .i64 k) ∧ W.cell? ⟨g, 4, none⟩ = some (.int .i64 n) ∧ W.cell? ⟨g, 5, none⟩ = some (.string s) ∧ W.cell? ⟨g, 6, none⟩ = some (.slice ta 0 tc) ∧
        W.cell? ⟨w.heap.size, 0, none⟩ = some (.int .i64 k) ∧ W.cell? ⟨w.heap.size, 1, none⟩ = some (.int .i64 n) ∧ W.cell? ⟨w.heap.size, 2, none⟩ = some (.string s) ∧ W.cell? ⟨w.heap.size, 3, none⟩ = some (.slice sa 0 sc) ∧ Below w5.heap.size w5 W := ⟨_, rfl⟩
      have KS : ∀ W, Below w5.heap.size w5 W → S W := fun W hW => by
        rw [hS]
        exact ⟨cell_below hW t0.c0, cell_below hW t0.c1, cell_below hW t0.c3, cell_below hW t0.c4, cell_below hW t0.c5, cell_below hW t0.c6, cell_below hW hv5.c0, cell_below hW hv5.c1, cell_below hW hv5.c2, cell_below hW hv5.c3, hW⟩
      have BS : ∀ W, S W → Below w5.heap.size w5 W := fun W h => by rw [hS] at h; exact h.2.2.2.2.2.2.2.2.2.2
      have C1 := Lib.hid (fun W (h : S W) => (SC.out W ta tc (HB5.out.trans (below_le' (BS W h) HB5.out.size))).mono (R' := fun e W' => e = .returned (.bool true) ∧ S W') fun e W' h' => ⟨h'.1, KS _ ((BS W h).trans (below_le' h'.2 (BS W h).size))⟩)
      have K0 : S w5.drew := KS _ (Below.refl _ _).drew
      have BSS := Lib.hid (fun W (h : S W) => HB5.out.trans (below_le' (BS W h) HB5.out.size))
      clear KS BS ht t0 hv5 hg1 hg2 hcap
      subst hS
      rw [show [(⟨3, 1, ⟨#[]⟩, k, n, s⟩ : Tok)].length = 1 from rfl]
      go_wp2_with fail
      go_region_held3 (fun W => W.cell? ⟨g, 0, none⟩ = some (.int .i64 3) ∧ W.cell? ⟨g, 1, none⟩ = some (.int .i64 1) ∧ W.cell? ⟨g, 3, none⟩ = some (.int .i64 k) ∧ W.cell? ⟨g, 4, none⟩ = some (.int .i64 n) ∧ W.cell? ⟨g, 5, none⟩ = some (.string s) ∧ W.cell? ⟨g, 6, none⟩ = some (.slice ta 0 tc) ∧
        W.cell? ⟨w.heap.size, 0, none⟩ = some (.int .i64 k) ∧ W.cell? ⟨w.heap.size, 1, none⟩ = some (.int .i64 n) ∧ W.cell? ⟨w.heap.size, 2, none⟩ = some (.string s) ∧ W.cell? ⟨w.heap.size, 3, none⟩ = some (.slice sa 0 sc) ∧ Below w5.heap.size w5 W)
        (first | (with_reducible assumption) | (with_reducible exact K0))
        (first
          | (go_at_call 17; refine (C1.out _ ?_).mono ?_; (with_reducible assumption); rintro e w6 ⟨rfl, hs6⟩))
      all_goals
        have HB6 := Lib.hid (BSS.out _ (by assumption))
        go_wp2_with fail
        refine (all_bad ea _ (EV.out _ ?_) HT2.out A3.out).mono ?_
        · exact HB6.out
        rintro e w7 ⟨A, hA, hh, rfl, hb7⟩
        have HB7 := Lib.hid (HB6.out.trans (below_le' hb7 HB6.out.size))
        have HAT := Lib.hid (show AtAt w7 A 1 (.iface 199 (.pointer (some (ea (101 + 10))))) from hh)
        have hv7 := HV.out w7 HB7.out
        have y0 := hv7.c0; have y1 := hv7.c1; have y2 := hv7.c2; have y3 := hv7.c3
        clear hv7 hA hh hb7
        go_wp2_with fail
        refine (placed_c 111 1 rfl _).mono ?_
        rintro e w8 ⟨rfl, hb8⟩
        have HB8 := Lib.hid (HB7.out.trans (below_le' hb8 HB7.out.size))
        have HAT8 := Lib.hid (HAT.out.below hb8)
        clear hb8
        go_wp2_with fail
        refine (same_c _ 111 true 1 _ (fun W hW => fault_at ea 10 A 1 W (SV.out W (HB8.out.trans (below_le' hW HB8.out.size))) (by decide) (HAT8.out.below hW))).mono ?_
        rintro e w9 ⟨rfl, hb9⟩
        have HB9 := Lib.hid (HB8.out.trans (below_le' hb9 HB8.out.size))
        clear hb9
        go_wp2_with fail
        go_ret
        exact ⟨rfl, HBA.out.trans (below_le' HB9.out HBA.out.size)⟩
end Go.Proofs.YtfganjmadehhaaaGreatDoor
namespace Go.Proofs.YtfganjmadehhaaaGreatDoor
open Go.RowKit Go.Lib
set_option linter.unusedVariables false

theorem star_err : "*" ++ "errors.errorString" = "*errors.errorString" := by decide
theorem row_err (u : TypeId) (h : Tryz.prog.typeName? 3 u = some "*errors.errorString") : u = 199 :=
  typeName_ptr_named (nm := "errors.errorString") (by rw [star_err]; kernel_rfl) (by kernel_rfl) (by decide) u (by rw [star_err]; exact h)
/-- A sentinel that heads the list: its variable's cell. -/
theorem sent_at {n : String} {text : List UInt8} {r : List (String × DataW Unit)} {W : World} (g : Nat) (h : laidMet Tryz.prog ((n, .iface "*errors.errorString" (.ptr (.agg [.lit (.string text)]))) :: r) W)
    (hg : Tryz.prog.globalNamed n = some g) (ht : (Tryz.prog.globals[g]?).map (·.type) = some 27) : ∃ a : Addr, W.cell? ⟨g, 0, none⟩ = some (.iface 199 (.pointer (some a))) := by
  obtain ⟨a, s, hv, _⟩ := laid_sentinel h hg ht Tryz.underlying27 row_err Tryz.underlying199 Tryz.underlying201 rfl rfl Tryz.underlying9 (by kernel_rfl) (by kernel_rfl)
  exact ⟨a, by simpa using World.var?_cell hg hv 0⟩
end Go.Proofs.YtfganjmadehhaaaGreatDoor
namespace Go.Proofs.YtfganjmadehhaaaGreatDoor
open Go.ChangeShapes Go.WideShapes Go.ChangeAt Go.RowKit Go.Lib
open Go.ChangeMaps (open_string shut_string)
set_option linter.unusedVariables false

theorem own_knob : ownKnob Tryz.prog.godebug = none := by kernel_rfl

/-- The kit's wrap with a condition, the world's shape kept. -/
theorem handed_and_shaped {H : Type} {enc : TypeId × Value → H} {a : Assume} {C : Checked} {os : Os} {f : FuncId} {fn : Func} {s : ChangeSpec} {conds : List PathCond} {apart fresh handsOn again : Bool} {X : World → Array Value → Prop}
    (hX : ∀ (w w' : World) (args : Array Value), w.heap = w'.heap → X w args → X w' args)
    (own : ownKnob C.prog.godebug = none) (started : os.Started) (noInit : C.prog.inits.idxOf? f = none) (hfn : C.prog.funcs[f]? = some fn)
    (witness : ∃ (w : World) (tape : Tape) (i : Input), w.os = os ∧ (w.forCall tape i).Shaped C.prog ∧ i.vars = [] ∧ Input.okWide C.prog (w.forCall tape i) .any w.heap.size f i ∧
      ((s.pre enc C.prog fn conds apart (w.forCall tape i).memory i.args ∧ X (w.forCall tape i).memory i.args) ∧ sizedMet enc C.prog fn (OpenSpec.ofChange s) apart (w.forCall tape i).memory i.args) ∧ a.holds C.prog (lone (Frame.enter C.prog f i.args .normal) [] (w.forCall tape i)))
    (contract : ∀ (W : World) (base : Nat) (args : Array Value) (ds gs : List (DataW H)) (before : List MemPlace),
      (∀ (j : Nat) t v, fn.params[j]? = some t → args[j]? = some v → Value.okWide C.prog W .any base t v) →
      DataW.Whole enc C.prog fn.params.toList s.vars apart W args.toList ds gs before →
      (DataW.weightsEach C.prog (fn.params.toList ++ s.plain.varTypes C.prog) (ds ++ gs)).all (· ≤ reachBytes) = true → X W args → W.ShapedOpen C.prog →
      Calls C.prog f args W fun e W' => ∃ v, e = .returned v ∧ s.post enc C.prog fn apart fresh handsOn again W args v W') :
    ReturnsInHanded a C os f .any (fun w args => (s.pre enc C.prog fn conds apart w args ∧ X w args) ∧ sizedMet enc C.prog fn (OpenSpec.ofChange s) apart w args) (s.post enc C.prog fn apart fresh handsOn again) := by
  refine returnsInHanded_of_calls own started noInit witness ?_
  intro w tape i _ hsh _ hok hpre hholds
  obtain ⟨_, _, _, fn', hfn', _, _, _, _, hval⟩ := hok
  have e : fn' = fn := Option.some.inj (hfn'.symm.trans hfn)
  subst e
  obtain ⟨⟨⟨ds, gs, before, hw, hc⟩, hx⟩, hz⟩ := hpre
  have hw' := DataW.Whole.of_heap (w' := w.forCall tape i) (by rfl) hw
  refine (contract (w.forCall tape i) w.heap.size i.args ds gs before hval hw' (hz.weights hw) (hX _ _ _ (by rfl) hx) hsh).mono fun e W' ⟨v, he, hp⟩ => ?_
  subst he
  exact ChangeSpec.post_blind hp

theorem i64_range {a : Int} (h : (Lit.int .i64 a).wf = true) : -9223372036854775808 ≤ a ∧ a ≤ 9223372036854775807 := by
  have e1 : IntKind.i64.min = -9223372036854775808 := by decide
  have e2 : IntKind.i64.max = 9223372036854775807 := by decide
  simp [Lit.wf] at h
  omega
/-- The errors' addresses out of five of them. -/
def eaOf (a b c d e : Addr) (k : Nat) : Addr := if k = 111 then a else if k = 112 then b else if k = 104 then c else if k = 105 then d else e
theorem room_of {W : World} (h : W.ShapedOpen Tryz.prog) : 24 < W.heap.size := by
  have hsome : (((begin Tryz.prog (fun _ _ => 0) default).world.heap[24]?).bind Obj.row?).isSome = true := by kernel_rfl
  obtain ⟨⟨z, t⟩, hz⟩ := Option.isSome_iff_exists.1 hsome
  have hn : Tryz.prog.globals.size = 28 := by kernel_rfl
  obtain ⟨cs, hc, _⟩ := h.1 24 z t (by rw [hn]; decide) hz
  rcases Nat.lt_or_ge 24 W.heap.size with hlt | hge
  · exact hlt
  · rw [Array.getElem?_eq_none hge] at hc; cases hc
theorem pow_tab {H : Type} : (Rows.laid_internal_strconv_uint64pow10 : DataW Unit) = tabData .u64 pow10Tab := by kernel_rfl

end Go.Proofs.YtfganjmadehhaaaGreatDoor
namespace Go.Proofs.YtfganjmadehhaaaGreatDoor
open Go.ChangeShapes Go.WideShapes Go.ChangeAt Go.RowKit Go.Lib
set_option linter.unusedVariables false

theorem reach_eq : reachBytes = 140737488351232 := by unfold reachBytes; decide
theorem list4 {α : Type} {l : List α} (h : l.length = 4) : ∃ a b c d, l = [a, b, c, d] := by
  match l, h with
  | [a, b, c, d], _ => exact ⟨a, b, c, d, rfl⟩
theorem cells_value : Tryz.prog.cellsOf 32 = 4 := by kernel_rfl
theorem cells_int : Tryz.prog.cellsOf 3 = 1 := by kernel_rfl
theorem cells_int64 : Tryz.prog.cellsOf 2 = 1 := by kernel_rfl
theorem cells_string : Tryz.prog.cellsOf 9 = 1 := by kernel_rfl
theorem cells_values : Tryz.prog.cellsOf 30 = 1 := by kernel_rfl
theorem bytes_value : Tryz.prog.bytesOf 32 = 56 := by kernel_rfl

section
variable {H : Type} {enc : TypeId × Value → H} {W : World} {sp : Nat → Bool} {held : Bool}

theorem trod_val {n : Nat} {cs : List Value} {x : DataW H × List MemPlace} (h : DataW.trod enc Tryz.prog W 0 sp held n 32 cs = some x) :
    ∃ (m : Nat) (k i : Int) (s : ByteArray) (sl : Value) (y : DataW H × List MemPlace), n = m + 1 ∧ cs = [.int .i64 k, .int .i64 i, .string s, sl] ∧ x.1 = .agg [.lit (.int .i64 k), .lit (.int .i64 i), .lit (.string s.data.toList), y.1] ∧
      (-9223372036854775808 ≤ i ∧ i ≤ 9223372036854775807) ∧ DataW.trod enc Tryz.prog W 0 sp held m 30 [sl] = some y := by
  obtain ⟨xs, m, rfl, rfl, hl, hlen, hf⟩ := DataW.trod_struct Tryz.underlying32 h
  rw [cells_value] at hl
  obtain ⟨c0, c1, c2, c3, rfl⟩ := list4 hl
  obtain ⟨y0, y1, y2, y3, rfl⟩ := list4 hlen
  have h0 : DataW.trod enc Tryz.prog W 0 sp held m 3 [c0] = some y0 := by simpa [cells_int] using hf 0 _ rfl
  have h1 : DataW.trod enc Tryz.prog W 0 sp held m 2 [c1] = some y1 := by simpa [cells_int64] using hf 1 _ rfl
  have h2 : DataW.trod enc Tryz.prog W 0 sp held m 9 [c2] = some y2 := by simpa [cells_string] using hf 2 _ rfl
  have h3 : DataW.trod enc Tryz.prog W 0 sp held m 30 [c3] = some y3 := by simpa [cells_values] using hf 3 _ rfl
  obtain ⟨k, e0, rfl, w0⟩ := DataW.trod_int Tryz.underlying3 h0
  obtain ⟨i, e1, rfl, w1⟩ := DataW.trod_int Tryz.underlying2 h1
  obtain ⟨s, e2, rfl, w2⟩ := DataW.trod_string Tryz.underlying9 h2
  injection e0 with e0 _
  injection e1 with e1 _
  injection e2 with e2 _
  subst e0; subst e1; subst e2
  exact ⟨m, k, i, s, c3, y3, rfl, rfl, rfl, i64_range w1, h3⟩

theorem weights_value (k i : Int) (l : List UInt8) (d : DataW H) : DataW.weights Tryz.prog 32 (.agg [.lit (.int .i64 k), .lit (.int .i64 i), .lit (.string l), d]) = l.length :: DataW.weights Tryz.prog 30 d := by
  conv => lhs; unfold DataW.weights
  rw [Tryz.underlying32]
  simp [DataW.weightsEach, DataW.weights]
theorem weights_values (es r : List (DataW H)) : DataW.weights Tryz.prog 30 (.slice es r) = (es.length + r.length) * 56 :: (DataW.weightsAll Tryz.prog 32 es ++ DataW.weightsAll Tryz.prog 32 r) := by
  conv => lhs; unfold DataW.weights
  rw [Tryz.underlying30]
  simp only [bytes_value]
theorem weightsAll_cons (d : DataW H) (r : List (DataW H)) (t : TypeId) : DataW.weightsAll Tryz.prog t (d :: r) = DataW.weights Tryz.prog t d ++ DataW.weightsAll Tryz.prog t r := by rw [DataW.weightsAll]

/-- What comes of a value's reading. -/
def OpenV (W : World) (cs : List Value) : Prop := ∃ (k i : Int) (s : ByteArray) (sub : VL) (sa : Option Addr) (sc : Nat), cs = [.int .i64 k, .int .i64 i, .string s, .slice sa sub.len sc] ∧ (val1 k i s sub).fit ∧ (val1 k i s sub).i64 ∧ sub.len ≤ sc ∧ RpL W (fun b => b < W.heap.size) sub sa
/-- What comes of a list's reading. -/
def OpenL (W : World) (v : Value) : Prop := ∃ (sub : VL) (sa : Option Addr) (sc : Nat), v = .slice sa sub.len sc ∧ sub.fit ∧ sub.i64 ∧ sub.len ≤ 140737488351232 ∧ sub.len ≤ sc ∧ RpL W (fun b => b < W.heap.size) sub sa

theorem open_items {W : World} {m : Nat} (ih : ∀ (cs : List Value) (x : DataW H × List MemPlace), DataW.trod enc Tryz.prog W 0 sp held m 32 cs = some x → (DataW.weights Tryz.prog 32 x.1).all (· ≤ reachBytes) = true → OpenV W cs) (b o : Nat) :
    ∀ (es : List (DataW H × List MemPlace)) (j : Nat), (∀ i, i < es.length → (W.cells? 0 ((⟨b, o, none⟩ : Addr).add ((j + i) * 4)) 4).bind (DataW.trod enc Tryz.prog W 0 sp held m 32) = es[i]?) → (DataW.weightsAll Tryz.prog 32 (es.map (·.1))).all (· ≤ reachBytes) = true →
      ∃ sub : VL, sub.len = es.length ∧ sub.fit ∧ sub.i64 ∧ RpL W (fun b => b < W.heap.size) sub (some ⟨b, o + 4 * j, none⟩)
  | [], j, _, _ => ⟨.nil, rfl, trivial, trivial, trivial⟩
  | e :: r, j, hel, hw => by
    have h0 := hel 0 (by simp)
    rw [Nat.add_zero, List.getElem?_cons_zero, Option.bind_eq_some_iff] at h0
    obtain ⟨cs, hcs, ht⟩ := h0
    rw [List.map_cons, weightsAll_cons, List.all_append, Bool.and_eq_true] at hw
    obtain ⟨k, i, s, sub, sa, sc, rfl, hfit, h64, hsc, hrep⟩ := ih cs e ht hw.1
    obtain ⟨rest, hrl, hrf, hr6, hrr⟩ := open_items ih b o r (j + 1) (fun i hi => by
      have := hel (i + 1) (by simp; omega)
      rw [List.getElem?_cons_succ, show j + (i + 1) = j + 1 + i by omega] at this
      exact this) hw.2
    obtain ⟨_, _, hcell⟩ := World.cells?_some hcs
    have ha : ∀ q, q < 4 → W.cell? ⟨b, o + 4 * j + q, none⟩ = ([.int .i64 k, .int .i64 i, .string s, .slice sa sub.len sc] : List Value)[q]? := fun q hq => by
      have := hcell q hq
      rw [show (((⟨b, o, none⟩ : Addr).add (j * 4)).add q) = ⟨b, o + 4 * j + q, none⟩ by
        rw [Lib.add_plain, Lib.add_plain, Nat.mul_comm]] at this
      exact this
    have hb : b < W.heap.size := by
      have h0 := ha 0 (by omega)
      unfold World.cell? at h0
      rcases Nat.lt_or_ge b W.heap.size with hlt | hge
      · exact hlt
      · simp only [Array.getElem?_eq_none hge] at h0; cases h0
    refine ⟨.cons k i s sub rest, by rw [VL.len, hrl, List.length_cons], ⟨hfit.1, hfit.2.1, hfit.2.2.1, hrf⟩, ⟨h64.1, h64.2.1, h64.2.2.1, hr6⟩, b, o + 4 * j, sa, sc, rfl, hb, ha 0 (by omega), ha 1 (by omega), ha 2 (by omega), ha 3 (by omega), hsc, hrep, ?_⟩
    rw [show o + 4 * j + 4 = o + 4 * (j + 1) by omega]
    exact hrr

set_option maxRecDepth 100000 in
theorem open_list {W : World} {m : Nat} (ih : ∀ m', m' < m → ∀ (cs : List Value) (x : DataW H × List MemPlace), DataW.trod enc Tryz.prog W 0 sp held m' 32 cs = some x → (DataW.weights Tryz.prog 32 x.1).all (· ≤ reachBytes) = true → OpenV W cs) {v : Value} {y : DataW H × List MemPlace}
    (h : DataW.trod enc Tryz.prog W 0 sp held m 30 [v] = some y) (hw : (DataW.weights Tryz.prog 30 y.1).all (· ≤ reachBytes) = true) : OpenL W v := by
  rcases DataW.trod_slice Tryz.underlying30 h with ⟨hcs, rfl⟩ | ⟨a, len, cap, elems, rest, n, rfl, hcs, rfl, _, hlc, _, hlen, hel, _, _⟩
  · injection hcs with hcs _
    exact ⟨.nil, none, 0, hcs, trivial, trivial, by decide, Nat.le_refl _, trivial⟩
  · injection hcs with hcs _
    subst hcs
    simp only [weights_values, List.all_cons, List.all_append, Bool.and_eq_true, decide_eq_true_eq, List.length_map] at hw
    obtain ⟨hw1, hw2, _⟩ := hw
    have hrb := reach_eq
    rw [hrb] at hw1
    by_cases h0 : len = 0
    · subst h0
      exact ⟨.nil, some a, cap, rfl, trivial, trivial, by decide, Nat.zero_le _, trivial⟩
    obtain ⟨b, o, spot⟩ := a
    have hspot : spot = none := by
      have e0 := hel 0 (by omega)
      have : ∃ y0, elems[0]? = some y0 := ⟨elems[0], List.getElem?_eq_getElem (by omega)⟩
      obtain ⟨y0, hy0⟩ := this
      rw [hy0, Option.bind_eq_some_iff] at e0
      obtain ⟨cs, hcs, _⟩ := e0
      rw [cells_value] at hcs
      obtain ⟨_, hl4, hcell⟩ := World.cells?_some hcs
      have g0 := hcell 0 (by omega)
      rw [List.getElem?_eq_getElem (by omega)] at g0
      simpa [Addr.add] using World.cell?_spot g0
    subst hspot
    obtain ⟨sub, hsl, hsf, hs6, hrep⟩ := open_items (ih n (by omega)) b o elems 0 (fun i hi => by
      have := hel i (by omega)
      rw [cells_value] at this
      rw [Nat.zero_add]; exact this) hw2
    rw [hlen] at hsl
    refine ⟨sub, some ⟨b, o, none⟩, cap, by rw [hsl], hsf, hs6, by omega, by omega, ?_⟩
    rw [show o = o + 4 * 0 by omega]; exact hrep

theorem open_val {W : World} : ∀ (n : Nat) (cs : List Value) (x : DataW H × List MemPlace), DataW.trod enc Tryz.prog W 0 sp held n 32 cs = some x → (DataW.weights Tryz.prog 32 x.1).all (· ≤ reachBytes) = true → OpenV W cs := by
  intro n
  induction n using Nat.strongRecOn with
  | _ n ih =>
    intro cs x h hw
    obtain ⟨m, k, i, s, sl, y, rfl, rfl, hx, hi, hy⟩ := trod_val h
    rw [hx, weights_value, List.all_cons, Bool.and_eq_true, decide_eq_true_eq] at hw
    have hrb := reach_eq
    rw [hrb] at hw
    have hs : s.data.toList.length = s.size := by rw [Array.length_toList]; rfl
    obtain ⟨sub, sa, sc, rfl, hsf, hs6, hsl, hsc, hrep⟩ := open_list (m := m) (fun m' hm' => ih m' (by omega)) hy (by rw [hrb]; exact hw.2)
    exact ⟨k, i, s, sub, sa, sc, rfl, ⟨by omega, hsl, hsf, trivial⟩, ⟨hi.1, hi.2, hs6, trivial⟩, hsc, hrep⟩
end

section
variable {H : Type} {enc : TypeId × Value → H} {W : World} {sp : Nat → Bool} {held : Bool}
set_option maxRecDepth 100000 in
/-- A value that was handed in. -/
theorem open_value {r : Reach} {b0 : Nat} {v : Value} {d : DataW H} {p : List MemPlace} (hv : Value.okWide Tryz.prog W r b0 32 v) (h : DataW.Trod enc Tryz.prog W 0 sp held 32 v d p)
    (hw : (DataW.weights Tryz.prog 32 d).all (· ≤ reachBytes) = true) :
    ∃ (k n : Int) (s : ByteArray) (sub : VL) (sa : Option Addr) (sc : Nat), v = .agg #[.int .i64 k, .int .i64 n, .string s, .slice sa sub.len sc] ∧ (val1 k n s sub).fit ∧ (val1 k n s sub).i64 ∧ sub.len ≤ sc ∧ RpL W (fun b => b < W.heap.size) sub sa := by
  obtain ⟨cs, rfl, _⟩ := okWide_struct Tryz.underlying32 hv
  obtain ⟨fuel, hf⟩ := h
  obtain ⟨k, n, s, sub, sa, sc, hcs, rest⟩ := open_val fuel _ _ hf hw
  refine ⟨k, n, s, sub, sa, sc, ?_, rest⟩
  rw [← Array.toArray_toList (xs := cs)]
  exact congrArg (fun l : List Value => Value.agg l.toArray) hcs
theorem open_values {d : DataW H} {v : Value} {p : List MemPlace} (hv : v.cells.toList = [v]) (h : DataW.Trod enc Tryz.prog W 0 sp held 30 v d p)
    (hw : (DataW.weights Tryz.prog 30 d).all (· ≤ reachBytes) = true) : OpenL W v := by
  obtain ⟨fuel, hf⟩ := h
  rw [hv] at hf
  exact open_list (m := fuel) (fun m' _ => open_val m') hf hw
end

set_option maxRecDepth 100000 in
theorem cells_slice {W : World} {r : Reach} {b0 : Nat} {t e : TypeId} {v : Value} (ht : Tryz.prog.underlying t = some (.slice e)) (h : Value.okWide Tryz.prog W r b0 t v) : v.cells.toList = [v] := by
  obtain ⟨a, len, cap, rfl⟩ := okWide_slice ht h
  rfl
theorem weights_head {H : Type} {t : TypeId} {ts : List TypeId} {d : DataW H} {r : List (DataW H)} {p : Nat → Bool} (h : (DataW.weightsEach Tryz.prog (t :: ts) (d :: r)).all p = true) : (DataW.weights Tryz.prog t d).all p = true ∧ (DataW.weightsEach Tryz.prog ts r).all p = true := by
  rw [DataW.weightsEach, List.all_append, Bool.and_eq_true] at h; exact h
theorem weight_string {H : Type} {s : ByteArray} (h : (DataW.weights Tryz.prog 9 (.lit (.string s.data.toList) : DataW H)).all (· ≤ reachBytes) = true) : s.size ≤ 140737488351232 := by
  rw [DataW.weights, List.all_cons, Bool.and_eq_true, decide_eq_true_eq, reach_eq, Array.length_toList] at h
  exact h.1
theorem laid_out : laidOutB Tryz.prog = true := by kernel_rfl
end Go.Proofs.YtfganjmadehhaaaGreatDoor
namespace Go.Proofs.YtfganjmadehhaaaGreatDoor
open Go.RowKit Go.Lib Go.ChangeShapes Go.WideShapes
set_option linter.unusedVariables false

/-- The variables that hold these errors. -/
def AllSent (W : World) : List (String × Nat) → List Addr → Prop
  | [], [] => True
  | x :: l, a :: bs => W.cell? ⟨x.2, 0, none⟩ = some (.iface 199 (.pointer (some a))) ∧ (∃ c t, W.heap[a.block]? = some (.cells c t (0, 0))) ∧ AllSent W l bs
  | [], _ :: _ => False
  | _ :: _, [] => False
theorem AllSent.len {W : World} : ∀ {l : List (String × Nat)} {bs : List Addr}, AllSent W l bs → bs.length = l.length
  | [], [], _ => rfl
  | x :: l, a :: bs, h => by rw [List.length_cons, List.length_cons, AllSent.len h.2.2]
  | [], _ :: _, h => h.elim
  | _ :: _, [], h => h.elim
theorem AllSent.get {W : World} : ∀ {l : List (String × Nat)} {bs : List Addr} (k : Nat), AllSent W l bs → k < l.length →
    W.cell? ⟨(l.getD k ("", 0)).2, 0, none⟩ = some (.iface 199 (.pointer (some (bs.getD k ⟨0, 0, none⟩)))) ∧ ∃ c t, W.heap[(bs.getD k ⟨0, 0, none⟩).block]? = some (.cells c t (0, 0))
  | [], [], k, _, hk => absurd hk (Nat.not_lt_zero _)
  | x :: l, a :: bs, 0, h, _ => ⟨h.1, h.2.1⟩
  | x :: l, a :: bs, k + 1, h, hk => by
    rw [List.getD_cons_succ, List.getD_cons_succ]
    exact AllSent.get k h.2.2 (by rw [List.length_cons] at hk; omega)
  | [], _ :: _, _, h, _ => h.elim
  | _ :: _, [], _, h, _ => h.elim

set_option maxRecDepth 100000 in
theorem sents_of {W : World} : ∀ (l : List (String × DataW Unit × Nat)) (rest : List (String × DataW Unit)) (ps : List MemPlace), DataW.LaidVars Tryz.prog W ((l.map fun x => (x.1, x.2.1)) ++ rest) ps →
    (∀ x ∈ l, (∃ t, x.2.1 = .iface "*errors.errorString" (.ptr (.agg [.lit (.string t)]))) ∧ Tryz.prog.globalNamed x.1 = some x.2.2 ∧ (Tryz.prog.globals[x.2.2]?).map (·.type) = some 27) →
    (∀ b off, MemPlace.cell b off ∈ ps → (∃ c t, W.heap[b]? = some (.cells c t (0, 0))) ∧ ∀ u v, W.cell? ⟨b, off, none⟩ = some (.iface u v) → Value.okWide Tryz.prog W .any 0 u v) →
    ∃ bs : List Addr, AllSent W (l.map fun x => (x.1, x.2.2)) bs ∧ List.Sublist (bs.map fun a => MemPlace.cell a.block a.off) ps
  | [], rest, ps, _, _, _ => ⟨[], trivial, List.nil_sublist _⟩
  | x :: l, rest, ps, h, hl, hrows => by
    obtain ⟨⟨text, hx⟩, hg, ht⟩ := hl x (by simp)
    obtain ⟨n, d, g⟩ := x
    simp only at hx hg ht
    subst hx
    obtain ⟨g0, t0, cs0, f0, p0, q0, hg0, ht0, hv0, hd0, hrest, e0⟩ := h
    obtain rfl := Option.some.inj (hg.symm.trans hg0)
    obtain rfl := Option.some.inj (ht.symm.trans ht0)
    subst e0
    obtain ⟨l0⟩ := cs0
    have ok0 : ∀ u v, l0 = [.iface u v] → Value.okWide Tryz.prog W .any 0 u v := fun u v e => by
      subst e
      exact (hrows g 0 (by simp [MemPlace.row])).2 u v (by simpa using World.var?_cell hg0 hv0 0)
    obtain ⟨a, s, rfl, hc0, hs0, hz0, rfl⟩ := errorString_of_trod Tryz.underlying27 row_err Tryz.underlying199 Tryz.underlying201 rfl rfl Tryz.underlying9 (by kernel_rfl) (by kernel_rfl) hd0 ok0
    obtain ⟨bs, has, hsub⟩ := sents_of l rest q0 hrest (fun x hx => hl x (by simp [hx])) (fun b off hb => hrows b off (by simp [hb]))
    refine ⟨a :: bs, ⟨by simpa using World.var?_cell hg0 hv0 0, (hrows a.block a.off (by simp [MemPlace.row])).1, has⟩, ?_⟩
    have e1 : MemPlace.row a 1 = [MemPlace.cell a.block a.off] := by simp [MemPlace.row]
    rw [e1, List.map_cons, List.append_assoc]
    exact (List.Sublist.cons_cons _ hsub).trans (List.sublist_append_right _ _)

/-- All of api's errors lie in places of their own. -/
theorem sees_of {W : World} (l : List (String × DataW Unit × Nat)) (rest : List (String × DataW Unit)) (h : laidMet Tryz.prog ((l.map fun x => (x.1, x.2.1)) ++ rest) W) (hG : l.map (fun x => x.2.2) = seeG)
    (hl : ∀ x ∈ l, (∃ t, x.2.1 = .iface "*errors.errorString" (.ptr (.agg [.lit (.string t)]))) ∧ Tryz.prog.globalNamed x.1 = some x.2.2 ∧ (Tryz.prog.globals[x.2.2]?).map (·.type) = some 27) (hr : 24 < W.heap.size) : ∃ ea, SeesAt W ea := by
  obtain ⟨ps, hv, hnd, hrows⟩ := h
  obtain ⟨bs, has, hsub⟩ := sents_of l rest ps hv hl hrows
  have hlen : l.length = 17 := by have := congrArg List.length hG; rw [List.length_map] at this; exact this
  have hal := has.len
  rw [List.length_map, hlen] at hal
  have hk : ∀ k, k < 17 → ((l.map fun x => (x.1, x.2.2)).getD k ("", 0)).2 = seeG.getD k 0 := by
    intro k hk
    rw [← hG]
    simp only [List.getD_eq_getElem?_getD, List.getElem?_map]
    rw [List.getElem?_eq_getElem (by omega)]; rfl
  have he : ∀ k, 101 + k - 101 = k := fun k => by omega
  refine ⟨fun k => bs.getD (k - 101) ⟨0, 0, none⟩, fun k h17 => ?_, fun k h17 => ?_, fun i j hi hj e => ?_, hr⟩
  · rw [← hk k h17]
    simp only [he]
    exact (has.get k (by rw [List.length_map, hlen]; exact h17)).1
  · simp only [he]
    exact (has.get k (by rw [List.length_map, hlen]; exact h17)).2
  · simp only [he] at e
    have hnd2 := hnd.sublist hsub
    rw [List.Nodup, List.pairwise_iff_getElem] at hnd2
    rw [List.getD_eq_getElem?_getD, List.getD_eq_getElem?_getD, List.getElem?_eq_getElem (by omega), List.getElem?_eq_getElem (by omega)] at e
    simp only [Option.getD_some] at e
    rcases Nat.lt_trichotomy i j with hij | hij | hij
    · exact absurd (by rw [List.getElem_map, List.getElem_map, e]) (hnd2 i j (by rw [List.length_map]; omega) (by rw [List.length_map]; omega) hij)
    · exact hij
    · exact absurd (by rw [List.getElem_map, List.getElem_map, e]) (hnd2 j i (by rw [List.length_map]; omega) (by rw [List.length_map]; omega) hij)
end Go.Proofs.YtfganjmadehhaaaGreatDoor
namespace Go.Proofs.YtfganjmadehhaaaGreatDoor
open Go.RowKit Go.Lib
set_option linter.unusedVariables false

/-- A row of values of the call's own. -/
structure CInv (base : Nat) (w0 wr : World) (V : Value) (acc : VL) (xs : List Value) : Prop where
  own : wr.ownsRow base 32 4 V acc.len xs
  cells : CellsOf wr (fun b => base ≤ b ∧ b < wr.heap.size ∧ V.ownBlock ≠ some b) acc xs
  below : Below base w0 wr
  size : base ≤ wr.heap.size
theorem CInv.nil (w : World) : CInv w.heap.size w w (.slice none 0 0) .nil [] := ⟨World.ownsRow_nil _ _ _ _, rfl, Below.refl _ _, Nat.le_refl _⟩
theorem CInv.move {base : Nat} {w0 wr w' : World} {V : Value} {acc : VL} {xs : List Value} (h : CInv base w0 wr V acc xs) (hb : Below wr.heap.size wr w') : CInv base w0 w' V acc xs :=
  ⟨own_below h.own hb, h.cells.keep (fun b hb' => hb.block b hb'.2.1) (fun b hb' => ⟨hb'.1, Nat.lt_of_lt_of_le hb'.2.1 hb.size, hb'.2.2⟩), h.below.trans (below_le' hb h.size), Nat.le_trans h.size hb.size⟩
theorem CInv.step {base : Nat} {w0 wr w3 w5 : World} {V V' : Value} {acc : VL} {xs : List Value} (h : CInv base w0 wr V acc xs) (hb : Below wr.heap.size wr w3)
    {k n : Int} {t : ByteArray} {sub : VL} {sa : Option Addr} {sc : Nat} (hsc : sub.len ≤ sc) (hrep : RpL w3 (fun b => wr.heap.size ≤ b ∧ b < w3.heap.size) sub sa) {o1 : Obj}
    (hown : w5.ownsRow base 32 4 V' (acc.len + 1) (xs ++ [.int .i64 k, .int .i64 n, .string t, .slice sa sub.len sc])) (hg : (w3.alloc o1).grownBy w5 V.ownBlock)
    (hob : V'.ownBlock = V.ownBlock ∨ V'.ownBlock = some (w3.alloc o1).heap.size) :
    CInv base w0 w5 V' (acc.app (val1 k n t sub)) (xs ++ [.int .i64 k, .int .i64 n, .string t, .slice sa sub.len sc]) := by
  have h3 := h.move hb
  have hVg : ∀ g, V.ownBlock = some g → base ≤ g ∧ g < wr.heap.size := fun g hg => ⟨own_ge h.own g hg, own_lt h.own g hg⟩
  have hsz : (w3.alloc o1).heap.size = w3.heap.size + 1 := by simp
  have hz5 : w3.heap.size + 1 ≤ w5.heap.size := by have := hg.size; omega
  have hz3 := hb.size
  have hz0 := h.size
  have blk : ∀ b, b < w3.heap.size → V.ownBlock ≠ some b → w5.heap[b]? = w3.heap[b]? := fun b hb hne => by
    have h1 := hg.block b (by omega) (fun e => hne e.symm)
    rw [h1, Below.heap_alloc _ _ _ hb]
  have hV'b : ∀ b, b < w3.heap.size → V.ownBlock ≠ some b → V'.ownBlock ≠ some b := fun b hb hne e => by
    rcases hob with e2 | e2
    · exact hne (e2.symm.trans e)
    · rw [e] at e2
      injection e2 with e2
      omega
  refine ⟨by rw [VL.len_app]; exact hown, ?_, ?_, by omega⟩
  · refine CellsOf.app _ _ _ _ ?_ ⟨sa, sc, [], rfl, hsc, ?_, rfl⟩
    · exact h3.cells.keep (fun b hb => blk b hb.2.1 hb.2.2) (fun b hb => ⟨hb.1, by have := hb.2.1; omega, hV'b b hb.2.1 hb.2.2⟩)
    · have hne : ∀ b, wr.heap.size ≤ b → V.ownBlock ≠ some b := fun b hb e => by have := (hVg b e).2; omega
      exact hrep.keep (fun b hb => blk b hb.2 (hne b hb.1)) (fun b hb => ⟨by have := hb.1; omega, by have := hb.2; omega, hV'b b hb.2 (hne b hb.1)⟩)
  · exact grown_below (h3.below.alloc h3.size o1) (by simp; omega) hg (fun k hk => (hVg k hk).1)
/-- What the row reads as. -/
theorem CInv.rep {base : Nat} {w0 wr : World} {V : Value} {acc : VL} {xs : List Value} (h : CInv base w0 wr V acc xs) : ∃ (sa : Option Addr) (sc : Nat), V = .slice sa acc.len sc ∧ acc.len ≤ sc ∧ RpL wr (fun b => base ≤ b ∧ b < wr.heap.size) acc sa :=
  own_rep h.own (h.cells.keep (fun _ _ => rfl) (fun b hb => ⟨hb.1, hb.2.1⟩)) (fun g hg => ⟨own_ge h.own g hg, own_lt h.own g hg⟩)

/-- A copy comes out. -/
def PCopy (w : World) (k n : Int) (s : ByteArray) (sub : VL) (e : Ending) (w' : World) : Prop :=
  ∃ (sa : Option Addr) (sc : Nat), e = .returned (.agg #[.int .i64 k, .int .i64 n, .string s, .slice sa sub.len sc]) ∧ sub.len ≤ sc ∧ RpL w' (fun b => w.heap.size ≤ b ∧ b < w'.heap.size) sub sa ∧ Below w.heap.size w w'

theorem clone_end {w wr : World} {k n : Int} {s : ByteArray} {sub : VL} {bv : Value} {sb : Option Addr} {cb : Nat} (hb : Below w.heap.size w wr) (hz : w.heap.size + 2 ≤ wr.heap.size) (hr : StB wr (w.heap.size + 1) (.int .i64 0) (.int .i64 0) (.string ⟨#[]⟩) (.slice none 0 0))
    (hbv : bv = .slice sb sub.len cb) (hcb : sub.len ≤ cb) (hrb : RpL wr (fun b => w.heap.size + 2 ≤ b ∧ b < wr.heap.size) sub sb) :
    StB (((((wr.setCell ⟨w.heap.size, 3, none⟩ bv).setCell ⟨w.heap.size + 1, 0, none⟩ (.int .i64 k)).setCell ⟨w.heap.size + 1, 1, none⟩ (.int .i64 n)).setCell ⟨w.heap.size + 1, 2, none⟩ (.string s)).setCell ⟨w.heap.size + 1, 3, none⟩ bv) (w.heap.size + 1) (.int .i64 k) (.int .i64 n) (.string s) bv ∧
    PCopy w k n s sub (.returned (.agg #[.int .i64 k, .int .i64 n, .string s, bv])) (((((wr.setCell ⟨w.heap.size, 3, none⟩ bv).setCell ⟨w.heap.size + 1, 0, none⟩ (.int .i64 k)).setCell ⟨w.heap.size + 1, 1, none⟩ (.int .i64 n)).setCell ⟨w.heap.size + 1, 2, none⟩ (.string s)).setCell ⟨w.heap.size + 1, 3, none⟩ bv) := by
  have hr' : StB (wr.setCell ⟨w.heap.size, 3, none⟩ bv) (w.heap.size + 1) (.int .i64 0) (.int .i64 0) (.string ⟨#[]⟩) (.slice none 0 0) := hr.far (by show w.heap.size + 1 ≠ w.heap.size; omega) _
  have hz1 : (wr.setCell ⟨w.heap.size, 3, none⟩ bv).heap.size = wr.heap.size := by simp [World.setCell]
  have hb1 : Below w.heap.size w (wr.setCell ⟨w.heap.size, 3, none⟩ bv) := Below.setCell hb (show w.heap.size ≤ (⟨w.heap.size, 3, none⟩ : Addr).block from Nat.le_refl _) _
  have hrb1 : RpL (wr.setCell ⟨w.heap.size, 3, none⟩ bv) (fun b => w.heap.size + 2 ≤ b ∧ b < wr.heap.size) sub sb := hrb.keep (fun c hc => Below.heap_setCell _ _ _ _ (by show c ≠ w.heap.size; omega)) (fun c hc => hc)
  exact ⟨hr'.set4 _ _ _ _, sb, cb, by rw [hbv], hcb, hrb1.keep (fun c hc => heap_set4 _ _ _ _ _ _ _ (by omega)) (fun c hc => ⟨by omega, by rw [size_set4, hz1]; exact hc.2⟩), below_set4 hb1 (by omega) _ _ _ _⟩

end Go.Proofs.YtfganjmadehhaaaGreatDoor
namespace Go.Proofs.YtfganjmadehhaaaGreatDoor
open Go.RowKit Go.Lib
set_option linter.unusedVariables false

theorem list_end {w wr : World} {sub : VL} {sb : Option Addr} {cb : Nat} (hb : Below w.heap.size w wr) (hz : w.heap.size + 1 ≤ wr.heap.size) (hr : StB wr w.heap.size (.int .i64 0) (.int .i64 0) (.string ⟨#[]⟩) (.slice none 0 0))
    (hcb : sub.len ≤ cb) (hrb : RpL wr (fun b => w.heap.size + 1 ≤ b ∧ b < wr.heap.size) sub sb) :
    StB ((((wr.setCell ⟨w.heap.size, 0, none⟩ (.int .i64 4)).setCell ⟨w.heap.size, 1, none⟩ (.int .i64 0)).setCell ⟨w.heap.size, 2, none⟩ (.string ⟨#[]⟩)).setCell ⟨w.heap.size, 3, none⟩ (.slice sb sub.len cb)) w.heap.size (.int .i64 4) (.int .i64 0) (.string ⟨#[]⟩) (.slice sb sub.len cb) ∧
    PCopy w 4 0 ⟨#[]⟩ sub (.returned (.agg #[.int .i64 4, .int .i64 0, .string ⟨#[]⟩, .slice sb sub.len cb])) ((((wr.setCell ⟨w.heap.size, 0, none⟩ (.int .i64 4)).setCell ⟨w.heap.size, 1, none⟩ (.int .i64 0)).setCell ⟨w.heap.size, 2, none⟩ (.string ⟨#[]⟩)).setCell ⟨w.heap.size, 3, none⟩ (.slice sb sub.len cb)) :=
  ⟨hr.set4 _ _ _ _, sb, cb, rfl, hcb, hrb.keep (fun c hc => heap_set4 _ _ _ _ _ _ _ (by omega)) (fun c hc => ⟨by omega, by rw [size_set4]; exact hc.2⟩), below_set4 hb (Nat.le_refl _) _ _ _ _⟩

end Go.Proofs.YtfganjmadehhaaaGreatDoor
namespace Go.Proofs.YtfganjmadehhaaaGreatDoor
open Go.RowKit Go.Lib
set_option linter.unusedVariables false

/-- A copy of a list comes out. -/
def PList (w : World) (l : VL) (e : Ending) (w' : World) : Prop :=
  ∃ (sa : Option Addr) (sc : Nat), e = .returned (.slice sa l.len sc) ∧ l.len ≤ sc ∧ RpL w' (fun b => w.heap.size ≤ b ∧ b < w'.heap.size) l sa ∧ Below w.heap.size w w'
theorem value_end {w wr : World} {k n : Int} {s : ByteArray} {sub : VL} {sb : Option Addr} {cb : Nat} (hb : Below w.heap.size w wr) (hz : w.heap.size + 2 ≤ wr.heap.size) (hr : StB wr (w.heap.size + 1) (.int .i64 0) (.int .i64 0) (.string ⟨#[]⟩) (.slice none 0 0))
    (hcb : sub.len ≤ cb) (hrb : RpL wr (fun b => w.heap.size + 2 ≤ b ∧ b < wr.heap.size) sub sb) :
    StB ((((wr.setCell ⟨w.heap.size + 1, 0, none⟩ (.int .i64 k)).setCell ⟨w.heap.size + 1, 1, none⟩ (.int .i64 n)).setCell ⟨w.heap.size + 1, 2, none⟩ (.string s)).setCell ⟨w.heap.size + 1, 3, none⟩ (.slice sb sub.len cb)) (w.heap.size + 1) (.int .i64 k) (.int .i64 n) (.string s) (.slice sb sub.len cb) ∧
    PCopy w k n s sub (.returned (.agg #[.int .i64 k, .int .i64 n, .string s, .slice sb sub.len cb])) ((((wr.setCell ⟨w.heap.size + 1, 0, none⟩ (.int .i64 k)).setCell ⟨w.heap.size + 1, 1, none⟩ (.int .i64 n)).setCell ⟨w.heap.size + 1, 2, none⟩ (.string s)).setCell ⟨w.heap.size + 1, 3, none⟩ (.slice sb sub.len cb)) :=
  ⟨hr.set4 _ _ _ _, sb, cb, rfl, hcb, hrb.keep (fun c hc => heap_set4 _ _ _ _ _ _ _ (by omega)) (fun c hc => ⟨by omega, by rw [size_set4]; exact hc.2⟩), below_set4 hb (by omega) _ _ _ _⟩

end Go.Proofs.YtfganjmadehhaaaGreatDoor
namespace Go.Proofs.YtfganjmadehhaaaGreatDoor
open Go.RowKit Go.Lib
set_option linter.unusedVariables false

/-- How deep values are, beside what was met. -/
def deepF : VL → Int → Int
  | .nil, a => a
  | .cons k n s sub rest, a => deepF rest (max a ((if k = 4 then deepF sub 0 else 0) + 1))
def dp (k : Int) (sub : VL) : Int := (if k = 4 then deepF sub 0 else 0) + 1
theorem deepF_cons (k n : Int) (s : ByteArray) (sub rest : VL) (a : Int) : deepF (.cons k n s sub rest) a = deepF rest (max a (dp k sub)) := rfl
theorem deepF_bound : ∀ (l : VL) (a : Int), a ≤ deepF l a ∧ deepF l a ≤ max a (cost l)
  | .nil, a => ⟨Int.le_refl _, by rw [deepF]; omega⟩
  | .cons k n s sub rest, a => by
    have h1 := deepF_bound sub 0
    have h2 := deepF_bound rest (max a (dp k sub))
    have hm := mOf_ge k s
    have hc := cost_ge sub
    have hr := cost_ge rest
    rw [deepF_cons, cost]
    have hd : dp k sub ≤ 1 + cost sub := by unfold dp; split <;> omega
    omega
/-- How great values are, beside what was met. -/
def szF : VL → Int → Int
  | .nil, a => a
  | .cons k n s sub rest, a => szF rest (a + (if k = 2 then 1 + (s.size : Int) else if k = 4 then szF sub 1 else 1))
def sz1 (k : Int) (s : ByteArray) (sub : VL) : Int := if k = 2 then 1 + (s.size : Int) else if k = 4 then szF sub 1 else 1
theorem szF_cons (k n : Int) (s : ByteArray) (sub rest : VL) (a : Int) : szF (.cons k n s sub rest) a = szF rest (a + sz1 k s sub) := rfl
theorem szF_bound : ∀ (l : VL) (a : Int), a ≤ szF l a ∧ szF l a ≤ a + cost l
  | .nil, a => ⟨Int.le_refl _, by rw [szF, cost]; omega⟩
  | .cons k n s sub rest, a => by
    have h1 := szF_bound sub 1
    have h2 := szF_bound rest (a + sz1 k s sub)
    have hm := mOf_ge k s
    have hc := cost_ge sub
    rw [szF_cons, cost]
    have hd : 0 ≤ sz1 k s sub ∧ sz1 k s sub ≤ 1 + mOf k s + cost sub := by
      unfold sz1
      by_cases h2 : k = 2
      · rw [if_pos h2]; have : mOf k s = s.size := by unfold mOf; rw [if_pos h2]
        omega
      · rw [if_neg h2]
        split <;> omega
    omega

end Go.Proofs.YtfganjmadehhaaaGreatDoor
namespace Go.Proofs.YtfganjmadehhaaaGreatDoor
open Go.RowKit Go.Lib
set_option linter.unusedVariables false

/-- Fits' code. -/
def fitsV (k : Int) (s : ByteArray) (sub : VL) : Int := if 40 < dp k sub then 9 else if 4096 < sz1 k s sub then 14 else 0
/-- Are all values right? -/
def rightsL : VL → Bool
  | .nil => true
  | .cons k n s sub rest => rightB k n s sub && rightsL rest
theorem rights_cost : ∀ (l : VL), rightsL l = true → cost l ≤ 4096 * (l.len : Int)
  | .nil, _ => by rw [cost, VL.len]; omega
  | .cons k n s sub rest, h => by
    rw [rightsL, Bool.and_eq_true] at h
    have h1 := walk1_cost k n s sub 1 4096 (by omega) (of_decide_eq_true h.1)
    have h2 := rights_cost rest h.2
    rw [cost, VL.len]; omega
/-- A number below another one. -/
def PNum (b : Nat) (w : World) (e : Ending) (w' : World) : Prop := ∃ r : Nat, r < b ∧ e = .returned (.int .i64 r) ∧ w = w'
set_option maxHeartbeats 1000000 in
theorem wnumber_c (n : Int) (b : Nat) (w : World) (hn0 : -9223372036854775808 ≤ n) (hn1 : n ≤ 9223372036854775807) (hb0 : 0 < b) (hb1 : b ≤ 1000000) :
    Calls Tryz.prog 11 #[.int .i64 n, .int .i64 b] w (PNum b w) := by
  have ht1 : Int.tmod n b < b := Int.tmod_lt_of_pos n (by omega)
  have ht0 : -(b : Int) < Int.tmod n b := by
    by_cases h : 0 ≤ n
    · have := Int.tmod_nonneg (b : Int) h; omega
    · have h1 := Int.tmod_lt_of_pos (-n) (show (0 : Int) < (b : Int) by omega)
      rw [Int.neg_tmod] at h1; omega
  have hbz : ((b : Int) == 0) = false := (bne_of (by omega)).2
  by_cases hneg : Int.tmod n b < 0
  · have hd : decide (Int.tmod n b < 0) = true := decide_eq_true hneg
    go_enter Tryz.func11, Tryz.ntmps11
    go_wp2_with fail
    go_ret
    exact ⟨(Int.tmod n b + b).toNat, by omega, ret_int (by omega), rfl⟩
  · have hd : decide (Int.tmod n b < 0) = false := decide_eq_false hneg
    go_enter Tryz.func11, Tryz.ntmps11
    go_wp2_with fail
    go_ret
    exact ⟨(Int.tmod n b).toNat, by omega, ret_int (by omega), rfl⟩
end Go.Proofs.YtfganjmadehhaaaGreatDoor
