/- Contracts of the functions that the statement reaches, and the plain mathematics beneath: several texts joined. -/
import Derived.Test.YtfganjmadehhaaaGreatDoorLxsF
import Derived.Test.YtfganjmadehhaaaGreatDoorLxsD
import Derived.Test.YtfganjmadehhaaaGreatDoorLxsB
import Derived.Test.YtfganjmadehhaaaGreatDoorLxsC
import Derived.Deep.RegionHeld3
import Derived.Test.YtfganjmadehhaaaGreatDoorLxsE
import Derived.Lib.AppendStr
import Derived.Test.YtfganjmadehhaaaGreatDoorLxsA
namespace Go.Proofs.YtfganjmadehhaaaGreatDoor
open Go.RowKit Go.Lib
set_option linter.unusedVariables false

theorem join_snoc (l : List (List UInt8)) (x : List UInt8) (h : l ≠ []) : join (l ++ [x]) [44, 32] = join l [44, 32] ++ [44, 32] ++ x := by
  cases l with
  | nil => exact absurd rfl h
  | cons a t =>
    rw [List.cons_append, join_cons, join_cons]
    simp [joinTail]
theorem sum_take (l : VL) (i : Nat) : ((txtL (l.take i)).map fun x => x.length + 2).sum ≤ ((txtL l).map fun x => x.length + 2).sum := by
  have h : txtL l = txtL (l.take i) ++ txtL (l.drop i) := by rw [← txtL_app, VL.take_app_drop]
  rw [h, List.map_append, List.sum_append]; omega

/-- What a call of the reference's text is to show. -/
def TextRC (N : Nat) : Prop := ∀ (k n : Int) (s : ByteArray) (sub : VL) (sa : Option Addr) (sc : Nat) (d : Int) (w : World), sub.size < N → OkL (val1 k n s sub) d → (val1 k n s sub).i64 → cost (val1 k n s sub) ≤ 4096 → sub.len ≤ sc →
  RpL w (fun b => b < w.heap.size) sub sa → TxAt w →
  Calls Tryz.prog 27 #[.agg #[.int .i64 k, .int .i64 n, .string s, .slice sa sub.len sc]] w fun e w' => e = .returned (.string ⟨(txt1 k n s (txtL sub)).toArray⟩) ∧ Below w.heap.size w w'

set_option maxRecDepth 100000 in
set_option maxHeartbeats 4000000 in
theorem textR_step (N : Nat) (ih : ∀ N', N' < N → TextRC N') : TextRC N := by
  intro k n s sub sa sc d w hN hok h64 hcost hsc hrep hst
  have hroom := hst.room
  obtain ⟨hown, hoks⟩ := OkL_one hok
  obtain ⟨hn0, hn1, h64s, _⟩ := h64
  obtain ⟨wa, hwa⟩ : ∃ wa, wa = w.alloc (.cells #[.int .i64 k, .int .i64 n, .string s, .slice sa sub.len sc] 32) := ⟨_, rfl⟩
  have hba : Below w.heap.size w wa := by rw [hwa]; exact (Below.refl _ _).alloc (Nat.le_refl _) _
  have hwz : wa.heap.size = w.heap.size + 1 := by rw [hwa]; simp
  have hV : StB wa w.heap.size (.int .i64 k) (.int .i64 n) (.string s) (.slice sa sub.len sc) := by rw [hwa]; exact StB.new w _ _ _ _
  have v0 := hV.c0; have v1 := hV.c1; have v2 := hV.c2; have v3 := hV.c3
  have hsta : TxAt wa := hst.below hba (Nat.le_refl _)
  have HBA := Lib.hid hba
  have HWA := Lib.hid hwa
  have HWZ := Lib.hid hwz
  have HST := Lib.hid hsta
  have HV := Lib.hid hV
  have hcs : cost (val1 k n s sub) = 1 + mOf k s + cost sub := by unfold val1; rw [cost, cost]; omega
  have FC := fun (W : World) (hW : TxAt W) => Lib.hid (Tryz.strconv_FormatInt_10 n (by omega) (by omega) W hW.tab)
  obtain ⟨t, ht⟩ : ∃ t : ByteArray, t = ⟨(itoa n).toArray⟩ := ⟨_, rfl⟩
  have htl : t.size ≤ 20 := by
    have h1 : t.size = t.data.toList.length := by rw [Array.length_toList]; rfl
    rw [h1, ht]; exact itoa_len hn0 hn1
  rw [← ht] at FC
  rw [hwa] at v0 v1 v2 v3
  rcases own_ok hown with ⟨rfl, -⟩ | ⟨rfl, -⟩ | ⟨rfl, -⟩ | ⟨rfl, hm0, hm1, -⟩ | ⟨rfl, -⟩
  · have HR := Lib.hid (show (⟨(txt1 0 n s (txtL sub)).toArray⟩ : ByteArray) = t by rw [ht]; rfl)
    rw [HR.out]
    clear hba hV hsta hwa hwz ht hrep hst hok hown hoks hcs HR
    go_enter Tryz.func27, Tryz.ntmps27
    go_wp2_with fail
    rw [← HWA.out]
    refine (FC _ HST.out).out.mono ?_
    rintro e w3 ⟨rfl, kk, os, hw3⟩
    have HB3 := Lib.hid (show Below w.heap.size w w3 by rw [hw3]; exact HBA.out.trans (below_grow _ _ HBA.out.size _ _))
    clear hw3
    go_wp2_with fail
    go_ret
    exact ⟨rfl, HB3.out⟩
  · have HR := Lib.hid (show (⟨(txt1 1 n s (txtL sub)).toArray⟩ : ByteArray) = ⟨#[35]⟩ ++ t by rw [ht]; apply ByteArray.ext; simp [txt1])
    rw [HR.out]
    clear hba hV hsta hwa hwz ht hrep hst hok hown hoks hcs HR
    go_enter Tryz.func27, Tryz.ntmps27
    go_wp2_with fail
    rw [← HWA.out]
    refine (FC _ HST.out).out.mono ?_
    rintro e w3 ⟨rfl, kk, os, hw3⟩
    have HB3 := Lib.hid (show Below w.heap.size w w3 by rw [hw3]; exact HBA.out.trans (below_grow _ _ HBA.out.size _ _))
    clear hw3
    go_wp2_with fail
    go_ret
    exact ⟨rfl, HB3.out⟩
  · have QC := Lib.hid (fun W => quoted_c s W (by
      have : mOf 2 s = s.size := rfl
      have := cost_ge sub
      omega))
    rw [show (⟨(quoL s.data.toList).toArray⟩ : ByteArray) = ⟨(txt1 2 n s (txtL sub)).toArray⟩ from rfl] at QC
    clear hba hV hsta hwa hwz ht hrep hst hok hown hoks hcs FC
    go_enter Tryz.func27, Tryz.ntmps27
    go_wp2_with fail
    rw [← HWA.out]
    refine (QC.out _).mono ?_
    rintro e w' ⟨rfl, rfl⟩
    go_wp2_with fail
    go_ret
    exact ⟨rfl, HBA.out⟩
  · have NC := Lib.hid (fun W => name_r n W (by omega) (by omega))
    rw [show nmS n = ⟨(txt1 3 n s (txtL sub)).toArray⟩ from rfl] at NC
    clear hba hV hsta hwa hwz ht hrep hst hok hown hoks hcs FC
    go_enter Tryz.func27, Tryz.ntmps27
    go_wp2_with fail
    rw [← HWA.out]
    refine (NC.out _).mono ?_
    rintro e w' ⟨rfl, rfl⟩
    go_wp2_with fail
    go_ret
    exact ⟨rfl, HBA.out⟩
  · have hcsub : cost sub ≤ 4096 := by have : mOf 4 s = 0 := rfl; omega
    have hsum := txtL_len_le sub (d + 1) hoks h64s
    have HRP := Lib.hid (hrep.keep (w' := wa) (fun b hb => hba.block b hb) (fun b hb => hb))
    clear hba hV hsta hwa hwz ht hrep hst hok hown hcs FC
    go_enter Tryz.func27, Tryz.ntmps27
    go_wp2_with fail
    rw [← HWA.out]
    clear v0 v1 v2 v3
    go_loopg [3, 4] sub.len (fun kk ov v wr => ∃ (X : ByteArray) (i : Nat), ov = .string X ∧ v = .int .i64 i ∧ i + kk = sub.len ∧ Hid (X.data.toList = 123 :: join (txtL (sub.take i)) [44, 32]) ∧ Below (w.heap.size + 1) wa wr)
    case atStart => exact ⟨⟨#[123]⟩, 0, rfl, rfl, by omega, by show _ = 123 :: join (txtL (sub.take 0)) [44, 32]; rw [VL.take]; rfl, Below.refl _ _⟩
    case round =>
      obtain ⟨X, i, rfl, rfl, hik, hX, hbr⟩ := hrel
      have hrz := hbr.size
      have hwz := HWZ.out
      have hvr := HV.out.below hbr (by omega)
      have x3 := hvr.c3
      have hXz : X.size ≤ 200000 := by
        have h1 : X.size = X.data.toList.length := by rw [Array.length_toList]; rfl
        have h2 := join_len (txtL (sub.take i))
        have h3 := sum_take sub i
        rw [h1, hX.out, List.length_cons]; omega
      have hln := len_cost sub
      by_cases hi : i < sub.len
      · obtain ⟨g, rfl⟩ : ∃ g, gk = g + 1 := ⟨gk - 1, by omega⟩
        obtain ⟨b, o, k', n', s', sub', sa', sc', hA, hd, hSb, c0, c1, c2, c3, hcl, hrs, hszd⟩ := rp_at (HRP.out.keep (w' := wr) (fun b hb => hbr.block b (by omega)) (fun b hb => hb)) hi
        have hts := VL.take_succ i sub k' n' s' sub' hd
        have hod := ok_drop i sub (d + 1) hoks
        rw [hd] at hod
        have h6d := i64_drop i sub h64s
        rw [hd] at h6d
        have hcd := cost_drop i sub
        rw [hd, cost] at hcd
        have hcr := cost_ge (sub.drop (i + 1))
        have IHC := Lib.hid (ih (sub'.size + 1) (by omega) k' n' s' sub' sa' sc' (d + 1) wr (by omega) ⟨hod.1, hod.2.1, hod.2.2.1, trivial⟩ ⟨h6d.1, h6d.2.1, h6d.2.2.1, trivial⟩ (by unfold val1; rw [cost, cost]; omega) hcl
          (hrs.keep (fun b hb => rfl) (fun b hb => by omega)) (HST.out.below hbr (by omega)))
        obtain ⟨x, hx⟩ : ∃ x : ByteArray, x = ⟨(txt1 k' n' s' (txtL sub')).toArray⟩ := ⟨_, rfl⟩
        rw [← hx] at IHC
        have hxs : x.size ≤ 200000 := by
          have h1 : x.size = x.data.toList.length := by rw [Array.length_toList]; rfl
          have h3 := sum_take sub (i + 1)
          rw [hts, txtL_app, List.map_append, List.sum_append] at h3
          have h4 : x.data.toList = txt1 k' n' s' (txtL sub') := by rw [hx]
          have h5 : ((txtL (.cons k' n' s' sub' .nil)).map fun x => x.length + 2).sum = (txt1 k' n' s' (txtL sub')).length + 2 := by simp [txtL]
          rw [h1, h4]; omega
        have HT := Lib.hid (show txtL (sub.take (i + 1)) = txtL (sub.take i) ++ [x.data.toList] by rw [hts, txtL_app, hx]; rfl)
        have HSA := Lib.hid hA
        have HBR := Lib.hid hbr
        subst hA
        clear hrs hbr hd hts hod h6d hcd hx hvr
        by_cases h0 : i = 0
        · subst h0
          have HN := Lib.hid (show (X ++ x : ByteArray).data.toList = 123 :: join (txtL (sub.take (0 + 1))) [44, 32] by
            have h1 := hX.out
            rw [HT.out]
            rw [VL.take] at h1 ⊢
            rw [show txtL VL.nil = [] from rfl, join_nil] at h1
            rw [show txtL VL.nil = [] from rfl, List.nil_append, join_one]
            simp [h1])
          have hd0 : decide ((0 : Int) < ((0 : Nat) : Int)) = false := by decide
          rw [Nat.zero_mul, Nat.add_zero] at c0 c1 c2 c3
          go_wp2_with fail
          refine IHC.out.mono ?_
          rintro e w5 ⟨rfl, hb5⟩
          have HB5 := Lib.hid (HBR.out.trans (below_le' hb5 (by have := HBR.out.size; omega)))
          clear hb5
          go_wp2_with fail
          go_roundg g
          case measure => omega
          case rel => exact ⟨_, 0 + 1, rfl, by go_num, by omega, HN.out, HB5.out⟩
        · have HN := Lib.hid (show (X ++ ⟨#[44, 32]⟩ ++ x : ByteArray).data.toList = 123 :: join (txtL (sub.take (i + 1))) [44, 32] by
            have h1 := hX.out
            rw [HT.out, join_snoc _ _ (fun e => by
              have := congrArg List.length e
              rw [txtL_len] at this
              have h2 : (sub.take i).len + (sub.drop i).len = sub.len := by rw [← VL.len_app, VL.take_app_drop]
              rw [VL.len_drop] at h2
              simp only [List.length_nil] at this
              omega)]
            simp [h1])
          have hd0 : decide ((0 : Int) < (i : Int)) = true := by simp; omega
          go_wp2_with fail
          refine IHC.out.mono ?_
          rintro e w5 ⟨rfl, hb5⟩
          have HB5 := Lib.hid (HBR.out.trans (below_le' hb5 (by have := HBR.out.size; omega)))
          clear hb5
          go_wp2_with fail
          go_roundg g
          case measure => omega
          case rel => exact ⟨_, i + 1, rfl, by go_num, by omega, HN.out, HB5.out⟩
      · obtain rfl : i = sub.len := by omega
        have HN := Lib.hid (show (X ++ ⟨#[125]⟩ : ByteArray) = ⟨(txt1 4 n s (txtL sub)).toArray⟩ by
          have h1 := hX.out
          rw [VL.take_len] at h1
          apply ByteArray.ext
          have h2 : (X ++ ⟨#[125]⟩ : ByteArray).data.toList = txt1 4 n s (txtL sub) := by
            show _ = 123 :: (join (txtL sub) [44, 32] ++ [125])
            simp [h1]
          rw [← h2])
        have HBR := Lib.hid (HBA.out.trans (below_le' hbr (by omega)))
        clear hbr hvr
        go_wp2_with fail
        go_ret
        exact ⟨ret_str HN.out, HBR.out⟩

theorem textR_c (N : Nat) : TextRC N := by
  induction N using Nat.strongRecOn with
  | _ N ih => exact textR_step N ih
end Go.Proofs.YtfganjmadehhaaaGreatDoor
namespace Go.Proofs.YtfganjmadehhaaaGreatDoor
open Go.RowKit Go.Lib
set_option linter.unusedVariables false

/-- What is told of a value that is right. -/
def pln1 (k n : Int) (s : ByteArray) (sub : VL) : ByteArray := if k = 2 then s else if k = 4 then ⟨#[123, 108, 105, 115, 116, 125]⟩ else ⟨(txt1 k n s (txtL sub)).toArray⟩
/-- What is told of a value, empty where it is not right. -/
def plnV (k n : Int) (s : ByteArray) (sub : VL) : ByteArray := if (walk1 k n s sub 1 4096).1 = 0 then pln1 k n s sub else ⟨#[]⟩

end Go.Proofs.YtfganjmadehhaaaGreatDoor
namespace Go.Proofs.YtfganjmadehhaaaGreatDoor
open Go.RowKit Go.Lib
set_option linter.unusedVariables false

set_option maxHeartbeats 400000 in
theorem printed_c (s : ByteArray) (w : World) (hs : s.size ≤ 140737488351232) :
    Calls Tryz.prog 78 #[.string s] w fun e w' => e = .returned (.bool (prB s.data.toList)) ∧ w = w' := by
  go_enter Tryz.func78, Tryz.ntmps78
  go_wp2
  go_loop [3] (fun i => ∃ k : Nat, k ≤ s.size ∧ i = .int .i64 k ∧ Hid (prB (s.data.toList.take k) = true)) (fun i => s.size - (intOf i).toNat)
  case atStart => exact ⟨0, Nat.zero_le _, rfl, rfl⟩
  case round =>
    obtain ⟨k, hk, rfl, hall⟩ := hrel
    by_cases hlt : k < s.size
    · have hts := Lib.hid (take_snoc s k hlt)
      go_wp2
      all_goals first
        | (go_ret
           exact ⟨ret_bool (prB_bad s k hlt (by omega)).symm, rfl⟩)
        | (refine ⟨⟨k + 1, by omega, by go_num, ?_⟩, by simp [intOf]; omega⟩
           show prB _ = true
           have hx := hall.out
           unfold prB at hx ⊢
           rw [hts.out, List.all_append, hx, List.all_cons, show prC s[k] = true from decide_eq_true (by omega)]
           rfl)
    · obtain rfl : k = s.size := by omega
      go_wp2
      go_ret
      refine ⟨ret_bool ?_, rfl⟩
      have := hall.out
      rw [List.take_of_length_le (by simp)] at this
      exact this.symm

/-- The reference's count: one number in a block of its own. -/
def RwAt (w : World) (L : Nat) (n : Int) : Prop := w.heap[L]? = some (.cells #[.int .i64 n] 76 (0, 0))
section
variable {w w' : World} {L : Nat} {left : Int}
theorem RwAt.lt (h : RwAt w L left) : L < w.heap.size := by
  rcases Nat.lt_or_ge L w.heap.size with hlt | hge
  · exact hlt
  · unfold RwAt at h; rw [Array.getElem?_eq_none hge] at h; cases h
theorem RwAt.c0 (h : RwAt w L left) : w.cell? ⟨L, 0, none⟩ = some (.int .i64 left) := cell_of_row w L 0 _ _ _ h
theorem RwAt.fr (h : RwAt w L left) : w.frozen? ⟨L, 0, none⟩ = false := by unfold RwAt at h; simp [World.frozen?, h]
theorem RwAt.alloc (h : RwAt w L left) (o : Obj) : RwAt (w.alloc o) L left := (Below.heap_alloc w o L h.lt).trans h
theorem RwAt.set (h : RwAt w L left) (n : Int) : RwAt (w.setCell ⟨L, 0, none⟩ (.int .i64 n)) L n := by
  unfold RwAt at h ⊢; simp [World.setCell, Array.getElem?_modify, h]
theorem RwAt.below (h : RwAt w L left) {B : Nat} (hb : Below B w w') (hL : L < B) : RwAt w' L left := (hb.block L hL).trans h
theorem RwAt.new (W : World) (n : Int) : RwAt (W.alloc (.cells #[.int .i64 n] 76)) W.heap.size n := by unfold RwAt World.alloc; simp
end

/-- What a call of odd is to show. -/
def POdd (w : World) (L : Nat) (r : Nat × Int) (e : Ending) (w' : World) : Prop := e = .returned (.int .i64 r.1) ∧ (∃ m, RwAt w' L m ∧ (r.1 = 0 → m = 4096 - r.2)) ∧ w.grownBy w' (some L)

def OddC (N : Nat) : Prop := ∀ (k n : Int) (s : ByteArray) (sub : VL) (sa : Option Addr) (sc : Nat) (deep left : Int) (L : Nat) (w : World), sub.size < N → RwAt w L (4096 - left) →
  s.size ≤ 140737488351232 → sub.len ≤ 140737488351232 → sub.fit → sub.len ≤ sc → RpL w (fun b => b < w.heap.size ∧ b ≠ L) sub sa → 1 ≤ deep → deep ≤ 41 → 0 ≤ left → left ≤ 4096 →
  Calls Tryz.prog 45 #[.pointer (some ⟨L, 0, none⟩), .agg #[.int .i64 k, .int .i64 n, .string s, .slice sa sub.len sc], .int .i64 deep] w (POdd w L (walk1 k n s sub deep left))

/-- Out of the loop over the items. -/
theorem bne_of {a b : Int} (h : a ≠ b) : (a != b) = true ∧ (a == b) = false := by simp [h]

/-- Where odd goes on to look at a value's kind, and it is not a Str. -/
theorem kind_cases {k n : Int} {s : ByteArray} {len : Nat} (hk : k ≠ 2) :
    (ownE k n s len = 105 ∧ (k < 0 ∨ (0 ≤ k ∧ 4 < k) ∨ (k = 1 ∧ n < -2147483648) ∨ (k = 1 ∧ -2147483648 ≤ n ∧ 2147483647 < n) ∨ (k = 3 ∧ n < 0) ∨ (k = 3 ∧ 0 ≤ n ∧ 14 < n))) ∨
    (ownE k n s len = 103 ∧ ((k = 0 ∧ s.toList.isEmpty = false) ∨ (k = 0 ∧ s.toList.isEmpty = true ∧ 0 < len) ∨ (k = 1 ∧ -2147483648 ≤ n ∧ n ≤ 2147483647 ∧ s.toList.isEmpty = false) ∨ (k = 1 ∧ -2147483648 ≤ n ∧ n ≤ 2147483647 ∧ s.toList.isEmpty = true ∧ 0 < len) ∨
      (k = 3 ∧ 0 ≤ n ∧ n ≤ 14 ∧ s.toList.isEmpty = false) ∨ (k = 3 ∧ 0 ≤ n ∧ n ≤ 14 ∧ s.toList.isEmpty = true ∧ 0 < len) ∨ (k = 4 ∧ n ≠ 0) ∨ (k = 4 ∧ n = 0 ∧ s.toList.isEmpty = false))) ∨
    (ownE k n s len = 0 ∧ s = ⟨#[]⟩ ∧ ((k = 0 ∧ len = 0) ∨ (k = 1 ∧ -2147483648 ≤ n ∧ n ≤ 2147483647 ∧ len = 0) ∨ (k = 3 ∧ 0 ≤ n ∧ n ≤ 14 ∧ len = 0) ∨ (k = 4 ∧ n = 0))) := by
  have hse : (s.toList.isEmpty = true ∧ s.data.toList = [] ∧ s = ⟨#[]⟩) ∨ (s.toList.isEmpty = false ∧ s.data.toList ≠ []) := by
    rw [Lib.toList_data]
    rcases s with ⟨⟨l⟩⟩
    cases l with
    | nil => exact .inl ⟨rfl, rfl, rfl⟩
    | cons a r => exact .inr ⟨rfl, by simp⟩
  unfold ownE
  by_cases h1 : k < 0 ∨ 4 < k
  · rw [if_pos h1]; exact .inl ⟨rfl, by omega⟩
  rw [if_neg h1]
  by_cases h2 : k = 1 ∧ (n < -2147483648 ∨ 2147483647 < n)
  · rw [if_pos h2]; exact .inl ⟨rfl, by omega⟩
  rw [if_neg h2]
  by_cases h3 : k = 3 ∧ (n < 0 ∨ 14 < n)
  · rw [if_pos h3]; exact .inl ⟨rfl, by omega⟩
  rw [if_neg h3]
  right
  have hkk : k = 0 ∨ k = 1 ∨ k = 3 ∨ k = 4 := by omega
  rcases hse with ⟨e1, e2, e3⟩ | ⟨e1, e2⟩
  · by_cases h4 : k ≠ 4 ∧ 0 < len
    · rw [if_pos (.inr (.inl h4))]
      left; refine ⟨rfl, ?_⟩
      simp only [e1]; simp; omega
    · by_cases h5 : k = 4 ∧ n ≠ 0
      · rw [if_pos (.inr (.inr ⟨.inr h5.1, h5.2⟩))]
        left; refine ⟨rfl, ?_⟩
        simp only [e1]; simp; omega
      · rw [if_neg (by rintro (⟨_, h⟩ | h | ⟨h, h'⟩); exact h e2; exact h4 h; rcases h with h | h; exact hk h; exact h5 ⟨h, h'⟩), if_neg (by rw [e2]; decide)]
        right; exact ⟨rfl, e3, by omega⟩
  · rw [if_pos (.inl ⟨hk, e2⟩)]
    left; refine ⟨rfl, ?_⟩
    simp only [e1]; simp; omega
/-- The same of a Str. -/
theorem str_cases {n : Int} {s : ByteArray} {len : Nat} :
    (ownE 2 n s len = 103 ∧ (n ≠ 0 ∨ (n = 0 ∧ 0 < len))) ∨ (ownE 2 n s len = 103 ∧ n = 0 ∧ len = 0 ∧ prB s.data.toList = false) ∨ (ownE 2 n s len = 0 ∧ n = 0 ∧ len = 0 ∧ prB s.data.toList = true) := by
  unfold ownE
  rw [if_neg (by decide), if_neg (by rintro ⟨h, _⟩; cases h), if_neg (by rintro ⟨h, _⟩; cases h)]
  by_cases h : n ≠ 0 ∨ 0 < len
  · rw [if_pos (by rcases h with h | h; exact .inr (.inr ⟨.inl rfl, h⟩); exact .inr (.inl ⟨by decide, h⟩))]
    left; exact ⟨rfl, by omega⟩
  · rw [if_neg (by rintro (⟨h', _⟩ | ⟨_, h'⟩ | ⟨_, h'⟩); exact h' rfl; exact h (.inr h'); exact h (.inl h'))]
    right
    by_cases hp : prB s.data.toList = false
    · rw [if_pos hp]; left; exact ⟨rfl, by omega, by omega, hp⟩
    · rw [if_neg hp]; right; exact ⟨rfl, by omega, by omega, by simpa using hp⟩
end Go.Proofs.YtfganjmadehhaaaGreatDoor
namespace Go.Proofs.YtfganjmadehhaaaGreatDoor
open Go.RowKit Go.Lib
set_option linter.unusedVariables false

set_option maxRecDepth 100000 in
set_option maxHeartbeats 4000000 in
theorem odd_step (N : Nat) (ih : ∀ N', N' < N → OddC N') : OddC N := by
  intro k n s sub sa sc deep left L w hN hlf hss hsl hfit hsc hrep hd1 hd2 hl1 hl2
  have hLl := hlf.lt
  obtain ⟨wa, hwa⟩ : ∃ wa, wa = w.alloc (.cells #[.int .i64 k, .int .i64 n, .string s, .slice sa sub.len sc] 32) := ⟨_, rfl⟩
  have hba : Below w.heap.size w wa := by rw [hwa]; exact (Below.refl _ _).alloc (Nat.le_refl _) _
  have hV : StB wa w.heap.size (.int .i64 k) (.int .i64 n) (.string s) (.slice sa sub.len sc) := by rw [hwa]; exact StB.new w _ _ _ _
  have hlfa : RwAt wa L (4096 - left) := hlf.below hba hLl
  have hwz : wa.heap.size = w.heap.size + 1 := by rw [hwa]; simp
  have v0 := hV.c0; have v1 := hV.c1; have v2 := hV.c2; have v3 := hV.c3
  have l0 := hlfa.c0
  have lf0 := hlfa.fr
  have HBA := Lib.hid hba
  have HV := Lib.hid hV
  have HLF := Lib.hid hlfa
  have HRP := Lib.hid hrep
  rw [hwa] at v0 v1 v2 v3 l0 lf0
  by_cases hdp : 40 < deep
  · have HS := Lib.hid (show walk1 k n s sub deep left = (112, left) by unfold walk1; rw [if_pos hdp])
    have HF := Lib.hid (show POdd w L (walk1 k n s sub deep left) (.returned (.int .i64 112)) wa by rw [HS.out]; exact ⟨rfl, ⟨_, HLF.out, fun h => by cases h⟩, only_below HBA.out _⟩)
    rw [hwa] at HF
    clear hba hV hlfa hwa hrep
    go_enter Tryz.func45, Tryz.ntmps45
    go_wp2_with fail
    go_ret
    exact HF.out
  have hdp' : deep ≤ 40 := by omega
  clear hdp
  obtain ⟨w1', hw1'⟩ : ∃ w1', w1' = (w.setCell ⟨L, 0, none⟩ (.int .i64 (4096 - left + 1))).alloc (.cells #[.int .i64 k, .int .i64 n, .string s, .slice sa sub.len sc] 32) := ⟨_, rfl⟩
  have hr1' : RwAt w1' L (4096 - left + 1) := by rw [hw1']; exact (hlf.set _).alloc _
  have hv1' : StB w1' w.heap.size (.int .i64 k) (.int .i64 n) (.string s) (.slice sa sub.len sc) := by rw [hw1']; have := StB.new (w.setCell ⟨L, 0, none⟩ (.int .i64 (4096 - left + 1))) (.int .i64 k) (.int .i64 n) (.string s) (.slice sa sub.len sc); simpa [World.setCell] using this
  have hg1' : w.grownBy w1' (some L) := by rw [hw1']; exact only_alloc (only_setCell (only_refl w _) (.inl rfl) _) _
  by_cases hk : k = 2
  · subst hk
    obtain ⟨w1, hw1⟩ : ∃ w1, w1 = (((w.setCell ⟨L, 0, none⟩ (.int .i64 (4096 - left + 1))).setCell ⟨L, 0, none⟩ (.int .i64 (4096 - left + 1 + (s.size : Int)))).alloc (.cells #[.int .i64 2, .int .i64 n, .string s, .slice sa sub.len sc] 32)).drew := ⟨_, rfl⟩
    have hr1 : RwAt w1 L (4096 - left + 1 + (s.size : Int)) := by rw [hw1]; exact (((hlf.set _).set _).alloc _)
    have hv1 : StB w1 w.heap.size (.int .i64 2) (.int .i64 n) (.string s) (.slice sa sub.len sc) := by rw [hw1]; have := StB.new ((w.setCell ⟨L, 0, none⟩ (.int .i64 (4096 - left + 1))).setCell ⟨L, 0, none⟩ (.int .i64 (4096 - left + 1 + (s.size : Int)))) (.int .i64 2) (.int .i64 n) (.string s) (.slice sa sub.len sc); simpa [World.setCell, StB, World.drew] using this
    have hg1 : w.grownBy w1 (some L) := by rw [hw1]; exact only_drew (only_alloc (only_setCell (only_setCell (only_refl w _) (.inl rfl) _) (.inl rfl) _) _)
    have p0 := hv1'.c0; have p2 := hv1'.c2; have q0 := hr1'.c0; have qf := hr1'.fr
    have u0 := hv1.c0; have u1 := hv1.c1; have u2 := hv1.c2; have u3 := hv1.c3; have r0 := hr1.c0
    have HG1 := Lib.hid hg1
    have hm : mOf 2 s = (s.size : Int) := rfl
    by_cases hlm : left ≤ (s.size : Int)
    · have HS := Lib.hid (show walk1 2 n s sub deep left = (104, left) by unfold walk1; rw [if_neg (by omega), hm, if_pos hlm])
      have HF := Lib.hid (show POdd w L (walk1 2 n s sub deep left) (.returned (.int .i64 104)) w1 by rw [HS.out]; exact ⟨rfl, ⟨_, hr1, fun h => by cases h⟩, hg1⟩)
      rw [hw1] at HF
      rw [hw1] at u0 u1 u2 u3 r0
      rw [hw1'] at p0 p2 q0 qf
      clear hba hV hlfa hwa hrep hw1' hr1' hv1' hg1' hw1 hr1 hv1 hg1
      go_enter Tryz.func45, Tryz.ntmps45
      go_wp2_with fail
      go_region
      go_wp2_with fail
      go_ret
      exact HF.out
    obtain ⟨lf, hlfe⟩ : ∃ lf : Int, lf = left - (1 + (s.size : Int)) := ⟨_, rfl⟩
    have HS := Lib.hid (show walk1 2 n s sub deep left = if ownE 2 n s sub.len = 0 then walkL sub (deep + 1) lf else (ownE 2 n s sub.len, lf) by unfold walk1; rw [if_neg (by omega), hm, if_neg (by omega), hlfe])
    have hlf0 : 0 ≤ lf := by omega
    have hlf4 : lf ≤ 4096 := by omega
    have HR1 := Lib.hid (show RwAt w1 L (4096 - lf) by rw [show 4096 - lf = 4096 - left + 1 + (s.size : Int) by omega]; exact hr1)
    have HV1 := Lib.hid hv1
    have PC := Lib.hid (fun W => printed_c s W hss)
    have HW1 := Lib.hid (show (((w.setCell ⟨L, 0, none⟩ (.int .i64 (4096 - left + 1))).setCell ⟨L, 0, none⟩ (.int .i64 (4096 - left + 1 + (s.size : Int)))).alloc (.cells #[.int .i64 2, .int .i64 n, .string s, .slice sa sub.len sc] 32)).drew = w1 by rw [hw1])
    rw [hw1] at u0 u1 u2 u3 r0
    rw [hw1'] at p0 p2 q0 qf
    clear hba hV hlfa hwa hrep hw1' hr1' hv1' hg1' hw1 hr1 hv1 hg1 hlfe
    rcases str_cases (n := n) (s := s) (len := sub.len) with ⟨hE, hcs⟩ | ⟨hE, rfl, h0, hp⟩ | ⟨hE, rfl, h0, hp⟩
    · rw [hE, if_neg (by decide)] at HS
      rcases hcs with hn | ⟨rfl, hl⟩
      · have hn1 := (bne_of hn).1
        have hn2 := (bne_of hn).2
        clear hn
        go_enter Tryz.func45, Tryz.ntmps45
        go_wp2_with fail
        go_region
        go_wp2_with fail
        go_ret
        rw [HW1.out, HS.out]
        exact ⟨rfl, ⟨_, HR1.out, fun h => by cases h⟩, HG1.out⟩
      · have hl' : (0 : Int) < (sub.len : Int) := by omega
        go_enter Tryz.func45, Tryz.ntmps45
        go_wp2_with fail
        go_region
        go_wp2_with fail
        go_ret
        rw [HW1.out, HS.out]
        exact ⟨rfl, ⟨_, HR1.out, fun h => by cases h⟩, HG1.out⟩
    · rw [hE, if_neg (by decide)] at HS
      rw [hp] at PC
      clear hp
      obtain rfl : sub = .nil := by cases sub with | nil => rfl | cons _ _ _ _ _ => exact absurd h0 (Nat.succ_ne_zero _)
      rw [show VL.nil.len = 0 from rfl] at v0 v1 v2 v3 l0 lf0 u0 u1 u2 u3 r0 HV1 HW1
      rw [show VL.nil.len = 0 from rfl] at p0 p2 q0 qf
      rw [show VL.nil.len = 0 from rfl]
      clear h0
      go_enter Tryz.func45, Tryz.ntmps45
      go_wp2_with fail
      go_region
      go_wp2_with fail
      rw [HW1.out]
      refine (PC.out _).mono ?_
      rintro e w' ⟨rfl, rfl⟩
      go_wp2_with fail
      go_ret
      rw [HS.out]
      exact ⟨rfl, ⟨_, HR1.out, fun h => by cases h⟩, HG1.out⟩
    · rw [hE, if_pos rfl] at HS
      rw [hp] at PC
      clear hp
      obtain rfl : sub = .nil := by cases sub with | nil => rfl | cons _ _ _ _ _ => exact absurd h0 (Nat.succ_ne_zero _)
      rw [show VL.nil.len = 0 from rfl] at v0 v1 v2 v3 l0 lf0 u0 u1 u2 u3 r0 HV1 HW1
      rw [show VL.nil.len = 0 from rfl] at p0 p2 q0 qf
      rw [show VL.nil.len = 0 from rfl]
      clear h0
      go_enter Tryz.func45, Tryz.ntmps45
      go_wp2_with fail
      go_region
      go_wp2_with fail
      rw [HW1.out]
      refine (PC.out _).mono ?_
      rintro e w' ⟨rfl, rfl⟩
      have x3 := HV1.out.c3
      go_wp2_with fail
      go_loopg [9] 0 (fun kk v wr => v = .int .i64 0 ∧ w1 = wr)
      case atStart => exact ⟨rfl, rfl⟩
      case round =>
        obtain ⟨rfl, rfl⟩ := hrel
        go_wp2_with fail
        go_ret
        rw [HS.out]
        exact ⟨rfl, ⟨_, HR1.out, fun _ => rfl⟩, HG1.out⟩
  · have hm : mOf k s = 0 := by unfold mOf; rw [if_neg hk]
    have hk1 := (bne_of hk).1
    have hk2 := (bne_of hk).2
    have u0 := hv1'.c0; have u1 := hv1'.c1; have u2 := hv1'.c2; have u3 := hv1'.c3; have r0 := hr1'.c0
    by_cases hlm : left ≤ 0
    · have HS := Lib.hid (show walk1 k n s sub deep left = (104, left) by unfold walk1; rw [if_neg (by omega), hm, if_pos hlm])
      have HF := Lib.hid (show POdd w L (walk1 k n s sub deep left) (.returned (.int .i64 104)) w1' by rw [HS.out]; exact ⟨rfl, ⟨_, hr1', fun h => by cases h⟩, hg1'⟩)
      rw [hw1'] at HF
      rw [hw1'] at u0 u1 u2 u3 r0
      clear hba hV hlfa hwa hrep hw1' hr1' hv1' hg1' hk
      go_enter Tryz.func45, Tryz.ntmps45
      go_wp2_with fail
      go_ret
      exact HF.out
    obtain ⟨lf, hlfe⟩ : ∃ lf : Int, lf = left - 1 := ⟨_, rfl⟩
    have HS := Lib.hid (show walk1 k n s sub deep left = if ownE k n s sub.len = 0 then walkL sub (deep + 1) lf else (ownE k n s sub.len, lf) by unfold walk1; rw [if_neg (by omega), hm, if_neg (by omega), hlfe, show left - (1 + 0) = left - 1 by omega])
    have hlf0 : 0 ≤ lf := by omega
    have hlf4 : lf ≤ 4096 := by omega
    obtain ⟨w1, hw1⟩ : ∃ w1, w1 = w1' := ⟨_, rfl⟩
    have HR1 := Lib.hid (show RwAt w1 L (4096 - lf) by rw [hw1, show 4096 - lf = 4096 - left + 1 by omega]; exact hr1')
    have HV1 := Lib.hid (show StB w1 w.heap.size (.int .i64 k) (.int .i64 n) (.string s) (.slice sa sub.len sc) by rw [hw1]; exact hv1')
    have HG1 := Lib.hid (show w.grownBy w1 (some L) by rw [hw1]; exact hg1')
    have HW1 := Lib.hid (show ((w.setCell ⟨L, 0, none⟩ (.int .i64 (4096 - left + 1))).alloc (.cells #[.int .i64 k, .int .i64 n, .string s, .slice sa sub.len sc] 32)) = w1 by rw [hw1, hw1'])
    rw [hw1'] at u0 u1 u2 u3 r0
    clear hba hV hlfa hwa hrep hw1' hr1' hv1' hg1' hw1 hlfe
    rcases kind_cases (n := n) (s := s) (len := sub.len) hk with ⟨hE, hcs⟩ | ⟨hE, hcs⟩ | ⟨hE, hs0, hcs⟩
    · rw [hE, if_neg (by decide)] at HS
      clear hk hE
      rcases hcs with h | ⟨h, h'⟩ | ⟨rfl, h⟩ | ⟨rfl, h, h'⟩ | ⟨rfl, h⟩ | ⟨rfl, h, h'⟩
      all_goals
        go_enter Tryz.func45, Tryz.ntmps45
        go_wp2_with fail
        go_ret
        rw [HW1.out, HS.out]
        exact ⟨rfl, ⟨_, HR1.out, fun h => by cases h⟩, HG1.out⟩
    · rw [hE, if_neg (by decide)] at HS
      clear hk hE
      have hln : 0 < sub.len → (0 : Int) < (sub.len : Int) := fun h => by omega
      have hnn : n ≠ 0 → (n != 0) = true ∧ (n == 0) = false := fun h => bne_of h
      have hsn : s.toList.isEmpty = false → ¬ s.toList = [] := fun h e => by rw [e] at h; cases h
      rcases hcs with ⟨rfl, he⟩ | ⟨rfl, he, hl⟩ | ⟨rfl, h1, h2, he⟩ | ⟨rfl, h1, h2, he, hl⟩ | ⟨rfl, h1, h2, he⟩ | ⟨rfl, h1, h2, he, hl⟩ | ⟨rfl, hn⟩ | ⟨rfl, rfl, he⟩
      all_goals
        try have hl' := hln hl
        try have he' := hsn he
        try (obtain ⟨hn1, hn2⟩ := hnn hn; clear hn)
        clear hln hnn hsn
        go_enter Tryz.func45, Tryz.ntmps45
        go_wp2_with fail
        go_ret
        rw [HW1.out, HS.out]
        exact ⟨rfl, ⟨_, HR1.out, fun h => by cases h⟩, HG1.out⟩
    · rw [hE, if_pos rfl] at HS
      have he : s.toList.isEmpty = true := by rw [hs0, Lib.toList_data]; rfl
      have he' : s.toList = [] := by rw [hs0, Lib.toList_data]
      have PC := Lib.hid (fun W => printed_c s W hss)
      rw [show prB s.data.toList = true by rw [hs0]; decide] at PC
      clear hk hE hs0
      rcases hcs with ⟨rfl, h0⟩ | ⟨rfl, h1, h2, h0⟩ | ⟨rfl, h1, h2, h0⟩ | ⟨rfl, rfl⟩
      · obtain rfl : sub = .nil := by cases sub with | nil => rfl | cons _ _ _ _ _ => exact absurd h0 (Nat.succ_ne_zero _)
        rw [show VL.nil.len = 0 from rfl] at v0 v1 v2 v3 l0 lf0 u0 u1 u2 u3 r0 HV1 HW1
        rw [show VL.nil.len = 0 from rfl]
        clear h0
        go_enter Tryz.func45, Tryz.ntmps45
        go_wp2_with fail
        rw [HW1.out]
        refine (PC.out _).mono ?_
        rintro e w' ⟨rfl, rfl⟩
        have x3 := HV1.out.c3
        go_wp2_with fail
        go_loopg [9] 0 (fun kk v wr => v = .int .i64 0 ∧ w1 = wr)
        case atStart => exact ⟨rfl, rfl⟩
        case round =>
          obtain ⟨rfl, rfl⟩ := hrel
          go_wp2_with fail
          go_ret
          rw [HS.out]
          exact ⟨rfl, ⟨_, HR1.out, fun _ => rfl⟩, HG1.out⟩
      · obtain rfl : sub = .nil := by cases sub with | nil => rfl | cons _ _ _ _ _ => exact absurd h0 (Nat.succ_ne_zero _)
        rw [show VL.nil.len = 0 from rfl] at v0 v1 v2 v3 l0 lf0 u0 u1 u2 u3 r0 HV1 HW1
        rw [show VL.nil.len = 0 from rfl]
        clear h0
        go_enter Tryz.func45, Tryz.ntmps45
        go_wp2_with fail
        rw [HW1.out]
        refine (PC.out _).mono ?_
        rintro e w' ⟨rfl, rfl⟩
        have x3 := HV1.out.c3
        go_wp2_with fail
        go_loopg [9] 0 (fun kk v wr => v = .int .i64 0 ∧ w1 = wr)
        case atStart => exact ⟨rfl, rfl⟩
        case round =>
          obtain ⟨rfl, rfl⟩ := hrel
          go_wp2_with fail
          go_ret
          rw [HS.out]
          exact ⟨rfl, ⟨_, HR1.out, fun _ => rfl⟩, HG1.out⟩
      · obtain rfl : sub = .nil := by cases sub with | nil => rfl | cons _ _ _ _ _ => exact absurd h0 (Nat.succ_ne_zero _)
        rw [show VL.nil.len = 0 from rfl] at v0 v1 v2 v3 l0 lf0 u0 u1 u2 u3 r0 HV1 HW1
        rw [show VL.nil.len = 0 from rfl]
        clear h0
        go_enter Tryz.func45, Tryz.ntmps45
        go_wp2_with fail
        rw [HW1.out]
        refine (PC.out _).mono ?_
        rintro e w' ⟨rfl, rfl⟩
        have x3 := HV1.out.c3
        go_wp2_with fail
        go_loopg [9] 0 (fun kk v wr => v = .int .i64 0 ∧ w1 = wr)
        case atStart => exact ⟨rfl, rfl⟩
        case round =>
          obtain ⟨rfl, rfl⟩ := hrel
          go_wp2_with fail
          go_ret
          rw [HS.out]
          exact ⟨rfl, ⟨_, HR1.out, fun _ => rfl⟩, HG1.out⟩
      · go_enter Tryz.func45, Tryz.ntmps45
        go_wp2_with fail
        rw [HW1.out]
        refine (PC.out _).mono ?_
        rintro e w' ⟨rfl, rfl⟩
        have x3 := HV1.out.c3
        go_wp2_with fail
        go_loopg [9] sub.len (fun kk v wr => ∃ (i : Nat) (l : Int), v = .int .i64 i ∧ i + kk = sub.len ∧ RwAt wr L (4096 - l) ∧ StB wr w.heap.size (.int .i64 4) (.int .i64 0) (.string s) (.slice sa sub.len sc) ∧ w1.grownBy wr (some L) ∧ 0 ≤ l ∧ l ≤ 4096 ∧ Hid (walkL (sub.drop i) (deep + 1) l = walkL sub (deep + 1) lf))
        case atStart => exact ⟨0, lf, rfl, by omega, HR1.out, HV1.out, only_refl _ _, hlf0, hlf4, by show walkL (sub.drop 0) _ _ = _; rw [VL.drop]⟩
        case round =>
          obtain ⟨i, l, rfl, hik, hlr, hvr, hgr, hl0, hl4, hwl⟩ := hrel
          have x3 := hvr.c3
          by_cases hi : i < sub.len
          · obtain ⟨g, rfl⟩ : ∃ g, gk = g + 1 := ⟨gk - 1, by omega⟩
            obtain ⟨k', n', s', sub', hd⟩ := VL.drop_of_lt i sub hi
            have hrw := HRP.out.grown (only_trans HG1.out hgr) (fun b hb => ⟨hb.1, fun e => by injection e with e; exact hb.2 e⟩)
            obtain ⟨b, o, hsa⟩ : ∃ b o, sa = some ⟨b, o, none⟩ := by
              cases sub with
              | nil => simp [VL.len] at hi
              | cons _ _ _ _ _ => obtain ⟨b, o, _, _, h, _⟩ := hrw; exact ⟨b, o, h⟩
            rw [hsa] at hrw
            have hdr := RpL.drop i sub b o hrw
            rw [hd] at hdr
            obtain ⟨b', o', sa', sc', hA, hSb, c0, c1, c2, c3, hcl, hrs, _⟩ := hdr
            injection hA with hA
            injection hA with hA1 hA2
            subst hA1
            subst hA2
            have hfd := VL.fit_drop i sub hfit
            rw [hd] at hfd
            obtain ⟨hf1, hf2, hf3, _⟩ := hfd
            have hszd := VL.size_drop i sub
            rw [hd] at hszd
            simp only [VL.size] at hszd
            have HWL := Lib.hid hwl
            have HDD := Lib.hid hd
            have HSA := Lib.hid hsa
            subst hsa
            have HRS := Lib.hid hrs
            have HLR := Lib.hid hlr
            have HVR := Lib.hid hvr
            have HGR := Lib.hid hgr
            clear hwl hd hrw hrs hlr hvr hgr
            rw [Nat.mul_comm 4 i] at c0 c1 c2 c3
            have IHC := Lib.hid (ih (sub'.size + 1) (by omega) k' n' s' sub' sa' sc' (deep + 1) l L wr (by omega) HLR.out hf1 hf2 hf3 hcl
              (HRS.out.keep (fun b hb => rfl) (fun b hb => ⟨by have := hb.1; have := HG1.out.size; have := HGR.out.size; omega, hb.2⟩)) (by omega) (by omega) hl0 hl4)
            have HST := Lib.hid (show walkL (sub.drop i) (deep + 1) l = if (walk1 k' n' s' sub' (deep + 1) l).1 = 0 then walkL (sub.drop (i + 1)) (deep + 1) (walk1 k' n' s' sub' (deep + 1) l).2 else walk1 k' n' s' sub' (deep + 1) l by rw [HDD.out, walkL_cons])
            have hrng := walk1_range k' n' s' sub' (deep + 1) l hl0
            obtain ⟨rc, rl, hrr⟩ : ∃ rc rl, walk1 k' n' s' sub' (deep + 1) l = (rc, rl) := ⟨_, _, rfl⟩
            rw [hrr] at IHC HST hrng
            simp only at hrng
            obtain ⟨hrg1, hrg2⟩ := hrng
            clear hrr
            go_wp2_with fail
            refine IHC.out.mono ?_
            rintro e w5 ⟨rfl, ⟨m5, hl5, hm5⟩, hg5⟩
            have HL5 := Lib.hid hl5
            have HG5 := Lib.hid (only_trans HGR.out hg5)
            have HV5 := Lib.hid (HVR.out.only hg5 (by intro e; injection e with e; omega))
            clear hl5 hg5
            by_cases hrc : rc = 0
            · subst hrc
              obtain rfl : m5 = 4096 - rl := hm5 rfl
              have HN := Lib.hid (HST.out.symm.trans HWL.out)
              rw [if_pos rfl] at HN
              rw [show (((0, rl) : Nat × Int).1 : Int) = 0 from rfl]
              go_wp2_with fail
              go_roundg g
              case measure => omega
              case rel => exact ⟨i + 1, rl, by go_num, by omega, HL5.out, HV5.out, HG5.out, hrg1, by omega, HN.out⟩
            · have HN := Lib.hid (HST.out.symm.trans HWL.out)
              rw [if_neg hrc] at HN
              have hb1 : (((rc : Nat) : Int) != 0) = true := (bne_of (by omega)).1
              have hb2 : (((rc : Nat) : Int) == 0) = false := (bne_of (by omega)).2
              rw [show (((rc, rl) : Nat × Int).1 : Int) = (rc : Int) from rfl]
              go_wp2_with fail
              go_ret
              rw [HS.out, ← HN.out]
              exact ⟨rfl, ⟨_, HL5.out, fun h => absurd h hrc⟩, only_trans HG1.out HG5.out⟩
          · obtain rfl : i = sub.len := by omega
            rw [VL.drop_len] at hwl
            have HN := Lib.hid hwl
            have HLR := Lib.hid hlr
            have HGR := Lib.hid hgr
            clear hwl hlr hgr hvr
            go_wp2_with fail
            go_ret
            rw [HS.out, ← HN.out]
            exact ⟨rfl, ⟨_, HLR.out, fun _ => rfl⟩, only_trans HG1.out HGR.out⟩

theorem odd_c (N : Nat) : OddC N := by
  induction N using Nat.strongRecOn with
  | _ N ih => exact odd_step N ih

end Go.Proofs.YtfganjmadehhaaaGreatDoor
namespace Go.Proofs.YtfganjmadehhaaaGreatDoor
open Go.RowKit Go.Lib
set_option linter.unusedVariables false

set_option maxHeartbeats 1000000 in
theorem validR_c (k n : Int) (s : ByteArray) (sub : VL) (sa : Option Addr) (sc : Nat) (w : World) (hs : s.size ≤ 140737488351232) (hl : sub.len ≤ 140737488351232) (hf : sub.fit) (hsc : sub.len ≤ sc)
    (hr : RpL w (fun b => b < w.heap.size) sub sa) :
    Calls Tryz.prog 26 #[.agg #[.int .i64 k, .int .i64 n, .string s, .slice sa sub.len sc]] w fun e w' => e = .returned (.int .i64 (walk1 k n s sub 1 4096).1) ∧ Below w.heap.size w w' := by
  obtain ⟨wa, hwa⟩ : ∃ wa, wa = (w.alloc (.cells #[.int .i64 k, .int .i64 n, .string s, .slice sa sub.len sc] 32)).alloc (.cells #[.int .i64 0] 76) := ⟨_, rfl⟩
  have hb : Below w.heap.size w wa := by rw [hwa]; exact ((Below.refl _ _).alloc (Nat.le_refl _) _).alloc (by simp) _
  have hV : StB wa w.heap.size (.int .i64 k) (.int .i64 n) (.string s) (.slice sa sub.len sc) := by rw [hwa]; exact (StB.new w _ _ _ _).alloc _
  have hL : RwAt wa (w.heap.size + 1) (4096 - 4096) := by rw [hwa]; have := RwAt.new (w.alloc (.cells #[.int .i64 k, .int .i64 n, .string s, .slice sa sub.len sc] 32)) 0; simpa using this
  have hwz : wa.heap.size = w.heap.size + 2 := by rw [hwa]; simp
  have WC := Lib.hid (odd_c (sub.size + 1) k n s sub sa sc 1 4096 (w.heap.size + 1) wa (by omega) hL hs hl hf hsc
    (hr.keep (fun b hlt => hb.block b hlt) (fun b hlt => ⟨by omega, by omega⟩)) (by omega) (by omega) (by omega) (by omega))
  have v0 := hV.c0; have v1 := hV.c1; have v2 := hV.c2; have v3 := hV.c3
  have HB := Lib.hid hb
  have HWA := Lib.hid hwa
  have HWZ := Lib.hid hwz
  rw [hwa] at v0 v1 v2 v3
  clear hb hV hL hwa hwz hr
  go_enter Tryz.func26, Tryz.ntmps26
  go_wp2_with fail
  rw [← HWA.out]
  refine WC.out.mono ?_
  rintro e w5 ⟨rfl, _, hg5⟩
  have HG := Lib.hid hg5
  clear hg5 HWA v0 v1 v2 v3
  go_wp2_with fail
  go_ret
  exact ⟨rfl, HB.out.trans ⟨HG.out.os, HG.out.tape, HG.out.output, HG.out.size, fun b hb => HG.out.block b (by have := HWZ.out; omega) (fun e => by injection e with e; omega)⟩⟩

/-- Is a value right? -/
def rightB (k n : Int) (s : ByteArray) (sub : VL) : Bool := decide ((walk1 k n s sub 1 4096).1 = 0)
set_option maxHeartbeats 1000000 in
theorem right_c (k n : Int) (s : ByteArray) (sub : VL) (sa : Option Addr) (sc : Nat) (w : World) (hf : (val1 k n s sub).fit) (hsc : sub.len ≤ sc)
    (hr : RpL w (fun b => b < w.heap.size) sub sa) :
    Calls Tryz.prog 15 #[.agg #[.int .i64 k, .int .i64 n, .string s, .slice sa sub.len sc]] w fun e w' => e = .returned (.bool (rightB k n s sub)) ∧ Below w.heap.size w w' := by
  obtain ⟨wa, hwa⟩ : ∃ wa, wa = w.alloc (.cells #[.int .i64 k, .int .i64 n, .string s, .slice sa sub.len sc] 32) := ⟨_, rfl⟩
  have hb : Below w.heap.size w wa := by rw [hwa]; exact (Below.refl _ _).alloc (Nat.le_refl _) _
  have hwz : wa.heap.size = w.heap.size + 1 := by rw [hwa]; simp
  have hV : StB wa w.heap.size (.int .i64 k) (.int .i64 n) (.string s) (.slice sa sub.len sc) := by rw [hwa]; exact StB.new w _ _ _ _
  have WC := Lib.hid (validR_c k n s sub sa sc wa hf.1 hf.2.1 hf.2.2.1 hsc (hr.keep (fun b hlt => hb.block b hlt) (fun b hlt => by omega)))
  have v0 := hV.c0; have v1 := hV.c1; have v2 := hV.c2; have v3 := hV.c3
  obtain ⟨c, hc⟩ : ∃ c, c = (walk1 k n s sub 1 4096).1 := ⟨_, rfl⟩
  have HR := Lib.hid (show rightB k n s sub = decide (c = 0) by rw [hc]; rfl)
  rw [← hc] at WC
  rw [HR.out]
  have HB := Lib.hid hb
  have HWA := Lib.hid hwa
  have HWZ := Lib.hid hwz
  rw [hwa] at v0 v1 v2 v3
  clear hb hV hwa hwz hr hc
  have hcc : ((c : Int) == 0) = decide (c = 0) := by
    by_cases h : c = 0
    · subst h; rfl
    · rw [(bne_of (show (c : Int) ≠ 0 by omega)).2, decide_eq_false h]
  go_enter Tryz.func15, Tryz.ntmps15
  go_wp2_with fail
  rw [← HWA.out]
  refine WC.out.mono ?_
  rintro e w5 ⟨rfl, hb5⟩
  have HB5 := Lib.hid (HB.out.trans (below_le' hb5 (by have := HWZ.out; omega)))
  clear hb5
  go_wp2_with fail
  go_ret
  exact ⟨ret_bool rfl, HB5.out⟩
end Go.Proofs.YtfganjmadehhaaaGreatDoor
namespace Go.Proofs.YtfganjmadehhaaaGreatDoor
open Go.RowKit Go.Lib
set_option linter.unusedVariables false

theorem rightB_txt (k n : Int) (s : ByteArray) (sub : VL) : (rightB k n s sub = true → txtV k n s sub = ⟨(txt1 k n s (txtL sub)).toArray⟩ ∧ plnV k n s sub = pln1 k n s sub ∧ (walk1 k n s sub 1 4096).1 = 0) ∧ (rightB k n s sub = false → txtV k n s sub = ⟨#[]⟩ ∧ plnV k n s sub = ⟨#[]⟩) := by
  unfold rightB txtV plnV
  constructor
  · intro h; have h := of_decide_eq_true h; rw [if_pos h, if_pos h]; exact ⟨rfl, rfl, h⟩
  · intro h; have h := of_decide_eq_false h; rw [if_neg h, if_neg h]; exact ⟨rfl, rfl⟩

set_option maxRecDepth 100000 in
set_option maxHeartbeats 2000000 in
theorem TextR_c (k n : Int) (s : ByteArray) (sub : VL) (sa : Option Addr) (sc : Nat) (w : World) (hst : TxAt w) (hfit : (val1 k n s sub).fit) (h64 : (val1 k n s sub).i64) (hsc : sub.len ≤ sc)
    (hrep : RpL w (fun b => b < w.heap.size) sub sa) :
    Calls Tryz.prog 16 #[.agg #[.int .i64 k, .int .i64 n, .string s, .slice sa sub.len sc]] w fun e w' => e = .returned (.string (txtV k n s sub)) ∧ Below w.heap.size w w' := by
  have hroom := hst.room
  obtain ⟨wa, hwa⟩ : ∃ wa, wa = w.alloc (.cells #[.int .i64 k, .int .i64 n, .string s, .slice sa sub.len sc] 32) := ⟨_, rfl⟩
  have hba : Below w.heap.size w wa := by rw [hwa]; exact (Below.refl _ _).alloc (Nat.le_refl _) _
  have hwz : wa.heap.size = w.heap.size + 1 := by rw [hwa]; simp
  have hV : StB wa w.heap.size (.int .i64 k) (.int .i64 n) (.string s) (.slice sa sub.len sc) := by rw [hwa]; exact StB.new w _ _ _ _
  have v0 := hV.c0; have v1 := hV.c1; have v2 := hV.c2; have v3 := hV.c3
  rw [hwa] at v0 v1 v2 v3
  have hrpa := hrep.keep (w' := wa) (fun b hb => hba.block b hb) (fun b hb => hb)
  have VC := Lib.hid (right_c k n s sub sa sc wa hfit hsc (hrpa.wide (fun b hb => by omega)))
  have HBA := Lib.hid hba
  have HWA := Lib.hid hwa
  have HV := Lib.hid hV
  have HST := Lib.hid (hst.below hba (Nat.le_refl _))
  have HRP := Lib.hid hrpa
  have HWZ := Lib.hid hwz
  obtain ⟨h1, h2⟩ := rightB_txt k n s sub
  obtain ⟨q, hq⟩ : ∃ q, q = rightB k n s sub := ⟨_, rfl⟩
  rw [← hq] at VC h1 h2
  clear hba hV hwa hwz hrep hrpa hst hq
  cases q with
  | true =>
    obtain ⟨ht, _, hc⟩ := h1 rfl
    have HT := Lib.hid ht
    have hcost := walk1_cost k n s sub 1 4096 (by omega) hc
    have TC := Lib.hid (fun W (hb : Below (w.heap.size + 1) wa W) => textR_c (sub.size + 1) k n s sub sa sc 1 W (by omega) (walk1_ok hc) h64 (by unfold val1; rw [cost, cost]; omega) hsc
      (HRP.out.keep (fun b hlt => hb.block b (by omega)) (fun b hlt => by have := hb.size; have := HWZ.out; omega)) (HST.out.below hb (by have := HWZ.out; omega)))
    rw [HT.out]
    clear hc hcost ht h1 h2
    go_enter Tryz.func16, Tryz.ntmps16
    go_wp2_with fail
    rw [← HWA.out]
    refine VC.out.mono ?_
    rintro e w2 ⟨rfl, hb2⟩
    have hb2' : Below (w.heap.size + 1) wa w2 := by rw [← HWZ.out]; exact hb2
    have hV2 := HV.out.below' hb2
    have u0 := hV2.c0; have u1 := hV2.c1; have u2 := hV2.c2; have u3 := hV2.c3
    have HB2 := Lib.hid hb2'
    clear hb2 hb2' hV2 v0 v1 v2 v3
    go_wp2_with fail
    refine (TC.out _ HB2.out).mono ?_
    rintro e w3 ⟨rfl, hb3⟩
    have HB3 := Lib.hid (HBA.out.trans (below_le' (HB2.out.trans (below_le' hb3 (by have := HB2.out.size; have := HWZ.out; omega))) (show w.heap.size ≤ w.heap.size + 1 by omega)))
    clear hb3
    go_wp2_with fail
    go_ret
    exact ⟨rfl, HB3.out⟩
  | false =>
    have HT := Lib.hid (h2 rfl).1
    rw [HT.out]
    clear h1 h2
    go_enter Tryz.func16, Tryz.ntmps16
    go_wp2_with fail
    rw [← HWA.out]
    refine VC.out.mono ?_
    rintro e w2 ⟨rfl, hb2⟩
    have HB2 := Lib.hid (HBA.out.trans (below_le' hb2 (by have := HWZ.out; omega)))
    clear hb2
    go_wp2_with fail
    go_ret
    exact ⟨rfl, HB2.out⟩

end Go.Proofs.YtfganjmadehhaaaGreatDoor
namespace Go.Proofs.YtfganjmadehhaaaGreatDoor
open Go.RowKit Go.Lib
set_option linter.unusedVariables false

/-- Read, where all is right. -/
theorem read_ok {ea : Nat → Addr} {s : ByteArray} {w w' : World} {e : Ending} {k n : Int} {t : ByteArray} {sub : VL} (hr : rdV s = (s.size, true, val1 k n t sub)) (h0 : (walk1 k n t sub 1 4096).1 = 0) (h : RdOut ea s w e w') :
    Below w.heap.size w w' ∧ ∃ (sa : Option Addr) (sc : Nat), sub.len ≤ sc ∧ RpL w' (fun b => b < w'.heap.size) sub sa ∧ e = .returned (.tuple #[.agg #[.int .i64 k, .int .i64 n, .string t, .slice sa sub.len sc], .nilIface]) := by
  obtain ⟨hb, ⟨hbad, _⟩ | ⟨_, k', n', t', sub', hv, h⟩⟩ := h
  · exact absurd ⟨by rw [hr], by rw [hr]; exact Nat.le_refl _⟩ hbad
  · rw [hr] at hv
    injection hv with e1 e2 e3 e4 _
    subst e1; subst e2; subst e3; subst e4
    rcases h with ⟨h, _⟩ | ⟨_, sa, sc, hsc, hrep, rfl⟩
    · exact absurd h0 h
    · exact ⟨hb, sa, sc, hsc, hrep.wide (fun b hb => hb.2), rfl⟩
theorem txt_len {k n : Int} {s : ByteArray} {sub : VL} (h0 : (walk1 k n s sub 1 4096).1 = 0) (h64 : (val1 k n s sub).i64) : (txt1 k n s (txtL sub)).length ≤ 100000 := by
  have h1 := txtL_len_le (val1 k n s sub) 1 (walk1_ok h0) h64
  have h2 := walk1_cost k n s sub 1 4096 (by omega) h0
  have h3 : cost (val1 k n s sub) = 1 + mOf k s + cost sub := by unfold val1; rw [cost, cost]; omega
  have h4 : ((txtL (val1 k n s sub)).map fun x => x.length + 2).sum = (txt1 k n s (txtL sub)).length + 2 := by simp [txtL, val1]
  rw [h4] at h1
  omega
theorem cell_below {w W : World} (hb : Below w.heap.size w W) {p : Addr} {v : Value} (h : w.cell? p = some v) : W.cell? p = some v := by
  have hlt : p.block < w.heap.size := by
    unfold World.cell? at h
    rcases Nat.lt_or_ge p.block w.heap.size with hlt | hge
    · exact hlt
    · rw [Array.getElem?_eq_none hge] at h; cases h
  exact (World.cell?_of_block (w := w) (hb.block _ hlt)).trans h

end Go.Proofs.YtfganjmadehhaaaGreatDoor
namespace Go.Proofs.YtfganjmadehhaaaGreatDoor
open Go.RowKit Go.Lib
set_option linter.unusedVariables false

theorem escL_le : ∀ l : List UInt8, (escL l).length ≤ 2 * l.length
  | [] => Nat.le_refl _
  | c :: r => by
    have := escL_le r
    rw [escL]
    split
    · simp only [List.length_cons]; omega
    · simp only [List.length_cons]; omega
theorem litOk_len {k n : Int} {t : ByteArray} (h0 : (walk1 k n t .nil 1 4096).1 = 0) (h64 : (val1 k n t .nil).i64) (hsz : t.size < 4096) : (txt1 k n t []).length ≤ 10000 := by
  by_cases h2 : k = 2
  · subst h2
    have e : txt1 2 n t [] = quoL t.data.toList := rfl
    have hz : t.data.toList.length = t.size := by rw [Array.length_toList]; rfl
    have := escL_le t.data.toList
    rw [e]; unfold quoL
    simp only [List.length_append, List.length_cons, List.length_nil]
    omega
  · have h1 := txtL_len_le (val1 k n t .nil) 1 (walk1_ok h0) h64
    have h4 : ((txtL (val1 k n t .nil)).map fun x => x.length + 2).sum = (txt1 k n t []).length + 2 := by simp [txtL, val1]
    have hm : mOf k t = 0 := by unfold mOf; rw [if_neg h2]
    have h3 : cost (val1 k n t .nil) = 1 := by unfold val1; rw [cost, cost, hm]; rfl
    rw [h4, h3] at h1
    omega
/-- A right value that is no list, as lex asks for it. -/
theorem right_lit {k n : Int} {t : ByteArray} {sub : VL} (hr : rightB k n t sub = true) (h4 : k ≠ 4) (h0 : ¬ (k = 0 ∧ n < 0)) (h64 : (val1 k n t sub).i64) : sub = .nil ∧ LitOk k n t ∧ (walk1 k n t .nil 1 4096).1 = 0 := by
  have hw : (walk1 k n t sub 1 4096).1 = 0 := of_decide_eq_true hr
  have hw2 := hw
  unfold walk1 at hw
  rw [if_neg (by decide)] at hw
  by_cases hm : (4096 : Int) ≤ mOf k t
  · rw [if_pos hm] at hw; cases hw
  · rw [if_neg hm] at hw
    by_cases ho : ownE k n t sub.len = 0
    · have hl : sub.len = 0 := by
        rcases own_ok ho with ⟨_, _, h⟩ | ⟨_, _, _, _, h⟩ | ⟨_, _, h, _⟩ | ⟨_, _, _, _, h⟩ | ⟨h, _⟩
        · exact h
        · exact h
        · exact h
        · exact h
        · exact absurd h h4
      have hs : sub = .nil := by cases sub with | nil => rfl | cons => exact absurd hl (Nat.succ_ne_zero _)
      subst hs
      refine ⟨rfl, ⟨ho, h4, fun hk => ?_, ?_, h64.1, h64.2.1⟩, hw2⟩
      · rcases Int.lt_or_le n 0 with h | h
        · exact absurd ⟨hk, h⟩ h0
        · exact h
      · rcases own_ok ho with ⟨_, h, _⟩ | ⟨_, _, _, h, _⟩ | ⟨h, _⟩ | ⟨_, _, _, h, _⟩ | ⟨h, _⟩
        · rw [bytes_empty h]; decide
        · rw [bytes_empty h]; decide
        · subst h
          unfold mOf at hm
          rw [if_pos rfl] at hm
          omega
        · rw [bytes_empty h]; decide
        · exact absurd h h4
    · rw [if_neg ho] at hw; exact absurd hw ho

set_option maxRecDepth 100000 in
set_option maxHeartbeats 8000000 in
theorem lexLits_c (k n : Int) (s : ByteArray) (sub : VL) (sa : Option Addr) (sc : Nat) (ea : Nat → Addr) (w : World) (hfit : (val1 k n s sub).fit) (h64 : (val1 k n s sub).i64) (hsc : sub.len ≤ sc)
    (hrep : RpL w (fun b => b < w.heap.size) sub sa) (hse : SeesAt w ea) (hst : StrcAt w) (htx : TxAt w) (hsp : SpaceAt w) :
    Calls Tryz.prog 5 #[.agg #[.int .i64 k, .int .i64 n, .string s, .slice sa sub.len sc]] w fun e w' => e = .returned (.bool true) ∧ Below w.heap.size w w' := by
  have he : LxEnv w ea := ⟨hse.errs, hsp, hst⟩
  have hroom := htx.room
  obtain ⟨wa, hwa⟩ : ∃ wa, wa = w.alloc (.cells #[.int .i64 k, .int .i64 n, .string s, .slice sa sub.len sc] 32) := ⟨_, rfl⟩
  have hba : Below w.heap.size w wa := by rw [hwa]; exact (Below.refl _ _).alloc (Nat.le_refl _) _
  have hza : w.heap.size < wa.heap.size := by rw [hwa]; simp
  have hV : StB wa w.heap.size (.int .i64 k) (.int .i64 n) (.string s) (.slice sa sub.len sc) := by rw [hwa]; exact StB.new w _ _ _ _
  have F := Lib.hid (lfirst_c ea wa (he.below hba (by omega)))
  have EV := Lib.hid (fun W (hW : Below wa.heap.size wa W) => he.below (hba.trans (below_le' hW hba.size)) (by omega))
  have SV := Lib.hid (fun W (hW : Below wa.heap.size wa W) => hse.below (hba.trans (below_le' hW hba.size)))
  have XV := Lib.hid (fun W (hW : Below wa.heap.size wa W) => htx.below (hba.trans (below_le' hW hba.size)) (Nat.le_refl _))
  have RV := Lib.hid (fun W (hW : Below wa.heap.size wa W) => hrep.keep (w' := W) (S' := fun b => b < W.heap.size) (fun b hb => (hba.trans (below_le' hW hba.size)).block b hb) (fun b hb => by have := hW.size; have := hba.size; omega))
  have RC := fun W (hW : Below wa.heap.size wa W) => right_c k n s sub sa sc W hfit hsc (RV.out W hW)
  have HV := Lib.hid (fun W (hW : Below wa.heap.size wa W) => hV.below hW hza)
  have HBA := Lib.hid hba
  have HWA := Lib.hid hwa
  clear he hse hst htx hsp hba hV hwa hrep
  cases hrb : rightB k n s sub with
  | false =>
    rw [hrb] at RC
    have RCX := Lib.hid RC
    clear hrb RC
    go_enter Tryz.func5, Tryz.ntmps5
    go_wp2_with fail
    rw [← HWA.out]
    refine F.out.mono ?_
    rintro e w2 ⟨rfl, hb2⟩
    have HB2 := Lib.hid hb2
    have hv2 := HV.out w2 hb2
    have v0 := hv2.c0; have v1 := hv2.c1; have v2 := hv2.c2; have v3 := hv2.c3
    clear hb2 hv2
    go_wp2_with fail
    refine (RCX.out w2 HB2.out).mono ?_
    rintro e w3 ⟨rfl, hb3⟩
    have HB3 := Lib.hid (HB2.out.trans (below_le' hb3 HB2.out.size))
    clear v0 v1 v2 v3 hb3
    have hv3 := HV.out w3 HB3.out
    have v0 := hv3.c0; have v1 := hv3.c1; have v2 := hv3.c2; have v3 := hv3.c3
    clear hv3
    go_wp2_with fail
    go_ret
    exact ⟨rfl, HBA.out.trans (below_le' HB3.out HBA.out.size)⟩
  | true =>
    rw [hrb] at RC
    have RCX := Lib.hid RC
    by_cases h4 : k = 4
    · have hk4 : (k == 4) = true := by rw [h4]; rfl
      clear h4 hrb RC
      go_enter Tryz.func5, Tryz.ntmps5
      go_wp2_with fail
      rw [← HWA.out]
      refine F.out.mono ?_
      rintro e w2 ⟨rfl, hb2⟩
      have HB2 := Lib.hid hb2
      have hv2 := HV.out w2 hb2
      have v0 := hv2.c0; have v1 := hv2.c1; have v2 := hv2.c2; have v3 := hv2.c3
      clear hb2 hv2
      go_wp2_with fail
      refine (RCX.out w2 HB2.out).mono ?_
      rintro e w3 ⟨rfl, hb3⟩
      have HB3 := Lib.hid (HB2.out.trans (below_le' hb3 HB2.out.size))
      clear v0 v1 v2 v3 hb3
      have hv3 := HV.out w3 HB3.out
      have v0 := hv3.c0; have v1 := hv3.c1; have v2 := hv3.c2; have v3 := hv3.c3
      clear hv3
      go_wp2_with fail
      go_ret
      exact ⟨rfl, HBA.out.trans (below_le' HB3.out HBA.out.size)⟩
    by_cases h0 : k = 0 ∧ n < 0
    · have hk0 : (k == 0) = true := by rw [h0.1]; rfl
      have hk4 : (k == 4) = false := by rw [h0.1]; rfl
      have hn0 : n < 0 := h0.2
      clear h4 h0 hrb RC
      go_enter Tryz.func5, Tryz.ntmps5
      go_wp2_with fail
      rw [← HWA.out]
      refine F.out.mono ?_
      rintro e w2 ⟨rfl, hb2⟩
      have HB2 := Lib.hid hb2
      have hv2 := HV.out w2 hb2
      have v0 := hv2.c0; have v1 := hv2.c1; have v2 := hv2.c2; have v3 := hv2.c3
      clear hb2 hv2
      go_wp2_with fail
      refine (RCX.out w2 HB2.out).mono ?_
      rintro e w3 ⟨rfl, hb3⟩
      have HB3 := Lib.hid (HB2.out.trans (below_le' hb3 HB2.out.size))
      clear v0 v1 v2 v3 hb3
      have hv3 := HV.out w3 HB3.out
      have v0 := hv3.c0; have v1 := hv3.c1; have v2 := hv3.c2; have v3 := hv3.c3
      clear hv3
      go_wp2_with fail
      go_ret
      exact ⟨rfl, HBA.out.trans (below_le' HB3.out HBA.out.size)⟩
    obtain ⟨hnil, hlit, hwk⟩ := right_lit hrb h4 h0 h64
    subst hnil
    have htv := ((rightB_txt k n s .nil).1 hrb).1
    have htl := litOk_len hwk h64 hlit.2.2.2.1
    obtain ⟨T, hT⟩ : ∃ T : ByteArray, T = ⟨(txt1 k n s (txtL .nil)).toArray⟩ := ⟨_, rfl⟩
    have hTl : T.data.toList = txt1 k n s [] := by rw [hT]; rfl
    have hTz : T.size ≤ 10000 := by
      have : T.data.toList.length = T.size := by rw [Array.length_toList]; rfl
      rw [← this, hTl]; exact htl
    have TC := Lib.hid (fun W (hW : Below wa.heap.size wa W) => by
      have := TextR_c k n s .nil sa sc W (XV.out W hW) hfit h64 hsc (RV.out W hW)
      rw [htv, ← hT] at this
      exact this)
    have A1 := Lib.hid (lits_one hlit hTl)
    have A2 := Lib.hid (lits_x (s := T ++ ⟨#[120]⟩) hlit (by rw [← hTl]; simp))
    have hT2 : (T ++ (⟨#[120]⟩ : ByteArray)).size ≤ 32768 := by
      rw [ByteArray.size_append]; show T.size + 1 ≤ _; omega
    have SC := Lib.hid (fun W (sa' : Option Addr) (sc' : Nat) (hW : Below wa.heap.size wa W) => by
      have := sameV_c k n s .nil sa' sc' k n s .nil sa sc W hfit hfit (Nat.zero_le _) hsc trivial trivial
      rw [show same1 k n s .nil k n s .nil = true by unfold same1; simp [sameL]] at this
      exact this)
    have hk4 : (k == 4) = false := by rw [beq_eq_false_iff_ne]; exact h4
    have HT2 := Lib.hid hT2
    rw [show VL.nil.len = 0 from rfl] at RCX HV TC SC HWA
    rw [show VL.nil.len = 0 from rfl]
    clear hT hTl htv htl RC hrb hT2 hwk
    by_cases h2 : k = 2
    · have hk0 : (k == 0) = false := by rw [h2]; rfl
      have hk2 : (k == 2) = true := by rw [h2]; rfl
      have A3 := Lib.hid (A2.out.trans (if_pos h2))
      clear A2 h4 h0 h2
      go_enter Tryz.func5, Tryz.ntmps5
      go_wp2_with fail
      rw [← HWA.out]
      refine F.out.mono ?_
      rintro e w2 ⟨rfl, hb2⟩
      have HB2 := Lib.hid hb2
      have hv2 := HV.out w2 hb2
      have v0 := hv2.c0; have v1 := hv2.c1; have v2 := hv2.c2; have v3 := hv2.c3
      clear hb2 hv2
      go_wp2_with fail
      refine (RCX.out w2 HB2.out).mono ?_
      rintro e w3 ⟨rfl, hb3⟩
      have HB3 := Lib.hid (HB2.out.trans (below_le' hb3 HB2.out.size))
      clear v0 v1 v2 v3 hb3
      have hv3 := HV.out w3 HB3.out
      have v0 := hv3.c0; have v1 := hv3.c1; have v2 := hv3.c2; have v3 := hv3.c3
      clear hv3
      go_wp2_with fail
      refine (TC.out w3 HB3.out).mono ?_
      rintro e w4 ⟨rfl, hb4⟩
      have HB4 := Lib.hid (HB3.out.trans (below_le' hb4 HB3.out.size))
      clear v0 v1 v2 v3 hb4
      have hv4 := HV.out w4 HB4.out
      have v0 := hv4.c0; have v1 := hv4.c1; have v2 := hv4.c2; have v3 := hv4.c3
      clear hv4
      go_wp2_with fail
      refine (all_some ea w4 (EV.out w4 HB4.out) (by omega) A1.out Nat.one_pos).mono ?_
      rintro e w5 ⟨g, cap, rfl, hg1, hg2, hb5, hcap, ht⟩
      have HB5 := Lib.hid (HB4.out.trans (below_le' hb5 HB4.out.size))
      clear v0 v1 v2 v3 hb5
      obtain ⟨ta, tc, t0⟩ := ht 0 _ rfl
      have hv5 := HV.out w5 HB5.out
      obtain ⟨S, hS⟩ : ∃ S : World → Prop, S = fun W => W.cell? ⟨g, 0, none⟩ = some (.int .i64 3) ∧ W.cell? ⟨g, 1, none⟩ = some (.int .i64 1) ∧ W.cell? ⟨g, 3, none⟩ = some (.int .i64 k) ∧ W.cell? ⟨g, 4, none⟩ = some (.int .i64 n) ∧ W.cell? ⟨g, 5, none⟩ = some (.string s) ∧ W.cell? ⟨g, 6, none⟩ = some (.slice ta 0 tc) ∧
        W.cell? ⟨w.heap.size, 0, none⟩ = some (.int .i64 k) ∧ W.cell? ⟨w.heap.size, 1, none⟩ = some (.int .i64 n) ∧ W.cell? ⟨w.heap.size, 2, none⟩ = some (.string s) ∧ W.cell? ⟨w.heap.size, 3, none⟩ = some (.slice sa 0 sc) ∧ Below w5.heap.size w5 W := ⟨_, rfl⟩
      have KS : ∀ W, Below w5.heap.size w5 W → S W := fun W hW => by
        rw [hS]
        exact ⟨cell_below hW t0.c0, cell_below hW t0.c1, cell_below hW t0.c3, cell_below hW t0.c4, cell_below hW t0.c5, cell_below hW t0.c6, cell_below hW hv5.c0, cell_below hW hv5.c1, cell_below hW hv5.c2, cell_below hW hv5.c3, hW⟩
      have BS : ∀ W, S W → Below w5.heap.size w5 W := fun W h => by rw [hS] at h; exact h.2.2.2.2.2.2.2.2.2.2
      have C1 := Lib.hid (fun W (h : S W) => (SC.out W ta tc (HB5.out.trans (below_le' (BS W h) HB5.out.size))).mono (R' := fun e W' => e = .returned (.bool true) ∧ S W') fun e W' h' => ⟨h'.1, KS _ ((BS W h).trans (below_le' h'.2 (BS W h).size))⟩)
      have K0 : S w5.drew := KS _ (Below.refl _ _).drew
      have BSS := Lib.hid (fun W (h : S W) => HB5.out.trans (below_le' (BS W h) HB5.out.size))
      clear KS BS ht t0 hv5 hg1 hg2 hcap
      subst hS
      rw [show [(⟨3, 1, ⟨#[]⟩, k, n, s⟩ : Tok)].length = 1 from rfl]
      go_wp2_with fail
      go_region_held3 (fun W => W.cell? ⟨g, 0, none⟩ = some (.int .i64 3) ∧ W.cell? ⟨g, 1, none⟩ = some (.int .i64 1) ∧ W.cell? ⟨g, 3, none⟩ = some (.int .i64 k) ∧ W.cell? ⟨g, 4, none⟩ = some (.int .i64 n) ∧ W.cell? ⟨g, 5, none⟩ = some (.string s) ∧ W.cell? ⟨g, 6, none⟩ = some (.slice ta 0 tc) ∧
        W.cell? ⟨w.heap.size, 0, none⟩ = some (.int .i64 k) ∧ W.cell? ⟨w.heap.size, 1, none⟩ = some (.int .i64 n) ∧ W.cell? ⟨w.heap.size, 2, none⟩ = some (.string s) ∧ W.cell? ⟨w.heap.size, 3, none⟩ = some (.slice sa 0 sc) ∧ Below w5.heap.size w5 W)
        (first | (with_reducible assumption) | (with_reducible exact K0))
        (first
          | (go_at_call 17; refine (C1.out _ ?_).mono ?_; (with_reducible assumption); rintro e w6 ⟨rfl, hs6⟩))
      all_goals
        have HB6 := Lib.hid (BSS.out _ (by assumption))
        go_wp2_with fail
        refine (all_some ea _ (EV.out _ ?_) HT2.out A3.out Nat.two_pos).mono ?_
        · exact HB6.out
        rintro e w7 ⟨g', cap', rfl, hg1, hg2, hb7, hcap, ht⟩
        have HB7 := Lib.hid (HB6.out.trans (below_le' hb7 HB6.out.size))
        have hv7 := HV.out w7 HB7.out
        have y0 := hv7.c0; have y1 := hv7.c1; have y2 := hv7.c2; have y3 := hv7.c3
        clear hv7 hg1 hg2 hb7 ht
        rw [show [(⟨3, 1, ⟨#[]⟩, k, n, s⟩ : Tok), ⟨1, 1, ⟨#[120]⟩, 0, 0, ⟨#[]⟩⟩].length = 2 from rfl]
        go_wp2_with fail
        go_ret
        exact ⟨rfl, HBA.out.trans (below_le' HB7.out HBA.out.size)⟩
    have hk2 : (k == 2) = false := by rw [beq_eq_false_iff_ne]; exact h2
    by_cases hz : k = 0
    · have hk0 : (k == 0) = true := by rw [hz]; rfl
      have hn0 : 0 ≤ n := hlit.2.2.1 hz
      have A3 := Lib.hid (A2.out.trans (if_neg h2))
      clear A2 h4 h0 h2 hz
      go_enter Tryz.func5, Tryz.ntmps5
      go_wp2_with fail
      rw [← HWA.out]
      refine F.out.mono ?_
      rintro e w2 ⟨rfl, hb2⟩
      have HB2 := Lib.hid hb2
      have hv2 := HV.out w2 hb2
      have v0 := hv2.c0; have v1 := hv2.c1; have v2 := hv2.c2; have v3 := hv2.c3
      clear hb2 hv2
      go_wp2_with fail
      refine (RCX.out w2 HB2.out).mono ?_
      rintro e w3 ⟨rfl, hb3⟩
      have HB3 := Lib.hid (HB2.out.trans (below_le' hb3 HB2.out.size))
      clear v0 v1 v2 v3 hb3
      have hv3 := HV.out w3 HB3.out
      have v0 := hv3.c0; have v1 := hv3.c1; have v2 := hv3.c2; have v3 := hv3.c3
      clear hv3
      go_wp2_with fail
      refine (TC.out w3 HB3.out).mono ?_
      rintro e w4 ⟨rfl, hb4⟩
      have HB4 := Lib.hid (HB3.out.trans (below_le' hb4 HB3.out.size))
      clear v0 v1 v2 v3 hb4
      have hv4 := HV.out w4 HB4.out
      have v0 := hv4.c0; have v1 := hv4.c1; have v2 := hv4.c2; have v3 := hv4.c3
      clear hv4
      go_wp2_with fail
      refine (all_some ea w4 (EV.out w4 HB4.out) (by omega) A1.out Nat.one_pos).mono ?_
      rintro e w5 ⟨g, cap, rfl, hg1, hg2, hb5, hcap, ht⟩
      have HB5 := Lib.hid (HB4.out.trans (below_le' hb5 HB4.out.size))
      clear v0 v1 v2 v3 hb5
      obtain ⟨ta, tc, t0⟩ := ht 0 _ rfl
      have hv5 := HV.out w5 HB5.out
      obtain ⟨S, hS⟩ : ∃ S : World → Prop, S = fun W => W.cell? ⟨g, 0, none⟩ = some (.int .i64 3) ∧ W.cell? ⟨g, 1, none⟩ = some (.int .i64 1) ∧ W.cell? ⟨g, 3, none⟩ = some (.int .i64 k) ∧ W.cell? ⟨g, 4, none⟩ = some (.int .i64 n) ∧ W.cell? ⟨g, 5, none⟩ = some (.string s) ∧ W.cell? ⟨g, 6, none⟩ = some (.slice ta 0 tc) ∧
        W.cell? ⟨w.heap.size, 0, none⟩ = some (.int .i64 k) ∧ W.cell? ⟨w.heap.size, 1, none⟩ = some (.int .i64 n) ∧ W.cell? ⟨w.heap.size, 2, none⟩ = some (.string s) ∧ W.cell? ⟨w.heap.size, 3, none⟩ = some (.slice sa 0 sc) ∧ Below w5.heap.size w5 W := ⟨_, rfl⟩
      have KS : ∀ W, Below w5.heap.size w5 W → S W := fun W hW => by
        rw [hS]
        exact ⟨cell_below hW t0.c0, cell_below hW t0.c1, cell_below hW t0.c3, cell_below hW t0.c4, cell_below hW t0.c5, cell_below hW t0.c6, cell_below hW hv5.c0, cell_below hW hv5.c1, cell_below hW hv5.c2, cell_below hW hv5.c3, hW⟩
      have BS : ∀ W, S W → Below w5.heap.size w5 W := fun W h => by rw [hS] at h; exact h.2.2.2.2.2.2.2.2.2.2
      have C1 := Lib.hid (fun W (h : S W) => (SC.out W ta tc (HB5.out.trans (below_le' (BS W h) HB5.out.size))).mono (R' := fun e W' => e = .returned (.bool true) ∧ S W') fun e W' h' => ⟨h'.1, KS _ ((BS W h).trans (below_le' h'.2 (BS W h).size))⟩)
      have K0 : S w5.drew := KS _ (Below.refl _ _).drew
      have BSS := Lib.hid (fun W (h : S W) => HB5.out.trans (below_le' (BS W h) HB5.out.size))
      clear KS BS ht t0 hv5 hg1 hg2 hcap
      subst hS
      rw [show [(⟨3, 1, ⟨#[]⟩, k, n, s⟩ : Tok)].length = 1 from rfl]
      go_wp2_with fail
      go_region_held3 (fun W => W.cell? ⟨g, 0, none⟩ = some (.int .i64 3) ∧ W.cell? ⟨g, 1, none⟩ = some (.int .i64 1) ∧ W.cell? ⟨g, 3, none⟩ = some (.int .i64 k) ∧ W.cell? ⟨g, 4, none⟩ = some (.int .i64 n) ∧ W.cell? ⟨g, 5, none⟩ = some (.string s) ∧ W.cell? ⟨g, 6, none⟩ = some (.slice ta 0 tc) ∧
        W.cell? ⟨w.heap.size, 0, none⟩ = some (.int .i64 k) ∧ W.cell? ⟨w.heap.size, 1, none⟩ = some (.int .i64 n) ∧ W.cell? ⟨w.heap.size, 2, none⟩ = some (.string s) ∧ W.cell? ⟨w.heap.size, 3, none⟩ = some (.slice sa 0 sc) ∧ Below w5.heap.size w5 W)
        (first | (with_reducible assumption) | (with_reducible exact K0))
        (first
          | (go_at_call 17; refine (C1.out _ ?_).mono ?_; (with_reducible assumption); rintro e w6 ⟨rfl, hs6⟩))
      all_goals
        have HB6 := Lib.hid (BSS.out _ (by assumption))
        go_wp2_with fail
        refine (all_bad ea _ (EV.out _ ?_) HT2.out A3.out).mono ?_
        · exact HB6.out
        rintro e w7 ⟨A, hA, hh, rfl, hb7⟩
        have HB7 := Lib.hid (HB6.out.trans (below_le' hb7 HB6.out.size))
        have HAT := Lib.hid (show AtAt w7 A 1 (.iface 199 (.pointer (some (ea (101 + 10))))) from hh)
        have hv7 := HV.out w7 HB7.out
        have y0 := hv7.c0; have y1 := hv7.c1; have y2 := hv7.c2; have y3 := hv7.c3
        clear hv7 hA hh hb7
        go_wp2_with fail
        refine (placed_c 111 1 rfl _).mono ?_
        rintro e w8 ⟨rfl, hb8⟩
        have HB8 := Lib.hid (HB7.out.trans (below_le' hb8 HB7.out.size))
        have HAT8 := Lib.hid (HAT.out.below hb8)
        clear hb8
        go_wp2_with fail
        refine (same_c _ 111 true 1 _ (fun W hW => fault_at ea 10 A 1 W (SV.out W (HB8.out.trans (below_le' hW HB8.out.size))) (by decide) (HAT8.out.below hW))).mono ?_
        rintro e w9 ⟨rfl, hb9⟩
        have HB9 := Lib.hid (HB8.out.trans (below_le' hb9 HB8.out.size))
        clear hb9
        go_wp2_with fail
        go_ret
        exact ⟨rfl, HBA.out.trans (below_le' HB9.out HBA.out.size)⟩
    · have hk0 : (k == 0) = false := by rw [beq_eq_false_iff_ne]; exact hz
      have A3 := Lib.hid (A2.out.trans (if_neg h2))
      clear A2 h4 h0 h2 hz
      go_enter Tryz.func5, Tryz.ntmps5
      go_wp2_with fail
      rw [← HWA.out]
      refine F.out.mono ?_
      rintro e w2 ⟨rfl, hb2⟩
      have HB2 := Lib.hid hb2
      have hv2 := HV.out w2 hb2
      have v0 := hv2.c0; have v1 := hv2.c1; have v2 := hv2.c2; have v3 := hv2.c3
      clear hb2 hv2
      go_wp2_with fail
      refine (RCX.out w2 HB2.out).mono ?_
      rintro e w3 ⟨rfl, hb3⟩
      have HB3 := Lib.hid (HB2.out.trans (below_le' hb3 HB2.out.size))
      clear v0 v1 v2 v3 hb3
      have hv3 := HV.out w3 HB3.out
      have v0 := hv3.c0; have v1 := hv3.c1; have v2 := hv3.c2; have v3 := hv3.c3
      clear hv3
      go_wp2_with fail
      refine (TC.out w3 HB3.out).mono ?_
      rintro e w4 ⟨rfl, hb4⟩
      have HB4 := Lib.hid (HB3.out.trans (below_le' hb4 HB3.out.size))
      clear v0 v1 v2 v3 hb4
      have hv4 := HV.out w4 HB4.out
      have v0 := hv4.c0; have v1 := hv4.c1; have v2 := hv4.c2; have v3 := hv4.c3
      clear hv4
      go_wp2_with fail
      refine (all_some ea w4 (EV.out w4 HB4.out) (by omega) A1.out Nat.one_pos).mono ?_
      rintro e w5 ⟨g, cap, rfl, hg1, hg2, hb5, hcap, ht⟩
      have HB5 := Lib.hid (HB4.out.trans (below_le' hb5 HB4.out.size))
      clear v0 v1 v2 v3 hb5
      obtain ⟨ta, tc, t0⟩ := ht 0 _ rfl
      have hv5 := HV.out w5 HB5.out
      obtain ⟨S, hS⟩ : ∃ S : World → Prop, S = fun W => W.cell? ⟨g, 0, none⟩ = some (.int .i64 3) ∧ W.cell? ⟨g, 1, none⟩ = some (.int .i64 1) ∧ W.cell? ⟨g, 3, none⟩ = some (.int .i64 k) ∧ W.cell? ⟨g, 4, none⟩ = some (.int .i64 n) ∧ W.cell? ⟨g, 5, none⟩ = some (.string s) ∧ W.cell? ⟨g, 6, none⟩ = some (.slice ta 0 tc) ∧
        W.cell? ⟨w.heap.size, 0, none⟩ = some (.int .i64 k) ∧ W.cell? ⟨w.heap.size, 1, none⟩ = some (.int .i64 n) ∧ W.cell? ⟨w.heap.size, 2, none⟩ = some (.string s) ∧ W.cell? ⟨w.heap.size, 3, none⟩ = some (.slice sa 0 sc) ∧ Below w5.heap.size w5 W := ⟨_, rfl⟩
      have KS : ∀ W, Below w5.heap.size w5 W → S W := fun W hW => by
        rw [hS]
        exact ⟨cell_below hW t0.c0, cell_below hW t0.c1, cell_below hW t0.c3, cell_below hW t0.c4, cell_below hW t0.c5, cell_below hW t0.c6, cell_below hW hv5.c0, cell_below hW hv5.c1, cell_below hW hv5.c2, cell_below hW hv5.c3, hW⟩
      have BS : ∀ W, S W → Below w5.heap.size w5 W := fun W h => by rw [hS] at h; exact h.2.2.2.2.2.2.2.2.2.2
      have C1 := Lib.hid (fun W (h : S W) => (SC.out W ta tc (HB5.out.trans (below_le' (BS W h) HB5.out.size))).mono (R' := fun e W' => e = .returned (.bool true) ∧ S W') fun e W' h' => ⟨h'.1, KS _ ((BS W h).trans (below_le' h'.2 (BS W h).size))⟩)
      have K0 : S w5.drew := KS _ (Below.refl _ _).drew
      have BSS := Lib.hid (fun W (h : S W) => HB5.out.trans (below_le' (BS W h) HB5.out.size))
      clear KS BS ht t0 hv5 hg1 hg2 hcap
      subst hS
      rw [show [(⟨3, 1, ⟨#[]⟩, k, n, s⟩ : Tok)].length = 1 from rfl]
      go_wp2_with fail
      go_region_held3 (fun W => W.cell? ⟨g, 0, none⟩ = some (.int .i64 3) ∧ W.cell? ⟨g, 1, none⟩ = some (.int .i64 1) ∧ W.cell? ⟨g, 3, none⟩ = some (.int .i64 k) ∧ W.cell? ⟨g, 4, none⟩ = some (.int .i64 n) ∧ W.cell? ⟨g, 5, none⟩ = some (.string s) ∧ W.cell? ⟨g, 6, none⟩ = some (.slice ta 0 tc) ∧
        W.cell? ⟨w.heap.size, 0, none⟩ = some (.int .i64 k) ∧ W.cell? ⟨w.heap.size, 1, none⟩ = some (.int .i64 n) ∧ W.cell? ⟨w.heap.size, 2, none⟩ = some (.string s) ∧ W.cell? ⟨w.heap.size, 3, none⟩ = some (.slice sa 0 sc) ∧ Below w5.heap.size w5 W)
        (first | (with_reducible assumption) | (with_reducible exact K0))
        (first
          | (go_at_call 17; refine (C1.out _ ?_).mono ?_; (with_reducible assumption); rintro e w6 ⟨rfl, hs6⟩))
      all_goals
        have HB6 := Lib.hid (BSS.out _ (by assumption))
        go_wp2_with fail
        refine (all_bad ea _ (EV.out _ ?_) HT2.out A3.out).mono ?_
        · exact HB6.out
        rintro e w7 ⟨A, hA, hh, rfl, hb7⟩
        have HB7 := Lib.hid (HB6.out.trans (below_le' hb7 HB6.out.size))
        have HAT := Lib.hid (show AtAt w7 A 1 (.iface 199 (.pointer (some (ea (101 + 10))))) from hh)
        have hv7 := HV.out w7 HB7.out
        have y0 := hv7.c0; have y1 := hv7.c1; have y2 := hv7.c2; have y3 := hv7.c3
        clear hv7 hA hh hb7
        go_wp2_with fail
        refine (placed_c 111 1 rfl _).mono ?_
        rintro e w8 ⟨rfl, hb8⟩
        have HB8 := Lib.hid (HB7.out.trans (below_le' hb8 HB7.out.size))
        have HAT8 := Lib.hid (HAT.out.below hb8)
        clear hb8
        go_wp2_with fail
        refine (same_c _ 111 true 1 _ (fun W hW => fault_at ea 10 A 1 W (SV.out W (HB8.out.trans (below_le' hW HB8.out.size))) (by decide) (HAT8.out.below hW))).mono ?_
        rintro e w9 ⟨rfl, hb9⟩
        have HB9 := Lib.hid (HB8.out.trans (below_le' hb9 HB8.out.size))
        clear hb9
        go_wp2_with fail
        go_ret
        exact ⟨rfl, HBA.out.trans (below_le' HB9.out HBA.out.size)⟩
end Go.Proofs.YtfganjmadehhaaaGreatDoor
namespace Go.Proofs.YtfganjmadehhaaaGreatDoor
open Go.RowKit Go.Lib
set_option linter.unusedVariables false

/-- More blanks ahead of the first word. -/
def preS (w : List UInt8) : List (List UInt8 × Tok) → List (List UInt8 × Tok)
  | [] => []
  | p :: l => (w ++ p.1, p.2) :: l
theorem spT_pre (w : List UInt8) {l : List (List UInt8 × Tok)} (h : l ≠ []) : spT (preS w l) = w ++ spT l := by
  cases l with
  | nil => exact absurd rfl h
  | cons p l => rw [preS, spT, spT, List.append_assoc]
theorem spL_pre (w : List UInt8) (line : Int) (l : List (List UInt8 × Tok)) : spL line (preS w l) = spL (line + (w.count 10 : Nat)) l := by
  cases l with
  | nil => rfl
  | cons p l =>
    rw [preS, spL, spL]
    simp only [List.count_append]
    rw [show line + ((w.count 10 + p.1.count 10 : Nat) : Int) = line + (w.count 10 : Nat) + (p.1.count 10 : Nat) by omega]
theorem spT_app : ∀ (a b : List (List UInt8 × Tok)), spT (a ++ b) = spT a ++ spT b
  | [], b => rfl
  | p :: a, b => by rw [List.cons_append, spT, spT, spT_app a b]; simp [List.append_assoc]
/-- The line the last word lies on. -/
def endL (line : Int) : List Tok → Int
  | [] => line
  | t :: l => endL t.line l
theorem spL_app : ∀ (a b : List (List UInt8 × Tok)) (line : Int), spL line (a ++ b) = spL line a ++ spL (endL line (spL line a)) b
  | [], b, line => rfl
  | p :: a, b, line => by
    rw [List.cons_append, spL, spL, spL_app a b]
    rfl
/-- Words, so many lines on. -/
def mvL (d : Int) (l : List Tok) : List Tok := l.map fun t => { t with line := t.line + d }
theorem spL_mv : ∀ (l : List (List UInt8 × Tok)) (line d : Int), spL (line + d) l = mvL d (spL line l)
  | [], _, _ => rfl
  | p :: l, line, d => by
    rw [spL, spL, mvL, List.map_cons]
    simp only
    rw [show line + d + (p.1.count 10 : Nat) = line + (p.1.count 10 : Nat) + d by omega, spL_mv l]
    rfl
theorem endL_mv : ∀ (l : List Tok) (line d : Int), endL (line + d) (mvL d l) = endL line l + d
  | [], _, _ => rfl
  | t :: l, line, d => by
    show endL (t.line + d) (mvL d l) = endL t.line l + d
    exact endL_mv l t.line d
theorem endL_le : ∀ (l : List Tok) (line : Int), Rise line l → line ≤ endL line l
  | [], _, _ => Int.le_refl _
  | t :: l, line, h => Int.le_trans h.1 (endL_le l t.line h.2)
theorem rise_app : ∀ (a b : List Tok) (line : Int), Rise line (a ++ b) → Rise line a ∧ Rise (endL line a) b
  | [], b, line, h => ⟨trivial, h⟩
  | t :: a, b, line, h => ⟨⟨h.1, (rise_app a b t.line h.2).1⟩, (rise_app a b t.line h.2).2⟩
theorem rise_mv : ∀ (l : List Tok) (line d : Int), Rise line l → Rise (line + d) (mvL d l)
  | [], _, _, _ => trivial
  | t :: l, line, d, h => ⟨by show line + d ≤ t.line + d; have := h.1; omega, rise_mv l t.line d h.2⟩

def blkL : Nat → List UInt8
  | 0 => []
  | n + 1 => 32 :: 10 :: blkL n
theorem blk_count : ∀ n, (blkL n).count 10 = n
  | 0 => rfl
  | n + 1 => by rw [blkL, List.count_cons_of_ne (by decide), List.count_cons_self, blk_count n]
theorem blk_blank : ∀ n, ∀ c ∈ blkL n, c = 10 ∨ c = 32
  | 0, c, h => by cases h
  | n + 1, c, h => by
    rcases List.mem_cons.1 h with rfl | h
    · exact .inr rfl
    · rcases List.mem_cons.1 h with rfl | h
      · exact .inl rfl
      · exact blk_blank n c h
theorem mvL_mv (d e : Int) (l : List Tok) : mvL d (mvL e l) = mvL (e + d) l := by
  unfold mvL
  rw [List.map_map]
  congr 1
  funext t
  simp [Int.add_assoc]
theorem join_mv {l : List Tok} (d : Int) (h : Rise 1 l) : spL (1 + d) (joinL 1 true l) = mvL d l := by
  rw [spL_mv, joinL_line l 1 true h]
theorem tok_mv {l : List Tok} (d : Int) (h : ∀ t ∈ l, TokOk t) : ∀ t ∈ mvL d l, TokOk t := by
  intro t ht
  obtain ⟨u, hu, rfl⟩ := List.mem_map.1 ht
  exact h u hu
theorem preS_mem {w : List UInt8} {l : List (List UInt8 × Tok)} {p : List UInt8 × Tok} (h : p ∈ preS w l) : (∃ q ∈ l, p.2 = q.2 ∧ p.1 = w ++ q.1) ∨ p ∈ l := by
  cases l with
  | nil => cases h
  | cons q l =>
    rcases List.mem_cons.1 h with rfl | h
    · exact .inl ⟨q, List.mem_cons_self .., rfl, rfl⟩
    · exact .inr (List.mem_cons_of_mem _ h)
theorem preS_tok {w : List UInt8} {l : List Tok} {line : Int} {first : Bool} (h : ∀ t ∈ l, TokOk t) : ∀ p ∈ preS w (joinL line first l), TokOk p.2 := by
  intro p hp
  have hh : ∀ q ∈ joinL line first l, TokOk q.2 := fun q hq => h q.2 (by
    have := List.mem_map_of_mem (f := Prod.snd) hq
    rw [show (joinL line first l).map Prod.snd = l from joinL_snd l line first] at this; exact this)
  rcases preS_mem hp with ⟨q, hq, e, _⟩ | hp
  · rw [e]; exact hh q hq
  · exact hh p hp
theorem preS_blank {w : List UInt8} {l : List Tok} {line : Int} {first : Bool} (hw : ∀ c ∈ w, c = 10 ∨ c = 32) : ∀ p ∈ preS w (joinL line first l), ∀ c ∈ p.1, c = 10 ∨ c = 32 := by
  intro p hp c hc
  rcases preS_mem hp with ⟨q, hq, _, e⟩ | hp
  · rw [e] at hc
    rcases List.mem_append.1 hc with hc | hc
    · exact hw c hc
    · exact joinL_blank l _ _ q hq c hc
  · exact joinL_blank l _ _ p hp c hc
theorem preS_tail {w : List UInt8} {l : List Tok} {line : Int} : ∀ p ∈ (preS w (joinL line true l)).tail, p.1 ≠ [] := by
  cases l with
  | nil => intro p hp; cases hp
  | cons t l => intro p hp; exact joinL_ne l _ p hp
theorem preS_ne {w : List UInt8} {l : List Tok} {line : Int} (hw : w ≠ []) : ∀ p ∈ preS w (joinL line true l), p.1 ≠ [] := by
  cases l with
  | nil => intro p hp; cases hp
  | cons t l =>
    intro p hp
    rcases List.mem_cons.1 hp with rfl | hp
    · simp only; intro e; exact hw (List.append_eq_nil_iff.1 e).1
    · exact joinL_ne l _ p hp

/-- More blanks, more lines ahead: the same words, lines more. -/
theorem spaces_p {s : ByteArray} {a b : List Tok} {t0 : Tok} (L : Nat) (hok : ∀ t ∈ a ++ t0 :: b, TokOk t) (hr : Rise 1 (a ++ t0 :: b))
    (hs : s.data.toList = spT (preS (List.replicate L 10 ++ [32, 32]) (joinL 1 true a) ++ preS ((if a = [] then List.replicate L 10 ++ [32, 32] else []) ++ (blkL (t0.line - endL 1 a).toNat ++ [32, 32, 32])) (joinL 1 true (mvL (1 - t0.line) (t0 :: b))))) :
    allW s = .inr (mvL L (a ++ t0 :: b)) := by
  obtain ⟨r1, r2⟩ := rise_app a (t0 :: b) 1 hr
  have hD : endL 1 a ≤ t0.line := r2.1
  have r3 : Rise 1 (mvL (1 - t0.line) (t0 :: b)) := by
    have : Rise t0.line (t0 :: b) := ⟨Int.le_refl _, r2.2⟩
    have := rise_mv _ _ (1 - t0.line) this
    rwa [show t0.line + (1 - t0.line) = 1 by omega] at this
  have ha : ∀ t ∈ a, TokOk t := fun t ht => hok t (List.mem_append_left _ ht)
  have hb : ∀ t ∈ t0 :: b, TokOk t := fun t ht => hok t (List.mem_append_right _ ht)
  have w1 : ∀ c ∈ List.replicate L (10 : UInt8) ++ [32, 32], c = 10 ∨ c = 32 := by
    intro c hc
    rcases List.mem_append.1 hc with hc | hc
    · exact .inl (List.eq_of_mem_replicate hc)
    · right; simpa using hc
  have w2 : ∀ c ∈ (if a = [] then List.replicate L (10 : UInt8) ++ [32, 32] else []) ++ (blkL (t0.line - endL 1 a).toNat ++ [32, 32, 32]), c = 10 ∨ c = 32 := by
    intro c hc
    rcases List.mem_append.1 hc with hc | hc
    · split at hc
      · exact w1 c hc
      · cases hc
    · rcases List.mem_append.1 hc with hc | hc
      · exact blk_blank _ c hc
      · right; simpa using hc
  unfold allW
  rw [allSp_spaced _ (s.size + 1) 0 1 [] ?_ ?_ ?_ hs (by omega), List.nil_append, spL_app, spL_pre, spL_pre]
  · congr 1
    have c1 : (List.replicate L (10 : UInt8) ++ [32, 32]).count 10 = L := by
      rw [List.count_append, List.count_replicate_self]; rfl
    rw [c1, join_mv _ r1]
    have c2 : ((blkL (t0.line - endL 1 a).toNat ++ [32, 32, 32]).count 10 : Nat) = (t0.line - endL 1 a).toNat := by
      rw [List.count_append, blk_count]; rfl
    have e : endL 1 (mvL L a) + ((((if a = [] then List.replicate L (10 : UInt8) ++ [32, 32] else []) ++ (blkL (t0.line - endL 1 a).toNat ++ [32, 32, 32])).count 10 : Nat) : Int) = 1 + (t0.line - 1 + L) := by
      rw [List.count_append, c2]
      cases a with
      | nil =>
        rw [if_pos rfl, c1]
        show (1 : Int) + _ = _
        have : endL 1 [] = 1 := rfl
        rw [this] at hD ⊢
        omega
      | cons x a =>
        rw [if_neg (by simp)]
        have := endL_mv (x :: a) 1 L
        have h2 : endL 1 (mvL L (x :: a)) = endL (1 + L) (mvL L (x :: a)) := rfl
        rw [h2, this]
        simp only [List.count_nil]
        omega
    rw [e, join_mv _ r3, mvL_mv, show 1 - t0.line + (t0.line - 1 + L) = (L : Int) by omega]
    unfold mvL
    rw [List.map_append]
  · intro p hp
    rcases List.mem_append.1 hp with hp | hp
    · exact preS_tok ha p hp
    · exact preS_tok (tok_mv _ hb) p hp
  · intro p hp
    rcases List.mem_append.1 hp with hp | hp
    · exact preS_blank w1 p hp
    · exact preS_blank w2 p hp
  · cases a with
    | nil =>
      intro p hp
      rw [joinL, preS, List.nil_append] at hp
      exact preS_tail p hp
    | cons x a =>
      intro p hp
      rw [joinL, preS, List.cons_append, List.tail_cons] at hp
      rcases List.mem_append.1 hp with hp | hp
      · exact joinL_ne a _ p hp
      · exact preS_ne (by simp) p hp
end Go.Proofs.YtfganjmadehhaaaGreatDoor
namespace Go.Proofs.YtfganjmadehhaaaGreatDoor
open Go.RowKit Go.Lib
set_option linter.unusedVariables false

theorem lit_right {k n : Int} {t : ByteArray} (h : LitOk k n t) : rightB k n t .nil = true := by
  obtain ⟨ho, h4, h0, hsz, hn0, hn1⟩ := h
  unfold rightB
  rw [decide_eq_true_eq]
  unfold walk1
  have hm : ¬ (4096 : Int) ≤ mOf k t := by unfold mOf; split <;> omega
  rw [if_neg (by decide), if_neg hm, if_pos (show ownE k n t VL.nil.len = 0 from ho)]; rfl
theorem ba_toArray (b : ByteArray) : (⟨b.data.toList.toArray⟩ : ByteArray) = b := by cases b; simp

set_option maxRecDepth 100000 in
set_option maxHeartbeats 2000000 in
theorem text_w (t : Tok) (sa : Option Addr) (sc : Nat) (hok : TokOk t) (ea : Nat → Addr) (w : World) (he : ErrsAt w ea) (hx : TxAt w) :
    Calls Tryz.prog 30 #[.agg #[.int .i64 t.kind, .int .i64 t.line, .string t.s, .int .i64 t.k, .int .i64 t.n, .string t.t, .slice sa 0 sc]] w fun e w' => e = .returned (.string ⟨(tokT t).toArray⟩) ∧ Below w.heap.size w w' := by
  have hroom := hx.room
  obtain ⟨T, hT⟩ : ∃ T : ByteArray, T = ⟨(tokT t).toArray⟩ := ⟨_, rfl⟩
  rw [← hT]
  obtain ⟨kind, line, ts, k, n, tt⟩ := t
  by_cases h3 : kind = 3
  · have hlit : LitOk k n tt := by
      rcases hok with ⟨_, _, h⟩ | ⟨h, _⟩ | ⟨h, _⟩
      · exact h
      · simp only at h; rw [h3] at h; split at h <;> cases h
      · simp only at h; rw [h3] at h; cases h
    have htv := ((rightB_txt k n tt .nil).1 (lit_right hlit)).1
    have hTv : T = txtV k n tt .nil := by rw [hT, htv]; unfold tokT; simp only [h3, if_true]; rfl
    obtain ⟨wa, hwa⟩ : ∃ wa, wa = w.alloc (.cells #[.int .i64 kind, .int .i64 line, .string ts, .int .i64 k, .int .i64 n, .string tt, .slice sa 0 sc] 34) := ⟨_, rfl⟩
    have hba : Below w.heap.size w wa := by rw [hwa]; exact (Below.refl _ _).alloc (Nat.le_refl _) _
    have hfit : (val1 k n tt .nil).fit := ⟨by have := hlit.2.2.2.1; omega, Nat.zero_le _, trivial, trivial⟩
    have h64 : (val1 k n tt .nil).i64 := ⟨hlit.2.2.2.2.1, hlit.2.2.2.2.2, trivial, trivial⟩
    have TC := Lib.hid (Text_c k n tt .nil sa sc ea wa (he.below hba (by omega)) (hx.below hba (Nat.le_refl _)) hfit h64 (Nat.zero_le _) trivial)
    rw [← hTv, show VL.nil.len = 0 from rfl] at TC
    have HW := Lib.hid hwa
    have HB := Lib.hid hba
    have hk3 : (kind == 3) = true := by rw [h3]; rfl
    have hk3' : (kind != 3) = false := by rw [h3]; rfl
    clear hT hok hlit htv hTv hwa hba hfit h64 h3 he hx
    go_enter Tryz.func30, Tryz.ntmps30
    go_wp2_with fail
    rw [← HW.out]
    refine TC.out.mono ?_
    rintro e w2 ⟨rfl, hb2⟩
    have HB2 := Lib.hid (HB.out.trans (below_le' hb2 HB.out.size))
    clear hb2
    go_wp2_with fail
    go_ret
    exact ⟨rfl, HB2.out⟩
  · have hTs : T = ts := by rw [hT]; unfold tokT; simp only [h3, if_false]
    subst hTs
    have hk3 : (kind == 3) = false := by rw [beq_eq_false_iff_ne]; exact h3
    have hk3' : (kind != 3) = true := by rw [bne_iff_ne]; exact h3
    clear hT hok h3 he hx
    go_enter Tryz.func30, Tryz.ntmps30
    go_wp2_with fail
    go_ret
    exact ⟨rfl, (Below.refl _ _).alloc (Nat.le_refl _) _⟩
end Go.Proofs.YtfganjmadehhaaaGreatDoor
namespace Go.Proofs.YtfganjmadehhaaaGreatDoor
open Go.RowKit Go.Lib
set_option linter.unusedVariables false

theorem repeatL_one (c : Nat) : Lib.repeatL [10] c = List.replicate c 10 := by
  induction c with
  | zero => rfl
  | succ n ih => rw [Lib.repeatL, ih]; rfl
theorem strCells_u8s (s : ByteArray) : strCells s = u8s s.data.toList := rfl
theorem spT_cons (line : Int) (first : Bool) (t : Tok) (l : List Tok) : spT (joinL line first (t :: l)) = (if line < t.line then List.replicate (t.line - line).toNat 10 else if first then [] else [32]) ++ (tokT t ++ spT (joinL (max line t.line) false l)) := rfl
/-- Tokens in a row of memory. -/
def TkRow (w : World) (g : Nat) (L : List TokM) : Prop := ∀ (j : Nat) (p : TokM), L[j]? = some p → TkIn w g (7 * j) p.1 p.2.1 p.2.2
theorem TkRow.below {w w' : World} {g B : Nat} {L : List TokM} (h : TkRow w g L) (hb : Below B w w') (hg : g < B) : TkRow w' g L := fun j p hj => (h j p hj).below hb hg
/-- What holds at Join's loop: the bytes so far in a row of the call's own. -/
structure JInv (base : Nat) (w0 wr : World) (V : Value) (acc : List UInt8) : Prop where
  own : wr.ownsRow base 5 1 V acc.length (u8s acc)
  below : Below base w0 wr
  size : base ≤ wr.heap.size
theorem JInv.move {base : Nat} {w0 wr w' : World} {V : Value} {acc : List UInt8} (h : JInv base w0 wr V acc) (hb : Below wr.heap.size wr w') : JInv base w0 w' V acc :=
  ⟨own_below h.own hb, h.below.trans (below_le' hb h.size), Nat.le_trans h.size hb.size⟩
theorem JInv.alloc {base : Nat} {w0 wr : World} {V : Value} {acc : List UInt8} (h : JInv base w0 wr V acc) (o : Obj) : JInv base w0 (wr.alloc o) V acc := h.move ((Below.refl _ _).alloc (Nat.le_refl _) _)
theorem JInv.app {base : Nat} {w0 wr w5 : World} {V V' : Value} {acc l : List UInt8} (h : JInv base w0 wr V acc) (hown : w5.ownsRow base 5 1 V' (acc.length + (⟨l.toArray⟩ : ByteArray).size) (u8s acc ++ strCells ⟨l.toArray⟩)) (hg : wr.grownBy w5 V.ownBlock) : JInv base w0 w5 V' (acc ++ l) := by
  have e1 : (⟨l.toArray⟩ : ByteArray).size = l.length := by simp [ByteArray.size]
  have e2 : strCells ⟨l.toArray⟩ = u8s l := rfl
  rw [e1, e2] at hown
  refine ⟨?_, grown_below h.below h.size hg (fun k hk => own_ge h.own k hk), Nat.le_trans h.size hg.size⟩
  rw [List.length_append, show u8s (acc ++ l) = u8s acc ++ u8s l from List.map_append]
  exact hown
theorem JInv.byte {base : Nat} {w0 wr w5 : World} {V V' : Value} {acc : List UInt8} {y : UInt8} (h : JInv base w0 wr V acc) (hown : w5.ownsRow base 5 1 V' (acc.length + 1) (u8s acc ++ [.int .u8 y.toNat])) (hg : wr.grownBy w5 V.ownBlock) : JInv base w0 w5 V' (acc ++ [y]) :=
  ⟨own_snoc hown, grown_below h.below h.size hg (fun k hk => own_ge h.own k hk), Nat.le_trans h.size hg.size⟩
theorem TkIn.only {w w' : World} {g o : Nat} {t : Tok} {sa : Option Addr} {sc : Nat} (h : TkIn w g o t sa sc) {row : Option Nat} (hb : w.grownBy w' row) (hg : g < w.heap.size) (hr : some g ≠ row) : TkIn w' g o t sa sc :=
  have hk : ∀ k, w'.cell? ⟨g, k, none⟩ = w.cell? ⟨g, k, none⟩ := fun k => by unfold World.cell?; rw [hb.block g hg hr]
  ⟨(hk _).trans h.c0, (hk _).trans h.c1, (hk _).trans h.c2, (hk _).trans h.c3, (hk _).trans h.c4, (hk _).trans h.c5, (hk _).trans h.c6⟩
theorem tk_new (w : World) (t : Tok) (sa : Option Addr) (sc : Nat) : TkIn (w.alloc (.cells #[.int .i64 t.kind, .int .i64 t.line, .string t.s, .int .i64 t.k, .int .i64 t.n, .string t.t, .slice sa 0 sc] 34)) w.heap.size 0 t sa sc := by
  have hw : (w.alloc (.cells #[.int .i64 t.kind, .int .i64 t.line, .string t.s, .int .i64 t.k, .int .i64 t.n, .string t.t, .slice sa 0 sc] 34)).heap[w.heap.size]? = some (.cells #[.int .i64 t.kind, .int .i64 t.line, .string t.s, .int .i64 t.k, .int .i64 t.n, .string t.t, .slice sa 0 sc] 34) := heap_alloc_new w _
  exact ⟨cell_of_row _ _ 0 _ _ _ hw, cell_of_row _ _ 1 _ _ _ hw, cell_of_row _ _ 2 _ _ _ hw, cell_of_row _ _ 3 _ _ _ hw, cell_of_row _ _ 4 _ _ _ hw, cell_of_row _ _ 5 _ _ _ hw, cell_of_row _ _ 6 _ _ _ hw⟩

set_option maxRecDepth 100000 in
set_option maxHeartbeats 4000000 in
theorem join_c (L : List TokM) (l : List Tok) (g cap : Nat) (ea : Nat → Addr) (w : World) (he : ErrsAt w ea) (hx : TxAt w) (hl : L.map (·.1) = l) (hrow : TkRow w g L) (hg : g < w.heap.size) (hok : ∀ t ∈ l, TokOk t) (hline : ∀ t ∈ l, 1 ≤ t.line ∧ t.line ≤ 32768)
    (hlen : (spT (joinL 1 true l)).length ≤ 1000000) (hn : L.length ≤ 1000000) :
    Calls Tryz.prog 18 #[.slice (some ⟨g, 0, none⟩) L.length cap] w fun e w' => e = .returned (.string ⟨(spT (joinL 1 true l)).toArray⟩) ∧ Below w.heap.size w w' := by
  obtain ⟨T, hT⟩ : ∃ T, T = spT (joinL 1 true l) := ⟨_, rfl⟩
  rw [← hT] at hlen ⊢
  have hroom := hx.room
  obtain ⟨i0, hi0, hz0, hz1, hz2⟩ := info_parts u8_info
  have EV := Lib.hid (fun W (hW : Below w.heap.size w W) => he.below hW (by omega))
  have XV := Lib.hid (fun W (hW : Below w.heap.size w W) => hx.below hW (Nat.le_refl _))
  have RV := Lib.hid (fun W (hW : Below w.heap.size w W) => hrow.below hW hg)
  have HT := Lib.hid hT
  have HL := Lib.hid hl
  have HOK := Lib.hid hok
  have HLN := Lib.hid hline
  have hLl : l.length = L.length := by rw [← hl, List.length_map]
  clear hT hl hok hline hrow he hx
  go_enter Tryz.func18, Tryz.ntmps18
  go_wp2_with fail
  go_loopg [3, 4, 9] L.length (fun kk bv lv iv wr => ∃ (i : Nat) (line : Int) (acc : List UInt8), lv = .int .i64 line ∧ iv = .int .i64 (i : Int) ∧ i + kk = L.length ∧ 1 ≤ line ∧ line ≤ 32768 ∧ Hid (JInv w.heap.size w wr bv acc) ∧
    Hid (acc ++ spT (joinL line (i == 0) (l.drop i)) = T))
  case atStart => exact ⟨0, 1, [], rfl, rfl, by omega, by omega, by omega, Lib.hid ⟨World.ownsRow_nil _ _ _ _, Below.refl _ _, Nat.le_refl _⟩, Lib.hid (by rw [HT.out]; rfl)⟩
  case round =>
    obtain ⟨i, line, acc, rfl, rfl, hk, hl1, hl2, HJ, hq⟩ := hrel
    by_cases hi : i < L.length
    · obtain ⟨kk, rfl⟩ : ∃ kk, gk = kk + 1 := ⟨gk - 1, by omega⟩
      obtain ⟨p, hp⟩ : ∃ p, L[i]? = some p := ⟨_, List.getElem?_eq_getElem hi⟩
      have hrw := RV.out _ HJ.out.below i p hp
      obtain ⟨t, sa, sc⟩ := p
      have htl : l[i]? = some t := by rw [← HL.out, List.getElem?_map, hp]; rfl
      have htm : t ∈ l := List.mem_of_getElem? htl
      have htok := Lib.hid (HOK.out t htm)
      obtain ⟨hq1, hq2⟩ := HLN.out t htm
      have hdr : l.drop i = t :: l.drop (i + 1) := by
        have hil : i < l.length := by omega
        rw [List.drop_eq_getElem_cons hil]
        congr 1
        rw [List.getElem?_eq_getElem hil] at htl
        injection htl
      have hqq := hq.out
      rw [hdr, spT_cons] at hqq
      have k0 := hrw.c0; have k1 := hrw.c1; have k2 := hrw.c2; have k3 := hrw.c3; have k4 := hrw.c4; have k5 := hrw.c5; have k6 := hrw.c6
      simp only at k0 k1 k2 k3 k4 k5 k6
      rw [Nat.mul_comm 7 i] at k0 k1 k2 k3 k4 k5 k6
      have hNJ : (i + 1 == 0) = false := by rw [beq_eq_false_iff_ne]; omega
      have hTL : T.length = T.length := rfl
      clear hrw hq
      by_cases hlt : line < t.line
      · have d1 : decide (line < t.line) = true := decide_eq_true hlt
        have hmax : max line t.line = t.line := by omega
        rw [if_pos hlt, hmax] at hqq
        have hln : acc.length + ((t.line - line).toNat + ((tokT t).length + (spT (joinL t.line false (l.drop (i + 1)))).length)) = T.length := by rw [← hqq]; simp [List.length_append]
        have HQ := Lib.hid hqq
        clear hqq
        obtain ⟨wA, hwA⟩ : ∃ wA, wA = wr.alloc (.cells #[.int .i64 t.kind, .int .i64 t.line, .string t.s, .int .i64 t.k, .int .i64 t.n, .string t.t, .slice sa 0 sc] 34) := ⟨_, rfl⟩
        have JA := Lib.hid (show JInv w.heap.size w wA u3 acc by rw [hwA]; exact HJ.out.alloc _)
        have KA := Lib.hid (show TkIn wA wr.heap.size 0 t sa sc by rw [hwA]; exact tk_new wr t sa sc)
        have ZA := Lib.hid (show wA.heap.size = wr.heap.size + 1 by rw [hwA]; simp)
        have OA := Lib.hid (fun k (hk : u3.ownBlock = some k) => own_lt HJ.out.own k hk)
        have REP := Tryz.strings_Repeat ⟨#[10]⟩ (t.line - line).toNat wA (by omega) (by show 1 * _ ≤ _; omega)
        rw [show (⟨#[10]⟩ : ByteArray).data.toList = [10] from rfl, repeatL_one] at REP
        have REP := Lib.hid REP
        go_wp2_with fail
        rw [show min (t.line - line) 32768 = ((t.line - line).toNat : Int) by omega, ← hwA]
        refine REP.out.mono ?_
        rintro e w2 ⟨rfl, hb2⟩
        have J2 := Lib.hid (JA.out.move hb2)
        have K2 := Lib.hid (KA.out.below hb2 (by have := ZA.out; omega))
        have Z2 := Lib.hid (show wr.heap.size < w2.heap.size by have := ZA.out; have := hb2.size; omega)
        clear hb2 REP hwA k0 k1 k2 k3 k4 k5 k6 JA KA ZA
        go_wp2_with (at_builtin; refine wpList_append_own_string _ rfl (.tmp 19) (.tmp 25) 36 9 rfl w.heap.size 5 i0 Tryz.underlying36 Tryz.underlying9 hi0 hz0 hz1 hz2 u3 acc.length (u8s acc) rfl J2.out.own ⟨(List.replicate (t.line - line).toNat 10).toArray⟩ rfl ?c1 ?c2 ?c3 ?_
                     case c1 => simp [ByteArray.size]; unfold maxLen; omega
                     case c2 => simp [ByteArray.size]; omega
                     case c3 => exact J2.out.size
                     intro v3 w3 hown hgrow _
                     have J3 := Lib.hid (J2.out.app hown hgrow)
                     have hk3 := K2.out.only hgrow Z2.out (fun e => by have := OA.out _ e.symm; omega)
                     have q0 := hk3.c0; have q1 := hk3.c1; have q2 := hk3.c2; have q3 := hk3.c3; have q4 := hk3.c4; have q5 := hk3.c5; have q6 := hk3.c6
                     simp only [Nat.zero_add] at q0 q1 q2 q3 q4 q5 q6
                     clear hown hgrow hk3 J2 K2 Z2 OA)
        go_wp2_with fail
        refine (text_w t sa sc htok.out ea _ (EV.out _ J3.out.below) (XV.out _ J3.out.below)).mono ?_
        rintro e w4 ⟨rfl, hb4⟩
        have J4 := Lib.hid (J3.out.move hb4)
        clear hb4 J3 q0 q1 q2 q3 q4 q5 q6
        go_wp2_with (at_builtin; refine wpList_append_own_string _ rfl (.tmp 35) (.tmp 37) 36 9 rfl w.heap.size 5 i0 Tryz.underlying36 Tryz.underlying9 hi0 hz0 hz1 hz2 v3 (acc ++ List.replicate (t.line - line).toNat 10).length (u8s (acc ++ List.replicate (t.line - line).toNat 10)) rfl J4.out.own ⟨(tokT t).toArray⟩ rfl ?c1 ?c2 ?c3 ?_
                     case c1 => simp [ByteArray.size]; unfold maxLen; omega
                     case c2 => simp [ByteArray.size]; omega
                     case c3 => exact J4.out.size
                     intro v5 w5 hown hgrow _
                     have J5 := Lib.hid (J4.out.app hown hgrow)
                     clear hown hgrow J4)
        go_roundg kk
        case measure => omega
        case rel => exact ⟨i + 1, t.line, (acc ++ List.replicate (t.line - line).toNat 10) ++ tokT t, rfl, rfl, by omega, by omega, by omega, J5, Lib.hid (by rw [hNJ]; simpa [List.append_assoc] using HQ.out)⟩
      · have d1 : decide (line < t.line) = false := decide_eq_false hlt
        have hmax : max line t.line = line := by omega
        rw [if_neg hlt, hmax] at hqq
        obtain ⟨wA, hwA⟩ : ∃ wA, wA = wr.alloc (.cells #[.int .i64 t.kind, .int .i64 t.line, .string t.s, .int .i64 t.k, .int .i64 t.n, .string t.t, .slice sa 0 sc] 34) := ⟨_, rfl⟩
        have JA := Lib.hid (show JInv w.heap.size w wA u3 acc by rw [hwA]; exact HJ.out.alloc _)
        have KA := Lib.hid (show TkIn wA wr.heap.size 0 t sa sc by rw [hwA]; exact tk_new wr t sa sc)
        have ZA := Lib.hid (show wA.heap.size = wr.heap.size + 1 by rw [hwA]; simp)
        have OA := Lib.hid (fun k (hk : u3.ownBlock = some k) => own_lt HJ.out.own k hk)
        have HWA := Lib.hid hwA
        clear hwA
        by_cases hi0' : i = 0
        · have e0 : (i == 0) = true := by rw [hi0']; rfl
          have e1 : decide ((0 : Int) < (i : Int)) = false := by rw [decide_eq_false_iff_not]; omega
          have e2 : ¬ 0 < i := by omega
          rw [e0] at hqq
          simp only [if_true, List.nil_append] at hqq
          have hln : acc.length + ((tokT t).length + (spT (joinL line false (l.drop (i + 1)))).length) = T.length := by rw [← hqq]; simp [List.length_append]
          have HQ := Lib.hid hqq
          clear hqq e0 hi0'
          clear HWA
          go_wp2_with fail
          refine (text_w t sa sc htok.out ea _ (EV.out _ (HJ.out.alloc _).below) (XV.out _ (HJ.out.alloc _).below)).mono ?_
          rintro e w4 ⟨rfl, hb4⟩
          have J4 := Lib.hid ((HJ.out.alloc _).move hb4)
          clear hb4 HJ JA KA ZA OA k0 k1 k2 k3 k4 k5 k6
          go_wp2_with (at_builtin; refine wpList_append_own_string _ rfl (.tmp 35) (.tmp 37) 36 9 rfl w.heap.size 5 i0 Tryz.underlying36 Tryz.underlying9 hi0 hz0 hz1 hz2 u3 (acc).length (u8s (acc)) rfl J4.out.own ⟨(tokT t).toArray⟩ rfl ?c1 ?c2 ?c3 ?_
                       case c1 => simp [ByteArray.size]; unfold maxLen; omega
                       case c2 => simp [ByteArray.size]; omega
                       case c3 => exact J4.out.size
                       intro v5 w5 hown hgrow _
                       have J5 := Lib.hid (J4.out.app hown hgrow)
                       clear hown hgrow J4)
          go_roundg kk
          case measure => omega
          case rel => exact ⟨i + 1, line, (acc) ++ tokT t, rfl, rfl, by omega, by omega, by omega, J5, Lib.hid (by rw [hNJ]; simpa [List.append_assoc] using HQ.out)⟩
        · have e0 : (i == 0) = false := by rw [beq_eq_false_iff_ne]; exact hi0'
          have e1 : decide ((0 : Int) < (i : Int)) = true := by rw [decide_eq_true_eq]; omega
          have e2 : 0 < i := by omega
          rw [e0] at hqq
          simp only [if_false, Bool.false_eq_true] at hqq
          have hln : acc.length + (1 + ((tokT t).length + (spT (joinL line false (l.drop (i + 1)))).length)) = T.length := by rw [← hqq]; simp [List.length_append]; omega
          have HQ := Lib.hid hqq
          have KB := Lib.hid (show TkIn ((wr.alloc (.cells #[.int .i64 t.kind, .int .i64 t.line, .string t.s, .int .i64 t.k, .int .i64 t.n, .string t.t, .slice sa 0 sc] 34)).alloc (.cells #[.int .u8 32] 5)) wr.heap.size 0 t sa sc by rw [← HWA.out]; exact KA.out.below ((Below.refl _ _).alloc (Nat.le_refl _) _) (by have := ZA.out; omega))
          clear hqq e0 hi0'
          go_wp2_with (at_builtin; refine wpList_append_own _ rfl (.tmp 32) (.tmp 33) 36 rfl w.heap.size 5 i0 (.int .u8 0) 1 1 Tryz.underlying36 hi0 hz0 hz1 hz2 rfl (by decide) u3 acc.length (u8s acc) rfl ((HJ.out.alloc _).alloc _).own ⟨wr.heap.size + 1, 0, none⟩ 1 1 [.int .u8 32] rfl rfl ?c1 ?c2 ?c3 ?c4 ?c5 ?_
                       case c1 => rw [← ZA.out, ← HWA.out]; exact cell_one_new _ _ _
                       case c2 => intro u hu; simp at hu; subst hu; rfl
                       case c3 => unfold maxLen; omega
                       case c4 => omega
                       case c5 => exact ((HJ.out.alloc _).alloc _).size
                       intro v3 w3 hown hgrow _
                       have J3 := Lib.hid (((HJ.out.alloc _).alloc _).byte (y := 32) hown hgrow)
                       have hk3 := KB.out.only hgrow (by simp; omega) (fun e => by have := OA.out _ e.symm; omega)
                       have q0 := hk3.c0; have q1 := hk3.c1; have q2 := hk3.c2; have q3 := hk3.c3; have q4 := hk3.c4; have q5 := hk3.c5; have q6 := hk3.c6
                       simp only [Nat.zero_add] at q0 q1 q2 q3 q4 q5 q6
                       clear hown hgrow hk3 KB KA JA ZA OA HWA)
          go_wp2_with fail
          refine (text_w t sa sc htok.out ea _ (EV.out _ J3.out.below) (XV.out _ J3.out.below)).mono ?_
          rintro e w4 ⟨rfl, hb4⟩
          have J4 := Lib.hid (J3.out.move hb4)
          clear hb4 J3 q0 q1 q2 q3 q4 q5 q6
          go_wp2_with (at_builtin; refine wpList_append_own_string _ rfl (.tmp 35) (.tmp 37) 36 9 rfl w.heap.size 5 i0 Tryz.underlying36 Tryz.underlying9 hi0 hz0 hz1 hz2 v3 (acc ++ [32]).length (u8s (acc ++ [32])) rfl J4.out.own ⟨(tokT t).toArray⟩ rfl ?c1 ?c2 ?c3 ?_
                       case c1 => simp [ByteArray.size]; unfold maxLen; omega
                       case c2 => simp [ByteArray.size]; omega
                       case c3 => exact J4.out.size
                       intro v5 w5 hown hgrow _
                       have J5 := Lib.hid (J4.out.app hown hgrow)
                       clear hown hgrow J4)
          go_roundg kk
          case measure => omega
          case rel => exact ⟨i + 1, line, (acc ++ [32]) ++ tokT t, rfl, rfl, by omega, by omega, by omega, J5, Lib.hid (by rw [hNJ]; simpa [List.append_assoc] using HQ.out)⟩
    · have hiL : i = L.length := by omega
      have hfin : l.drop i = [] := List.drop_eq_nil_of_le (by omega)
      have hqT := hq.out
      rw [hfin, show joinL line (i == 0) [] = [] from rfl, show spT [] = [] from rfl, List.append_nil] at hqT
      have HQ := Lib.hid hqT
      have hcv := conv_text wr w.heap.size u3 acc HJ.out.own
      clear hq hqT
      go_wp2_with fail
      go_ret
      exact ⟨by rw [HQ.out]; rfl, HJ.out.below⟩
end Go.Proofs.YtfganjmadehhaaaGreatDoor
namespace Go.Proofs.YtfganjmadehhaaaGreatDoor
open Go.RowKit Go.Lib
set_option linter.unusedVariables false

/-- A row of values of the call's own. -/
structure CInv (base : Nat) (w0 wr : World) (V : Value) (acc : VL) (xs : List Value) : Prop where
  own : wr.ownsRow base 32 4 V acc.len xs
  cells : CellsOf wr (fun b => base ≤ b ∧ b < wr.heap.size ∧ V.ownBlock ≠ some b) acc xs
  below : Below base w0 wr
  size : base ≤ wr.heap.size
theorem CInv.nil (w : World) : CInv w.heap.size w w (.slice none 0 0) .nil [] := ⟨World.ownsRow_nil _ _ _ _, rfl, Below.refl _ _, Nat.le_refl _⟩
theorem CInv.move {base : Nat} {w0 wr w' : World} {V : Value} {acc : VL} {xs : List Value} (h : CInv base w0 wr V acc xs) (hb : Below wr.heap.size wr w') : CInv base w0 w' V acc xs :=
  ⟨own_below h.own hb, h.cells.keep (fun b hb' => hb.block b hb'.2.1) (fun b hb' => ⟨hb'.1, Nat.lt_of_lt_of_le hb'.2.1 hb.size, hb'.2.2⟩), h.below.trans (below_le' hb h.size), Nat.le_trans h.size hb.size⟩
theorem CInv.step {base : Nat} {w0 wr w3 w5 : World} {V V' : Value} {acc : VL} {xs : List Value} (h : CInv base w0 wr V acc xs) (hb : Below wr.heap.size wr w3)
    {k n : Int} {t : ByteArray} {sub : VL} {sa : Option Addr} {sc : Nat} (hsc : sub.len ≤ sc) (hrep : RpL w3 (fun b => wr.heap.size ≤ b ∧ b < w3.heap.size) sub sa) {o1 : Obj}
    (hown : w5.ownsRow base 32 4 V' (acc.len + 1) (xs ++ [.int .i64 k, .int .i64 n, .string t, .slice sa sub.len sc])) (hg : (w3.alloc o1).grownBy w5 V.ownBlock)
    (hob : V'.ownBlock = V.ownBlock ∨ V'.ownBlock = some (w3.alloc o1).heap.size) :
    CInv base w0 w5 V' (acc.app (val1 k n t sub)) (xs ++ [.int .i64 k, .int .i64 n, .string t, .slice sa sub.len sc]) := by
  have h3 := h.move hb
  have hVg : ∀ g, V.ownBlock = some g → base ≤ g ∧ g < wr.heap.size := fun g hg => ⟨own_ge h.own g hg, own_lt h.own g hg⟩
  have hsz : (w3.alloc o1).heap.size = w3.heap.size + 1 := by simp
  have hz5 : w3.heap.size + 1 ≤ w5.heap.size := by have := hg.size; omega
  have hz3 := hb.size
  have hz0 := h.size
  have blk : ∀ b, b < w3.heap.size → V.ownBlock ≠ some b → w5.heap[b]? = w3.heap[b]? := fun b hb hne => by
    have h1 := hg.block b (by omega) (fun e => hne e.symm)
    rw [h1, Below.heap_alloc _ _ _ hb]
  have hV'b : ∀ b, b < w3.heap.size → V.ownBlock ≠ some b → V'.ownBlock ≠ some b := fun b hb hne e => by
    rcases hob with e2 | e2
    · exact hne (e2.symm.trans e)
    · rw [e] at e2
      injection e2 with e2
      omega
  refine ⟨by rw [VL.len_app]; exact hown, ?_, ?_, by omega⟩
  · refine CellsOf.app _ _ _ _ ?_ ⟨sa, sc, [], rfl, hsc, ?_, rfl⟩
    · exact h3.cells.keep (fun b hb => blk b hb.2.1 hb.2.2) (fun b hb => ⟨hb.1, by have := hb.2.1; omega, hV'b b hb.2.1 hb.2.2⟩)
    · have hne : ∀ b, wr.heap.size ≤ b → V.ownBlock ≠ some b := fun b hb e => by have := (hVg b e).2; omega
      exact hrep.keep (fun b hb => blk b hb.2 (hne b hb.1)) (fun b hb => ⟨by have := hb.1; omega, by have := hb.2; omega, hV'b b hb.2 (hne b hb.1)⟩)
  · exact grown_below (h3.below.alloc h3.size o1) (by simp; omega) hg (fun k hk => (hVg k hk).1)
/-- What the row reads as. -/
theorem CInv.rep {base : Nat} {w0 wr : World} {V : Value} {acc : VL} {xs : List Value} (h : CInv base w0 wr V acc xs) : ∃ (sa : Option Addr) (sc : Nat), V = .slice sa acc.len sc ∧ acc.len ≤ sc ∧ RpL wr (fun b => base ≤ b ∧ b < wr.heap.size) acc sa :=
  own_rep h.own (h.cells.keep (fun _ _ => rfl) (fun b hb => ⟨hb.1, hb.2.1⟩)) (fun g hg => ⟨own_ge h.own g hg, own_lt h.own g hg⟩)

/-- A copy comes out. -/
def PCopy (w : World) (k n : Int) (s : ByteArray) (sub : VL) (e : Ending) (w' : World) : Prop :=
  ∃ (sa : Option Addr) (sc : Nat), e = .returned (.agg #[.int .i64 k, .int .i64 n, .string s, .slice sa sub.len sc]) ∧ sub.len ≤ sc ∧ RpL w' (fun b => w.heap.size ≤ b ∧ b < w'.heap.size) sub sa ∧ Below w.heap.size w w'

theorem clone_end {w wr : World} {k n : Int} {s : ByteArray} {sub : VL} {bv : Value} {sb : Option Addr} {cb : Nat} (hb : Below w.heap.size w wr) (hz : w.heap.size + 2 ≤ wr.heap.size) (hr : StB wr (w.heap.size + 1) (.int .i64 0) (.int .i64 0) (.string ⟨#[]⟩) (.slice none 0 0))
    (hbv : bv = .slice sb sub.len cb) (hcb : sub.len ≤ cb) (hrb : RpL wr (fun b => w.heap.size + 2 ≤ b ∧ b < wr.heap.size) sub sb) :
    StB (((((wr.setCell ⟨w.heap.size, 3, none⟩ bv).setCell ⟨w.heap.size + 1, 0, none⟩ (.int .i64 k)).setCell ⟨w.heap.size + 1, 1, none⟩ (.int .i64 n)).setCell ⟨w.heap.size + 1, 2, none⟩ (.string s)).setCell ⟨w.heap.size + 1, 3, none⟩ bv) (w.heap.size + 1) (.int .i64 k) (.int .i64 n) (.string s) bv ∧
    PCopy w k n s sub (.returned (.agg #[.int .i64 k, .int .i64 n, .string s, bv])) (((((wr.setCell ⟨w.heap.size, 3, none⟩ bv).setCell ⟨w.heap.size + 1, 0, none⟩ (.int .i64 k)).setCell ⟨w.heap.size + 1, 1, none⟩ (.int .i64 n)).setCell ⟨w.heap.size + 1, 2, none⟩ (.string s)).setCell ⟨w.heap.size + 1, 3, none⟩ bv) := by
  have hr' : StB (wr.setCell ⟨w.heap.size, 3, none⟩ bv) (w.heap.size + 1) (.int .i64 0) (.int .i64 0) (.string ⟨#[]⟩) (.slice none 0 0) := hr.far (by show w.heap.size + 1 ≠ w.heap.size; omega) _
  have hz1 : (wr.setCell ⟨w.heap.size, 3, none⟩ bv).heap.size = wr.heap.size := by simp [World.setCell]
  have hb1 : Below w.heap.size w (wr.setCell ⟨w.heap.size, 3, none⟩ bv) := Below.setCell hb (show w.heap.size ≤ (⟨w.heap.size, 3, none⟩ : Addr).block from Nat.le_refl _) _
  have hrb1 : RpL (wr.setCell ⟨w.heap.size, 3, none⟩ bv) (fun b => w.heap.size + 2 ≤ b ∧ b < wr.heap.size) sub sb := hrb.keep (fun c hc => Below.heap_setCell _ _ _ _ (by show c ≠ w.heap.size; omega)) (fun c hc => hc)
  exact ⟨hr'.set4 _ _ _ _, sb, cb, by rw [hbv], hcb, hrb1.keep (fun c hc => heap_set4 _ _ _ _ _ _ _ (by omega)) (fun c hc => ⟨by omega, by rw [size_set4, hz1]; exact hc.2⟩), below_set4 hb1 (by omega) _ _ _ _⟩

end Go.Proofs.YtfganjmadehhaaaGreatDoor
namespace Go.Proofs.YtfganjmadehhaaaGreatDoor
open Go.RowKit Go.Lib
set_option linter.unusedVariables false

theorem list_end {w wr : World} {sub : VL} {sb : Option Addr} {cb : Nat} (hb : Below w.heap.size w wr) (hz : w.heap.size + 1 ≤ wr.heap.size) (hr : StB wr w.heap.size (.int .i64 0) (.int .i64 0) (.string ⟨#[]⟩) (.slice none 0 0))
    (hcb : sub.len ≤ cb) (hrb : RpL wr (fun b => w.heap.size + 1 ≤ b ∧ b < wr.heap.size) sub sb) :
    StB ((((wr.setCell ⟨w.heap.size, 0, none⟩ (.int .i64 4)).setCell ⟨w.heap.size, 1, none⟩ (.int .i64 0)).setCell ⟨w.heap.size, 2, none⟩ (.string ⟨#[]⟩)).setCell ⟨w.heap.size, 3, none⟩ (.slice sb sub.len cb)) w.heap.size (.int .i64 4) (.int .i64 0) (.string ⟨#[]⟩) (.slice sb sub.len cb) ∧
    PCopy w 4 0 ⟨#[]⟩ sub (.returned (.agg #[.int .i64 4, .int .i64 0, .string ⟨#[]⟩, .slice sb sub.len cb])) ((((wr.setCell ⟨w.heap.size, 0, none⟩ (.int .i64 4)).setCell ⟨w.heap.size, 1, none⟩ (.int .i64 0)).setCell ⟨w.heap.size, 2, none⟩ (.string ⟨#[]⟩)).setCell ⟨w.heap.size, 3, none⟩ (.slice sb sub.len cb)) :=
  ⟨hr.set4 _ _ _ _, sb, cb, rfl, hcb, hrb.keep (fun c hc => heap_set4 _ _ _ _ _ _ _ (by omega)) (fun c hc => ⟨by omega, by rw [size_set4]; exact hc.2⟩), below_set4 hb (Nat.le_refl _) _ _ _ _⟩

end Go.Proofs.YtfganjmadehhaaaGreatDoor
