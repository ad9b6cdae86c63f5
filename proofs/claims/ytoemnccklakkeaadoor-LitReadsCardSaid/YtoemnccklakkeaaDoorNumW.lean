/-
  lit.Number and the reference's Number: the walks.
-/
import Derived.Test.YtoemnccklakkeaaDoorCode
import Derived.Test.YtoemnccklakkeaaDoorNum
import Derived.Lib.SmallJoins
import Derived.Lib.AppendIntMem
namespace Go.Proofs.YtoemnccklakkeaaDoor
open Go.RowKit Go.Lib
set_option linter.unusedVariables false

def numV (s : ByteArray) : Int := (refNum s.data.toList).getD 0
def numB (s : ByteArray) : Bool := (refNum s.data.toList).isSome
theorem num_none {s : ByteArray} (h : refNum s.data.toList = none) : (Value.int .i64 0 = .int .i64 (numV s)) ∧ (Value.bool false = .bool (numB s)) := by unfold numV numB; rw [h]; exact ⟨rfl, rfl⟩
theorem num_some {s : ByteArray} {v : Int} (h : refNum s.data.toList = some v) : (Value.int .i64 v = .int .i64 (numV s)) ∧ (Value.bool true = .bool (numB s)) := by unfold numV numB; rw [h]; exact ⟨rfl, rfl⟩

/-- What strconv's package-level variables hold. -/
structure StrcAt (w : World) : Prop where
  syn : ∃ te pe, w.cell? ⟨3, 0, none⟩ = some (.iface te pe)
  rng : ∃ te pe, w.cell? ⟨4, 0, none⟩ = some (.iface te pe)
  tab : TabIs Tryd.prog w "internal/strconv.uint64pow10" .u64 pow10Tab
  room : 24 < w.heap.size
theorem StrcAt.below {w w' : World} {B : Nat} (h : StrcAt w) (hb : Below B w w') (hB : w.heap.size ≤ B) : StrcAt w' := by
  have hk : ∀ p : Addr, p.block < w.heap.size → w'.cell? p = w.cell? p := fun p hp => World.cell?_of_block (w := w) (hb.block p.block (by omega))
  have hr := h.room
  obtain ⟨t1, p1, h1⟩ := h.syn
  obtain ⟨t2, p2, h2⟩ := h.rng
  exact ⟨⟨t1, p1, (hk ⟨3, 0, none⟩ (Nat.lt_trans (by decide) hr)).trans h1⟩, ⟨t2, p2, (hk ⟨4, 0, none⟩ (Nat.lt_trans (by decide) hr)).trans h2⟩, Joins.tab_stays (g := 5) rfl h.tab hb hB, by have := hb.size; omega⟩

set_option maxHeartbeats 1000000 in
theorem number_l (s : ByteArray) (w : World) (hs : s.size ≤ 1000000000) (h : StrcAt w) :
    Calls Tryd.prog 13 #[.string s] w fun e w' => e = .returned (.tuple #[.int .i64 (numV s), .bool (numB s)]) ∧ Below w.heap.size w w' := by
  obtain ⟨cv, hcv⟩ : ∃ cv : Int, cv = numV s := ⟨_, rfl⟩
  obtain ⟨cb, hcb⟩ : ∃ cb : Bool, cb = numB s := ⟨_, rfl⟩
  rw [← hcv, ← hcb]
  rcases hp : parseIntB 64 s.data.toList with v | _ | _
  rotate_left
  · have hn : refNum s.data.toList = none := by
      cases hq : refNum s.data.toList with
      | none => rfl
      | some v => have := ((num_iff _ _).1 hq).1; rw [hp] at this; cases this
    obtain ⟨te, pe, hv⟩ := h.syn
    have PC := Lib.hid (Tryd.strconv_ParseInt_10_at64_syntax s (by omega) (fun v e => by rw [hp] at e; cases e) (fun e => by rw [hp] at e; cases e) _ w hv (.inr ⟨te, pe, rfl⟩))
    have HM := Lib.hid (num_none hn)
    rw [← hcv, ← hcb] at HM
    clear hp hn hv h hcv hcb
    go_enter Tryd.func13, Tryd.ntmps13
    go_wp2_with fail
    refine PC.out.mono ?_
    rintro e w2 ⟨N, rfl, _, _, hb⟩
    have HB := Lib.hid hb
    clear hb
    go_wp2_with fail
    go_returns
    exact ⟨ret_two HM.out.1 HM.out.2, HB.out⟩
  · have hn : refNum s.data.toList = none := by
      cases hq : refNum s.data.toList with
      | none => rfl
      | some v => have := ((num_iff _ _).1 hq).1; rw [hp] at this; cases this
    obtain ⟨te, pe, hv⟩ := h.rng
    have PC := Lib.hid (Tryd.strconv_ParseInt_10_at64_range s (by omega) hp _ w hv (.inr ⟨te, pe, rfl⟩))
    have HM := Lib.hid (num_none hn)
    rw [← hcv, ← hcb] at HM
    clear hp hn hv h hcv hcb
    go_enter Tryd.func13, Tryd.ntmps13
    go_wp2_with fail
    refine PC.out.mono ?_
    rintro e w2 ⟨N, rfl, _, _, hb⟩
    have HB := Lib.hid hb
    clear hb
    go_wp2_with fail
    go_returns
    exact ⟨ret_two HM.out.1 HM.out.2, HB.out⟩
  · have hbd := parseIntB_bounds hp
    have PC := Lib.hid (Tryd.strconv_ParseInt_10_at64_ok s (by omega) v hp w)
    have HS := Lib.hid h
    have FC := fun (W : World) (hW : StrcAt W) => Lib.hid (Tryd.strconv_FormatInt_10 v (by simpa using hbd.1) (by have := hbd.2; simp at this; omega) W hW.tab)
    obtain ⟨t, ht⟩ : ∃ t : ByteArray, t = ⟨(itoa v).toArray⟩ := ⟨_, rfl⟩
    rw [← ht] at FC
    by_cases he : t = s
    · have hn : refNum s.data.toList = some v := (num_iff _ _).2 ⟨hp, by rw [← he, ht]⟩
      have HM := Lib.hid (num_some hn)
      rw [← hcv, ← hcb] at HM
      rw [he] at FC
      have hse := str_eq s
      clear hp hn h hcv hcb ht he hbd
      go_enter Tryd.func13, Tryd.ntmps13
      go_wp2_with fail
      refine PC.out.mono ?_
      rintro e w2 ⟨rfl, hw⟩
      have HB := Lib.hid (show Below w.heap.size w w2 by
        rcases hw with rfl | ⟨t, rfl⟩
        · exact Below.refl _ _
        · exact bytesWorld_below _ _ _)
      clear hw
      go_wp2_with fail
      refine (FC w2 (HS.out.below HB.out (Nat.le_refl _))).out.mono ?_
      rintro e w3 ⟨rfl, k, os, hw3⟩
      have HB3 := Lib.hid (show Below w.heap.size w w3 by rw [hw3]; exact HB.out.trans (below_grow _ _ HB.out.size _ _))
      clear hw3
      go_wp2_with fail
      go_returns
      exact ⟨ret_two HM.out.1 HM.out.2, HB3.out⟩
    · have hn : refNum s.data.toList = none := by
        cases hq : refNum s.data.toList with
        | none => rfl
        | some v' =>
          obtain ⟨h1, h2⟩ := (num_iff _ _).1 hq
          rw [hp] at h1
          injection h1 with h1
          subst h1
          exact absurd (by rw [ht, h2]) he
      have HM := Lib.hid (num_none hn)
      rw [← hcv, ← hcb] at HM
      have hse := str_ne he
      clear hp hn h hcv hcb ht he hbd
      go_enter Tryd.func13, Tryd.ntmps13
      go_wp2_with fail
      refine PC.out.mono ?_
      rintro e w2 ⟨rfl, hw⟩
      have HB := Lib.hid (show Below w.heap.size w w2 by
        rcases hw with rfl | ⟨t, rfl⟩
        · exact Below.refl _ _
        · exact bytesWorld_below _ _ _)
      clear hw
      go_wp2_with fail
      refine (FC w2 (HS.out.below HB.out (Nat.le_refl _))).out.mono ?_
      rintro e w3 ⟨rfl, k, os, hw3⟩
      have HB3 := Lib.hid (show Below w.heap.size w w3 by rw [hw3]; exact HB.out.trans (below_grow _ _ HB.out.size _ _))
      clear hw3
      go_wp2_with fail
      go_returns
      exact ⟨ret_two HM.out.1 HM.out.2, HB3.out⟩
end Go.Proofs.YtoemnccklakkeaaDoor
