/-
  Errors as plain data: the sentinels, and how an error is found among them.
-/
import Derived.Test.YtoemnccklakkeaaDoorRdL
import Derived.Deep.RegionHeld3
import Derived.LaidEql
namespace Go.Proofs.YtoemnccklakkeaaDoor
open Go.RowKit Go.Lib
set_option linter.unusedVariables false

/-- The sentinels' variables, in their order. -/
def seeG : List Nat := [8, 9, 7, 2, 6, 10, 11, 12, 13,
  14, 0, 1, 15, 16, 17, 18, 19]
/-- All of api's errors lie where they are told to, each in a place of its own. -/
structure SeesAt (w : World) (ea : Nat → Addr) : Prop where
  at_ : ∀ k, k < 17 → w.cell? ⟨seeG.getD k 0, 0, none⟩ = some (.iface 142 (.pointer (some (ea (101 + k)))))
  row : ∀ k, k < 17 → ∃ c t, w.heap[(ea (101 + k)).block]? = some (.cells c t (0, 0))
  apart : ∀ i j, i < 17 → j < 17 → ea (101 + i) = ea (101 + j) → i = j
  room : 24 < w.heap.size

theorem seeG_small : ∀ k : Fin 17, seeG.getD k.val 0 < 24 := by decide
theorem SeesAt.below {w w' : World} {ea : Nat → Addr} (h : SeesAt w ea) (hb : Below w.heap.size w w') : SeesAt w' ea := by
  have hlt : ∀ k, k < 17 → (ea (101 + k)).block < w.heap.size := fun k hk => by
    obtain ⟨c, t, h1⟩ := h.row k hk
    rcases Nat.lt_or_ge (ea (101 + k)).block w.heap.size with hlt | hge
    · exact hlt
    · rw [Array.getElem?_eq_none hge] at h1; cases h1
  have hroom := h.room
  refine ⟨fun k hk => ?_, fun k hk => ?_, h.apart, by have := hb.size; omega⟩
  · have hs := seeG_small ⟨k, hk⟩
    simp only at hs
    exact (World.cell?_of_block (w := w) (hb.block (seeG.getD k 0) (by omega))).trans (h.at_ k hk)
  · obtain ⟨c, t, h1⟩ := h.row k hk
    exact ⟨c, t, (hb.block _ (hlt k hk)).trans h1⟩
theorem SeesAt.errs {w : World} {ea : Nat → Addr} (h : SeesAt w ea) : ErrsAt w ea :=
  ⟨h.at_ 10 (by decide), h.at_ 11 (by decide), h.at_ 3 (by decide), h.at_ 4 (by decide), h.at_ 2 (by decide), h.room⟩

theorem info_part {P : Program} {t : TypeId} {α : Type} {f : TypeInfo → α} {b : α} (h : (P.info? t).map f = some b) : ∃ i, P.info? t = some i ∧ f i = b := by
  cases hq : P.info? t with
  | none => rw [hq] at h; cases h
  | some i => rw [hq] at h; exact ⟨i, rfl, Option.some.inj h⟩

set_option maxRecDepth 100000 in
set_option maxHeartbeats 400000 in
theorem alike_yes (a : Addr) (w : World) :
    Calls Tryd.prog 108 #[.iface 142 (.pointer (some a)), .iface 142 (.pointer (some a))] w fun e w' => e = .returned (.bool true) ∧ w = w' := by
  obtain ⟨i, hi, hic⟩ := info_part (P := Tryd.prog) (t := 142) (f := fun i => i.comparable) (b := true) (by kernel_rfl)
  obtain ⟨j, hj, hjc⟩ := info_part (P := Tryd.prog) (t := 144) (f := fun i => i.size) (b := 1) (by kernel_rfl)
  have he := run_eql_iface_ptr_same (P := Tryd.prog) (ti := 33) w a Tryd.underlying33 Tryd.underlying142 hi hic hj
  clear hi hic hj hjc
  go_enter Tryd.func108, Tryd.ntmps108
  go_wp2
  go_ret
  exact ⟨rfl, rfl⟩
set_option maxRecDepth 100000 in
set_option maxHeartbeats 400000 in
theorem alike_no (a b : Addr) (w : World) {ca cb : Array Value} {ta tb : TypeId} (hne : a ≠ b) (ha : w.heap[a.block]? = some (.cells ca ta (0, 0))) (hb : w.heap[b.block]? = some (.cells cb tb (0, 0))) :
    Calls Tryd.prog 108 #[.iface 142 (.pointer (some a)), .iface 142 (.pointer (some b))] w fun e w' => e = .returned (.bool false) ∧ w = w' := by
  obtain ⟨i, hi, hic⟩ := info_part (P := Tryd.prog) (t := 142) (f := fun i => i.comparable) (b := true) (by kernel_rfl)
  obtain ⟨j, hj, hjc⟩ := info_part (P := Tryd.prog) (t := 144) (f := fun i => i.size) (b := 1) (by kernel_rfl)
  have he := run_eql_iface_ptr_other (P := Tryd.prog) (ti := 33) w Tryd.underlying33 Tryd.underlying142 hi hic hj (by rw [hjc]; decide) hne ha hb
  clear ha hb hne hi hic hj hjc
  go_enter Tryd.func108, Tryd.ntmps108
  go_wp2
  go_ret
  exact ⟨rfl, rfl⟩

/-- The sentinels in a row. -/
def seeV (ea : Nat → Addr) : Array Value := #[.iface 142 (.pointer (some (ea 101))), .iface 142 (.pointer (some (ea 102))), .iface 142 (.pointer (some (ea 103))), .iface 142 (.pointer (some (ea 104))), .iface 142 (.pointer (some (ea 105))),
  .iface 142 (.pointer (some (ea 106))), .iface 142 (.pointer (some (ea 107))), .iface 142 (.pointer (some (ea 108))), .iface 142 (.pointer (some (ea 109))), .iface 142 (.pointer (some (ea 110))), .iface 142 (.pointer (some (ea 111))),
  .iface 142 (.pointer (some (ea 112))), .iface 142 (.pointer (some (ea 113))), .iface 142 (.pointer (some (ea 114))), .iface 142 (.pointer (some (ea 115))), .iface 142 (.pointer (some (ea 116))), .iface 142 (.pointer (some (ea 117)))]
theorem seeV_get (ea : Nat → Addr) : ∀ k, k < 17 → (seeV ea)[k]? = some (.iface 142 (.pointer (some (ea (101 + k))))) := by
  intro k hk
  match k, hk with
  | 0, _ | 1, _ | 2, _ | 3, _ | 4, _ | 5, _ | 6, _ | 7, _ | 8, _ | 9, _ | 10, _ | 11, _ | 12, _ | 13, _ | 14, _ | 15, _ | 16, _ => rfl
  | n + 17, h => exact absurd h (by omega)
set_option maxRecDepth 100000 in
set_option maxHeartbeats 1000000 in
theorem sentinels_c (ea : Nat → Addr) (w : World) (h : SeesAt w ea) :
    Calls Tryd.prog 107 #[] w fun e w' => e = .returned (.slice (some ⟨w.heap.size, 0, none⟩) 17 17) ∧ w' = w.alloc (.cells (seeV ea) 33) := by
  have h0 := h.at_ 0 (by decide); have h1 := h.at_ 1 (by decide); have h2 := h.at_ 2 (by decide); have h3 := h.at_ 3 (by decide); have h4 := h.at_ 4 (by decide); have h5 := h.at_ 5 (by decide)
  have h6 := h.at_ 6 (by decide); have h7 := h.at_ 7 (by decide); have h8 := h.at_ 8 (by decide); have h9 := h.at_ 9 (by decide); have h10 := h.at_ 10 (by decide); have h11 := h.at_ 11 (by decide)
  have h12 := h.at_ 12 (by decide); have h13 := h.at_ 13 (by decide); have h14 := h.at_ 14 (by decide); have h15 := h.at_ 15 (by decide); have h16 := h.at_ 16 (by decide)
  simp only [seeG, List.getD_cons_zero, List.getD_cons_succ] at h0 h1 h2 h3 h4 h5 h6 h7 h8 h9 h10 h11 h12 h13 h14 h15 h16
  clear h
  go_enter Tryd.func107, Tryd.ntmps107
  go_wp2
  go_ret
  exact ⟨rfl, rfl⟩

set_option maxRecDepth 100000 in
set_option maxHeartbeats 2000000 in
theorem sentinel_c (ea : Nat → Addr) (c : Nat) (w : World) (h : SeesAt w ea) (hc : c < 17) :
    Calls Tryd.prog 92 #[.iface 142 (.pointer (some (ea (101 + c))))] w fun e w' => e = .returned (.int .i64 (101 + (c : Int))) ∧ Below w.heap.size w w' := by
  have hs := sentinels_c ea w h
  obtain ⟨w1, hw1⟩ : ∃ w1, w1 = w.alloc (.cells (seeV ea) 33) := ⟨_, rfl⟩
  have hb1 : Below w.heap.size w w1 := by rw [hw1]; exact (Below.refl _ _).alloc (Nat.le_refl _) _
  have h1 := h.below hb1
  have hcell : ∀ k, k < 17 → w1.cell? ⟨w.heap.size, k, none⟩ = some (.iface 142 (.pointer (some (ea (101 + k))))) := by
    intro k hk
    rw [hw1, World.cell?_alloc_at _ _ _ _ rfl]
    exact seeV_get ea k hk
  rw [← hw1] at hs
  have SC := Lib.hid (hs.mono (fun e w' ⟨he, hw⟩ => (⟨he, hw.symm⟩ : e = _ ∧ w1 = w')))
  have HC := Lib.hid hcell
  have HB := Lib.hid hb1
  have H1 := Lib.hid h1
  have AY := Lib.hid (alike_yes (ea (101 + c)) w1)
  have AN := Lib.hid (fun k (hk : k < 17) (hne : c ≠ k) => by
    obtain ⟨ca, ta, ha⟩ := h1.row c hc
    obtain ⟨cb, tb, hb⟩ := h1.row k hk
    exact alike_no (ea (101 + c)) (ea (101 + k)) w1 (fun e => hne (h1.apart c k hc hk e)) ha hb)
  clear hs hb1 h1 hcell h
  go_enter Tryd.func92, Tryd.ntmps92
  go_wp2_with fail
  refine SC.out.mono ?_
  rintro e w' ⟨rfl, rfl⟩
  clear SC hw1
  go_wp2_with fail
  go_loop [4] (fun i => ∃ k : Nat, k ≤ c ∧ i = .int .i64 k) (fun i => 17 - (intOf i).toNat)
  case atStart => exact ⟨0, Nat.zero_le _, rfl⟩
  case round =>
    obtain ⟨k, hk, rfl⟩ := hrel
    have hk17 : k < 17 := by omega
    have hcell := HC.out k hk17
    by_cases hlt : c = k
    · subst hlt
      have ht : ((101 : Int) + (c : Int)) ≤ 117 := by omega
      go_wp2_with fail
      refine AY.out.mono ?_
      rintro e w' ⟨rfl, rfl⟩
      go_wp2_with fail
      go_ret
      exact ⟨rfl, HB.out⟩
    · have AN1 := Lib.hid (AN.out k hk17 hlt)
      have hk2 : k + 1 ≤ c := by omega
      clear hlt
      go_wp2_with fail
      refine AN1.out.mono ?_
      rintro e w' ⟨rfl, rfl⟩
      go_wp2_with fail
      go_round
      case rel => exact ⟨k + 1, hk2, by go_num⟩
      case measure => simp [intOf]; omega
end Go.Proofs.YtoemnccklakkeaaDoor
