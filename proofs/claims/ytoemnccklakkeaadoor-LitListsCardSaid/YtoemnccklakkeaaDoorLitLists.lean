/-
  PROVED: for every list of values and every place, LitLists returns true: the text of a list is its items' texts with commas between; cut off anywhere it is none, and it is told where.
  CONDITIONS: none besides the given statement's own.
-/
import Derived.Test.YtoemnccklakkeaaDoorCtL
import Derived.Test.YtoemnccklakkeaaDoorFrm
import Derived.Test.YtoemnccklakkeaaDoorArgV
import Derived.Test.YtoemnccklakkeaaDoorSeL
namespace Go.Proofs.YtoemnccklakkeaaDoor
open Go.ChangeShapes Go.WideShapes Go.ChangeAt Go.RowKit Go.Lib
open Go.ChangeMaps (open_string shut_string)
set_option linter.unusedVariables false

theorem lists_laid {W : World} (h : laidMetH Tryd.prog Rows.litListsRow.laid W) (hs : W.ShapedOpen Tryd.prog) : (∃ ea, SeesAt W ea) ∧ TxAt W := by
  rw [MakeChecks.laidMetH_plain _ _ _ (by kernel_rfl)] at h
  have hr := room_of hs
  have ht : TabIs Tryd.prog W "internal/strconv.uint64pow10" .u64 pow10Tab := tabIs_of_head (g := 5) (by kernel_rfl) (by kernel_rfl) Tryd.underlying132 Tryd.underlying61 (by kernel_rfl) (by kernel_rfl) h.tail.tail
  have hse := sees_of [("inglenook/api.ErrEnd", Rows.laid_inglenook_api_ErrEnd, 8), ("inglenook/api.ErrSum", Rows.laid_inglenook_api_ErrSum, 9), ("inglenook/api.ErrShape", Rows.laid_inglenook_api_ErrShape, 7), ("inglenook/api.ErrMany", Rows.laid_inglenook_api_ErrMany, 2), ("inglenook/api.ErrRange", Rows.laid_inglenook_api_ErrRange, 6), ("inglenook/api.ErrName", Rows.laid_inglenook_api_ErrName, 10), ("inglenook/api.ErrNone", Rows.laid_inglenook_api_ErrNone, 11), ("inglenook/api.ErrThere", Rows.laid_inglenook_api_ErrThere, 12), ("inglenook/api.ErrFull", Rows.laid_inglenook_api_ErrFull, 13), ("inglenook/api.ErrCrash", Rows.laid_inglenook_api_ErrCrash, 14), ("inglenook/api.ErrSyntax", Rows.laid_inglenook_api_ErrSyntax, 0), ("inglenook/api.ErrDeep", Rows.laid_inglenook_api_ErrDeep, 1), ("inglenook/api.ErrTicks", Rows.laid_inglenook_api_ErrTicks, 15), ("inglenook/api.ErrWaits", Rows.laid_inglenook_api_ErrWaits, 16), ("inglenook/api.ErrClosed", Rows.laid_inglenook_api_ErrClosed, 17), ("inglenook/api.ErrWord", Rows.laid_inglenook_api_ErrWord, 18), ("inglenook/api.ErrNumber", Rows.laid_inglenook_api_ErrNumber, 19)] [("unicode/utf8.first", Rows.laid_unicode_utf8_first)] h.tail.tail.tail.tail rfl (by
    intro x hx
    simp only [List.mem_cons, List.not_mem_nil, or_false] at hx
    rcases hx with rfl | rfl | rfl | rfl | rfl | rfl | rfl | rfl | rfl | rfl | rfl | rfl | rfl | rfl | rfl | rfl | rfl <;> exact ⟨⟨_, rfl⟩, by kernel_rfl, by kernel_rfl⟩) hr
  exact ⟨hse, ⟨ht, hr, Tryd.laysM155.s1_3 W hs⟩⟩

theorem lists_door (os : Os) (args : Array Value) : laidMetH Tryd.prog Rows.litListsRow.laid ((World.laidAll Tryd.prog os Rows.litListsRow.laid).forCall (fun _ _ => 0) ⟨#[], args, []⟩).memory := by
  rw [MakeChecks.laidMetH_plain _ _ _ (by kernel_rfl)]; exact laidMet_laidAll _ (by kernel_rfl) (by kernel_rfl)

set_option maxRecDepth 100000 in
theorem lists_lifted (os : Os) (started : os.Started) (H : Type) (enc : TypeId × Value → H) :
    ReturnsInHanded {} Tryd.checked os 7 .any (fun w args => (Rows.litListsSpec.pre enc Tryd.prog Tryd.f7 [] false w args ∧ laidMetH Tryd.prog Rows.litListsRow.laid w) ∧ sizedMet enc Tryd.prog Tryd.f7 (OpenSpec.ofChange Rows.litListsSpec) false w args)
      (Rows.litListsSpec.post enc Tryd.prog Tryd.f7 false true false false) := by
  refine handed_and_shaped (C := Tryd.checked) (X := fun w _ => laidMetH Tryd.prog Rows.litListsRow.laid w) (fun _ _ _ hh h => h.of_heap hh) own_knob started (by kernel_rfl) Tryd.func7
    (ChangeSpec.witness_shaped (enc := enc) (C := Tryd.checked) (os := os) (X := fun w _ => laidMetH Tryd.prog Rows.litListsRow.laid w) false (World.laidAll Tryd.prog os Rows.litListsRow.laid) #[.slice none 0 0, .int .i64 0] 8 (World.laidAll_os _ _ _) (World.shaped_of_ZipB (by kernel_rfl) (by kernel_rfl)) (by kernel_rfl) (by kernel_rfl) (by kernel_rfl) (lists_door os _)) ?_
  intro W base args ds gs before hval0 hW hwt hL hS
  have hval : ∀ (j : Nat) t v, Tryd.f7.params[j]? = some t → args[j]? = some v → Value.okWide Tryd.prog W .any base t v := hval0
  have hW' := hW
  obtain ⟨p, q, hA0, hV, rfl, hfz, hnd⟩ := hW
  have hA : DataW.TrodAll enc Tryd.prog W 0 (fun _ => true) true Tryd.f7.params.toList args.toList ds p := hA0
  rw [Tryd.params7] at hA hval
  obtain ⟨v0, vs0, d0, ds0, p0, q0, hargs, rfl, rfl, h0, r0⟩ := trodAll_cons hA
  obtain ⟨v1, vs1, d1, ds1, p1, q1, rfl, rfl, rfl, h1, r1⟩ := trodAll_cons r0
  obtain ⟨rfl, rfl, rfl⟩ := trodAll_nil r1
  obtain rfl : args = #[v0, v1] := by cases args; simp_all
  obtain ⟨rfl, rfl⟩ := trodVars_none hV
  have hq : (DataW.weightsEach Tryd.prog [29, 3] [d0, d1]).all (· ≤ reachBytes) = true := hwt
  obtain ⟨hq0, hq⟩ := weights_head hq
  obtain ⟨hq1, hq⟩ := weights_head hq
  have hk0 := h0
  obtain ⟨sub0, sa0, sc0, rfl, hfit0, h640, hln0, hsc0, hrep0⟩ := open_values (cells_slice Tryd.underlying29 (hval 0 29 v0 rfl rfl)) h0 hq0
  obtain ⟨a1, rfl, rfl, rfl, w1⟩ := open_int Tryd.underlying3 (hval 1 3 v1 rfl rfl) h1
  have hr1 := i64_range w1
  clear hA0 hval0
  simp only [List.append_nil] at hW'
  obtain ⟨⟨ea, hse⟩, htx⟩ := lists_laid hL hS
  refine (litLists_c sub0 sa0 sc0 a1 ea W hfit0 h640 hln0 hsc0 hrep0 hr1.1 hr1.2 hse htx).mono fun e W' ⟨he, hb⟩ => ?_
  subst he
  exact ⟨_, rfl, _, _, _, [], _, [], hW', (trodAll_cons_mk (shut_bool Tryd.underlying4 _) trodAll_mk0), (trodAll_cons_mk (Below.trod laid_out (by kernel_rfl) (of_decide_eq_true (by kernel_rfl)) hk0 hb (fun x hx => hW'.lt x (by simp [hx]))) (trodAll_cons_mk (shut_int Tryd.underlying3 w1) trodAll_mk0)), rfl, hb.frame _, fun h => by cases h⟩

theorem litLists_holds : Rows.LitListsSaid :=
  OpenClaim.holds_of_wide 7 Tryd.f7 rfl rfl rfl rfl rfl rfl rfl ⟨rfl, rfl, rfl, rfl, rfl⟩ rfl rfl rfl rfl rfl (by kernel_rfl) Tryd.func7 (by kernel_rfl)
    (of_decide_eq_true (by kernel_rfl)) (by unfold Func.isWrapper; first | (rw [if_pos (by decide +kernel)]; kernel_rfl) | (rw [if_neg (by decide +kernel)]; exact ⟨rfl, rfl⟩))
    (fun os started H enc _ => lists_lifted os started H enc)

/-- THE TIED CARD. -/
theorem litLists_card : Rows.LitListsCardSaid :=
  Claim7.holds_tied_plain_at .later [] [.data, .data, .data, .data, .sentinel, .sentinel, .sentinel, .sentinel, .sentinel, .sentinel, .sentinel, .sentinel, .sentinel, .sentinel, .sentinel, .sentinel, .sentinel, .sentinel, .sentinel, .sentinel, .sentinel, .pinned] true (true, "22319db88f70a56ce4b2bad35f7018789af83f993724aae3bdd95c772fdcf8c5") true
    litLists_holds (fun _ h => by cases h) (by kernel_rfl) (fun _ h => by cases h) litLists_row_tie rfl ⟨rfl, rfl⟩ (by kernel_rfl) rfl
    (fun f fn hf hfn => by
      obtain rfl : f = 7 := Option.some.inj ((show Tryd.prog.funcNamed "inglenook/inglenooklaw2.LitLists" = some 7 by kernel_rfl).symm.trans hf) |>.symm
      obtain rfl : fn = Tryd.f7 := (Option.some.inj (Tryd.func7.symm.trans hfn)).symm
      exact ⟨by kernel_rfl, fun j t ht => by
        rw [Tryd.params7] at ht
        have h3 : t = 29 ∨ t = 3 := by
          rcases j with _ | _ | j
          · left; simpa using ht.symm
          · right; simpa using ht.symm
          · simp at ht
        rcases h3 with rfl | rfl
        · exact (show Tryd.prog.wantsStandIn 29 = false by kernel_rfl)
        · exact (show Tryd.prog.wantsStandIn 3 = false by kernel_rfl)
        ⟩)
    (by kernel_rfl)
#print axioms litLists_card
end Go.Proofs.YtoemnccklakkeaaDoor
