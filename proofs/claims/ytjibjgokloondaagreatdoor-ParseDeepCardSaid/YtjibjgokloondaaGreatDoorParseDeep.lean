/-
  PROVED: for every number, ParseDeep returns true: brackets in brackets are read to 100 as what stands in them, and beyond 160 are told.
  CONDITIONS: none besides the given statement's own.
-/
import Derived.Test.YtjibjgokloondaaGreatDoorParZ
namespace Go.Proofs.YtjibjgokloondaaGreatDoor
open Go.ChangeShapes Go.WideShapes Go.ChangeAt Go.RowKit Go.Lib
open Go.ChangeMaps (open_string shut_string)
set_option linter.unusedVariables false

set_option maxRecDepth 1000000 in
theorem pd_laid {W : World} (h : laidMetH Tryz.prog Rows.parseDeepRow.laid W) (hs : W.ShapedOpen Tryz.prog) : (∃ ea, SeesAt W ea) ∧ StrcAt W ∧ SpaceAt W := by
  rw [MakeChecks.laidMetH_plain _ _ _ (by kernel_rfl)] at h
  have hr := room_of hs
  obtain ⟨a4, h4⟩ := sent_at 20 h.tail.tail.tail (by kernel_rfl) (by kernel_rfl)
  obtain ⟨a3, h3⟩ := sent_at 19 h.tail.tail.tail.tail (by kernel_rfl) (by kernel_rfl)
  have ht : TabIs Tryz.prog W "internal/strconv.uint64pow10" .u64 pow10Tab := tabIs_of_head (g := 21) (by kernel_rfl) (by kernel_rfl) Tryz.underlying214 Tryz.underlying166 (by kernel_rfl) (by kernel_rfl) h.tail.tail
  have hsp : SpaceAt W := tabIs_of_head (g := 17) (by kernel_rfl) (by kernel_rfl) Tryz.underlying136 Tryz.underlying5 (by kernel_rfl) (by kernel_rfl) h.tail.tail.tail.tail.tail.tail.tail.tail.tail.tail.tail.tail.tail.tail.tail.tail.tail.tail.tail.tail.tail.tail.tail
  have hse := sees_of [("inglenook/api.ErrEnd", Rows.laid_inglenook_api_ErrEnd, 4), ("inglenook/api.ErrSum", Rows.laid_inglenook_api_ErrSum, 5), ("inglenook/api.ErrShape", Rows.laid_inglenook_api_ErrShape, 6), ("inglenook/api.ErrMany", Rows.laid_inglenook_api_ErrMany, 0), ("inglenook/api.ErrRange", Rows.laid_inglenook_api_ErrRange, 3), ("inglenook/api.ErrName", Rows.laid_inglenook_api_ErrName, 7), ("inglenook/api.ErrNone", Rows.laid_inglenook_api_ErrNone, 8), ("inglenook/api.ErrThere", Rows.laid_inglenook_api_ErrThere, 9), ("inglenook/api.ErrFull", Rows.laid_inglenook_api_ErrFull, 10), ("inglenook/api.ErrCrash", Rows.laid_inglenook_api_ErrCrash, 11), ("inglenook/api.ErrSyntax", Rows.laid_inglenook_api_ErrSyntax, 1), ("inglenook/api.ErrDeep", Rows.laid_inglenook_api_ErrDeep, 2), ("inglenook/api.ErrTicks", Rows.laid_inglenook_api_ErrTicks, 12), ("inglenook/api.ErrWaits", Rows.laid_inglenook_api_ErrWaits, 13), ("inglenook/api.ErrClosed", Rows.laid_inglenook_api_ErrClosed, 14), ("inglenook/api.ErrWord", Rows.laid_inglenook_api_ErrWord, 15), ("inglenook/api.ErrNumber", Rows.laid_inglenook_api_ErrNumber, 16)] [("unicode.White_Space", Rows.laid_unicode_White_Space), ("strings.asciiSpace", Rows.laid_strings_asciiSpace)] h.tail.tail.tail.tail.tail rfl (by
    intro x hx
    simp only [List.mem_cons, List.not_mem_nil, or_false] at hx
    rcases hx with rfl | rfl | rfl | rfl | rfl | rfl | rfl | rfl | rfl | rfl | rfl | rfl | rfl | rfl | rfl | rfl | rfl <;> exact ⟨⟨_, rfl⟩, by kernel_rfl, by kernel_rfl⟩) hr
  exact ⟨hse, ⟨⟨_, _, h3⟩, ⟨_, _, h4⟩, ht, hr⟩, hsp⟩

theorem pd_door (os : Os) (args : Array Value) : laidMetH Tryz.prog Rows.parseDeepRow.laid ((World.laidAll Tryz.prog os Rows.parseDeepRow.laid).forCall (fun _ _ => 0) ⟨#[], args, []⟩).memory := by
  rw [MakeChecks.laidMetH_plain _ _ _ (by kernel_rfl)]; exact laidMet_laidAll _ (by kernel_rfl) (by kernel_rfl)

set_option maxRecDepth 100000 in
theorem pd_lifted (os : Os) (started : os.Started) (H : Type) (enc : TypeId × Value → H) :
    ReturnsInHanded {} Tryz.checked os 6 .any (fun w args => (Rows.parseDeepSpec.pre enc Tryz.prog Tryz.f6 [] false w args ∧ laidMetH Tryz.prog Rows.parseDeepRow.laid w) ∧ sizedMet enc Tryz.prog Tryz.f6 (OpenSpec.ofChange Rows.parseDeepSpec) false w args)
      (Rows.parseDeepSpec.post enc Tryz.prog Tryz.f6 false true false false) := by
  refine handed_and_shaped (C := Tryz.checked) (X := fun w _ => laidMetH Tryz.prog Rows.parseDeepRow.laid w) (fun _ _ _ hh h => h.of_heap hh) own_knob started (by kernel_rfl) Tryz.func6
    (ChangeSpec.witness_shaped (enc := enc) (C := Tryz.checked) (os := os) (X := fun w _ => laidMetH Tryz.prog Rows.parseDeepRow.laid w) false (World.laidAll Tryz.prog os Rows.parseDeepRow.laid) #[.int .i64 0] 8 (World.laidAll_os _ _ _) (World.shaped_of_ZipB (by kernel_rfl) (by kernel_rfl)) (by kernel_rfl) (by kernel_rfl) (by kernel_rfl) (pd_door os _)) ?_
  intro W base args ds gs before hval0 hW hwt hL hS
  have hval : ∀ (j : Nat) t v, Tryz.f6.params[j]? = some t → args[j]? = some v → Value.okWide Tryz.prog W .any base t v := hval0
  have hW' := hW
  obtain ⟨p, q, hA0, hV, rfl, hfz, hnd⟩ := hW
  have hA : DataW.TrodAll enc Tryz.prog W 0 (fun _ => true) true Tryz.f6.params.toList args.toList ds p := hA0
  rw [Tryz.params6] at hA hval
  obtain ⟨v0, vs0, d0, ds0, p0, q0, hargs, rfl, rfl, h0, r0⟩ := trodAll_cons hA
  obtain ⟨rfl, rfl, rfl⟩ := trodAll_nil r0
  obtain rfl : args = #[v0] := by cases args; simp_all
  obtain ⟨rfl, rfl⟩ := trodVars_none hV
  obtain ⟨a0, rfl, rfl, rfl, w0⟩ := open_int Tryz.underlying3 (hval 0 3 v0 rfl rfl) h0
  have hr0 := i64_range w0
  clear hA0 hval0
  simp only [List.append_nil] at hW'
  obtain ⟨⟨ea, hse⟩, hst, hsp⟩ := pd_laid hL hS
  refine (parseDeep_c a0 ea W hr0.1 hr0.2 hse hst hsp).mono fun e W' ⟨he, hb⟩ => ?_
  subst he
  exact ⟨_, rfl, _, _, _, [], [], [], hW', (trodAll_cons_mk (shut_bool Tryz.underlying4 _) trodAll_mk0), (trodAll_cons_mk (shut_int Tryz.underlying3 w0) trodAll_mk0), rfl, hb.frame _, fun h => by cases h⟩

theorem parseDeep_holds : Rows.ParseDeepSaid :=
  OpenClaim.holds_of_wide 6 Tryz.f6 rfl rfl rfl rfl rfl rfl rfl ⟨rfl, rfl, rfl, rfl, rfl⟩ rfl rfl rfl rfl rfl (by kernel_rfl) Tryz.func6 (by kernel_rfl)
    (of_decide_eq_true (by kernel_rfl)) (by unfold Func.isWrapper; first | (rw [if_pos (by decide +kernel)]; kernel_rfl) | (rw [if_neg (by decide +kernel)]; exact ⟨rfl, rfl⟩))
    (fun os started H enc _ => pd_lifted os started H enc)

/-- THE TIED CARD. -/
theorem parseDeep_card : Rows.ParseDeepCardSaid :=
  Claim7.holds_tied_plain_at .later [] [.data, .data, .data, .sentinel, .sentinel, .sentinel, .sentinel, .sentinel, .sentinel, .sentinel, .sentinel, .sentinel, .sentinel, .sentinel, .sentinel, .sentinel, .sentinel, .sentinel, .sentinel, .sentinel, .sentinel, .sentinel, .listed, .data] true (true, "42566b0fd39c7d7827a0f32089d5a2801fea0e51768b276f175f458dceab9b5f") true
    parseDeep_holds (fun _ h => by cases h) (by kernel_rfl) (fun _ h => by cases h) parseDeep_row_tie rfl ⟨rfl, rfl⟩ (by kernel_rfl) rfl
    (fun f fn hf hfn => by
      obtain rfl : f = 6 := Option.some.inj ((show Tryz.prog.funcNamed "inglenook/inglenooklaw9.ParseDeep" = some 6 by kernel_rfl).symm.trans hf) |>.symm
      obtain rfl : fn = Tryz.f6 := (Option.some.inj (Tryz.func6.symm.trans hfn)).symm
      exact ⟨by kernel_rfl, fun j t ht => by
        rw [Tryz.params6] at ht
        have h3 : t = 3 := by
          rcases j with _ | j
          · simpa using ht.symm
          · simp at ht
        rcases h3 with rfl
        · exact (show Tryz.prog.wantsStandIn 3 = false by kernel_rfl)
        ⟩)
    (by kernel_rfl)
#print axioms parseDeep_card
end Go.Proofs.YtjibjgokloondaaGreatDoor
