/-
  PROVED: for every number, ParseWays returns true: $x is #0.x, names may be worked out, a Catch takes any, or some, brackets change nothing.
  CONDITIONS: none besides the given statement's own.
-/
import Derived.Test.YtggngahmafbihaaGreatDoorPwyR
namespace Go.Proofs.YtggngahmafbihaaGreatDoor
open Go.ChangeShapes Go.WideShapes Go.ChangeAt Go.RowKit Go.Lib
open Go.ChangeMaps (open_string shut_string)
set_option linter.unusedVariables false

set_option maxRecDepth 1000000 in
theorem pw_laid {W : World} (h : laidMetH Tryz.prog Rows.parseWaysRow.laid W) (hs : W.ShapedOpen Tryz.prog) : (∃ ea, SeesAt W ea) ∧ StrcAt W ∧ SpaceAt W := by
  rw [MakeChecks.laidMetH_plain _ _ _ (by kernel_rfl)] at h
  have hr := room_of hs
  obtain ⟨a4, h4⟩ := sent_at 22 h.tail.tail.tail (by kernel_rfl) (by kernel_rfl)
  obtain ⟨a3, h3⟩ := sent_at 21 h.tail.tail.tail.tail (by kernel_rfl) (by kernel_rfl)
  have ht : TabIs Tryz.prog W "internal/strconv.uint64pow10" .u64 pow10Tab := tabIs_of_head (g := 20) (by kernel_rfl) (by kernel_rfl) Tryz.underlying239 Tryz.underlying154 (by kernel_rfl) (by kernel_rfl) h.tail.tail
  have hsp : SpaceAt W := tabIs_of_head (g := 17) (by kernel_rfl) (by kernel_rfl) Tryz.underlying198 Tryz.underlying5 (by kernel_rfl) (by kernel_rfl) h.tail.tail.tail.tail.tail.tail.tail.tail.tail.tail.tail.tail.tail.tail.tail.tail.tail.tail.tail.tail.tail.tail.tail
  have hse := sees_of [("inglenook/api.ErrEnd", Rows.laid_inglenook_api_ErrEnd, 4), ("inglenook/api.ErrSum", Rows.laid_inglenook_api_ErrSum, 5), ("inglenook/api.ErrShape", Rows.laid_inglenook_api_ErrShape, 6), ("inglenook/api.ErrMany", Rows.laid_inglenook_api_ErrMany, 0), ("inglenook/api.ErrRange", Rows.laid_inglenook_api_ErrRange, 3), ("inglenook/api.ErrName", Rows.laid_inglenook_api_ErrName, 7), ("inglenook/api.ErrNone", Rows.laid_inglenook_api_ErrNone, 8), ("inglenook/api.ErrThere", Rows.laid_inglenook_api_ErrThere, 9), ("inglenook/api.ErrFull", Rows.laid_inglenook_api_ErrFull, 10), ("inglenook/api.ErrCrash", Rows.laid_inglenook_api_ErrCrash, 11), ("inglenook/api.ErrSyntax", Rows.laid_inglenook_api_ErrSyntax, 1), ("inglenook/api.ErrDeep", Rows.laid_inglenook_api_ErrDeep, 2), ("inglenook/api.ErrTicks", Rows.laid_inglenook_api_ErrTicks, 12), ("inglenook/api.ErrWaits", Rows.laid_inglenook_api_ErrWaits, 13), ("inglenook/api.ErrClosed", Rows.laid_inglenook_api_ErrClosed, 14), ("inglenook/api.ErrWord", Rows.laid_inglenook_api_ErrWord, 15), ("inglenook/api.ErrNumber", Rows.laid_inglenook_api_ErrNumber, 16)] [("unicode.White_Space", Rows.laid_unicode_White_Space), ("strings.asciiSpace", Rows.laid_strings_asciiSpace)] h.tail.tail.tail.tail.tail rfl (by
    intro x hx
    simp only [List.mem_cons, List.not_mem_nil, or_false] at hx
    rcases hx with rfl | rfl | rfl | rfl | rfl | rfl | rfl | rfl | rfl | rfl | rfl | rfl | rfl | rfl | rfl | rfl | rfl <;> exact ⟨⟨_, rfl⟩, by kernel_rfl, by kernel_rfl⟩) hr
  exact ⟨hse, ⟨⟨_, _, h3⟩, ⟨_, _, h4⟩, ht, hr⟩, hsp⟩

theorem pw_door (os : Os) (args : Array Value) : laidMetH Tryz.prog Rows.parseWaysRow.laid ((World.laidAll Tryz.prog os Rows.parseWaysRow.laid).forCall (fun _ _ => 0) ⟨#[], args, []⟩).memory := by
  rw [MakeChecks.laidMetH_plain _ _ _ (by kernel_rfl)]; exact laidMet_laidAll _ (by kernel_rfl) (by kernel_rfl)

set_option maxRecDepth 100000 in
theorem pw_lifted (os : Os) (started : os.Started) (H : Type) (enc : TypeId × Value → H) :
    ReturnsInHanded {} Tryz.checked os 4 .any (fun w args => (Rows.parseWaysSpec.pre enc Tryz.prog Tryz.f4 [] false w args ∧ laidMetH Tryz.prog Rows.parseWaysRow.laid w) ∧ sizedMet enc Tryz.prog Tryz.f4 (OpenSpec.ofChange Rows.parseWaysSpec) false w args)
      (Rows.parseWaysSpec.post enc Tryz.prog Tryz.f4 false true false false) := by
  refine handed_and_shaped (C := Tryz.checked) (X := fun w _ => laidMetH Tryz.prog Rows.parseWaysRow.laid w) (fun _ _ _ hh h => h.of_heap hh) own_knob started (by kernel_rfl) Tryz.func4
    (ChangeSpec.witness_shaped (enc := enc) (C := Tryz.checked) (os := os) (X := fun w _ => laidMetH Tryz.prog Rows.parseWaysRow.laid w) false (World.laidAll Tryz.prog os Rows.parseWaysRow.laid) #[.int .i64 0] 8 (World.laidAll_os _ _ _) (World.shaped_of_ZipB (by kernel_rfl) (by kernel_rfl)) (by kernel_rfl) (by kernel_rfl) (by kernel_rfl) (pw_door os _)) ?_
  intro W base args ds gs before hval0 hW hwt hL hS
  have hval : ∀ (j : Nat) t v, Tryz.f4.params[j]? = some t → args[j]? = some v → Value.okWide Tryz.prog W .any base t v := hval0
  have hW' := hW
  obtain ⟨p, q, hA0, hV, rfl, hfz, hnd⟩ := hW
  have hA : DataW.TrodAll enc Tryz.prog W 0 (fun _ => true) true Tryz.f4.params.toList args.toList ds p := hA0
  rw [Tryz.params4] at hA hval
  obtain ⟨v0, vs0, d0, ds0, p0, q0, hargs, rfl, rfl, h0, r0⟩ := trodAll_cons hA
  obtain ⟨rfl, rfl, rfl⟩ := trodAll_nil r0
  obtain rfl : args = #[v0] := by cases args; simp_all
  obtain ⟨rfl, rfl⟩ := trodVars_none hV
  obtain ⟨a0, rfl, rfl, rfl, w0⟩ := open_int Tryz.underlying3 (hval 0 3 v0 rfl rfl) h0
  have hr0 := i64_range w0
  clear hA0 hval0
  simp only [List.append_nil] at hW'
  obtain ⟨⟨ea, hse⟩, hst, hsp⟩ := pw_laid hL hS
  refine (parseWays_c a0 ea W hr0.1 hr0.2 hse hst hsp).mono fun e W' ⟨he, hb⟩ => ?_
  subst he
  exact ⟨_, rfl, _, _, _, [], [], [], hW', (trodAll_cons_mk (shut_bool Tryz.underlying4 _) trodAll_mk0), (trodAll_cons_mk (shut_int Tryz.underlying3 w0) trodAll_mk0), rfl, hb.frame _, fun h => by cases h⟩

theorem pw_and {a b : Bool} (ha : a = true) (hb : b = true) : (a && b) = true := by rw [ha, hb]; rfl
theorem pw_j0 : (Rows.parseWaysRow.wf (OpenSpec.ofChange Rows.parseWaysSpec)) = true := by kernel_rfl
theorem pw_j1 : (laidOutB Tryz.prog) = true := by kernel_rfl
theorem pw_j2 : (mapsRowed Tryz.prog) = true := by kernel_rfl
theorem pw_j3 : (Tryz.f4.params.all (Tryz.prog.readableRec ·)) = true := by kernel_rfl
theorem pw_j4 : (namedTie Tryz.prog Rows.parseWaysRow.named Rows.parseWaysSpec.vars) = true := by kernel_rfl
theorem pw_j5 : ((Rows.parseWaysRow.stops == [])) = true := by kernel_rfl
theorem pw_j6 : ((Tryz.prog.stops == [])) = true := by kernel_rfl
theorem pw_j7 : ((Rows.parseWaysRow.knobs == [])) = true := by kernel_rfl
theorem pw_j8 : ((Tryz.prog.stopKnobs == [])) = true := by kernel_rfl
theorem pw_j9 : ((Rows.parseWaysRow.inPlace == Tryz.prog.inPlace 4)) = true := by kernel_rfl
theorem pw_j10 : ((Rows.parseWaysRow.unfollowed == Tryz.prog.unfollowed 4)) = true := by kernel_rfl
theorem pw_j11 : ((Rows.parseWaysRow.recurses == Tryz.prog.recurses 4)) = true := by kernel_rfl
theorem pw_j12 : ((Rows.parseWaysRow.named == Tryz.prog.varsNamed 4)) = true := by kernel_rfl
theorem pw_j13 : ((Rows.parseWaysRow.maps == (Tryz.f4.params.toList ++ Rows.parseWaysSpec.plain.varTypes Tryz.prog).any (Tryz.prog.mapsRec ·))) = true := by kernel_rfl
theorem pw_j14 : ((Rows.parseWaysRow.ifaces == (Tryz.f4.params.toList ++ Rows.parseWaysSpec.plain.varTypes Tryz.prog).any (Tryz.prog.ifacesRec ·))) = true := by kernel_rfl
theorem pw_j15 : ((Rows.parseWaysRow.mapsOut == Tryz.prog.mapsAmong Tryz.f4.resultTypes.toList)) = true := by kernel_rfl
theorem pw_j16 : ((Rows.parseWaysRow.loops == (Tryz.f4.params.toList ++ Rows.parseWaysSpec.plain.varTypes Tryz.prog).any (Tryz.prog.loopsFrom ·))) = true := by kernel_rfl
theorem pw_j17 : ((Rows.parseWaysRow.wideKeys == (Tryz.f4.params.toList ++ Rows.parseWaysSpec.plain.varTypes Tryz.prog ++ Tryz.f4.resultTypes.toList).any (Tryz.prog.wideKeysFrom ·))) = true := by kernel_rfl
theorem pw_j18 : (Rows.parseWaysSpec.vars.all (Tryz.prog.varReadable ·)) = true := by kernel_rfl
theorem pw_j19 : (Tryz.f4.resultTypes.all (fun t => Tryz.prog.readableRec t && decide (t < Tryz.prog.types.size))) = true := by kernel_rfl
theorem pw_j20 : ((Rows.parseWaysRow.ifacesOut == Tryz.f4.resultTypes.toList.any (Tryz.prog.ifacesRec ·))) = true := by kernel_rfl
theorem pw_j21 : ((Rows.parseWaysRow.loopsOut == Tryz.f4.resultTypes.toList.any (Tryz.prog.loopsFrom ·))) = true := by kernel_rfl
theorem pw_j22 : ((Rows.parseWaysRow.plainKeys == Tryz.prog.plainKeys)) = true := by kernel_rfl
theorem pw_j23 : (Rows.parseWaysRow.shortTexts.isNone) = true := by kernel_rfl
theorem pw_j24 : (Tryz.prog.stopsHeard) = true := by kernel_rfl
theorem pw_j25 : (Tryz.prog.mayEnter) = true := by kernel_rfl
theorem pw_j26 : ((Rows.parseWaysRow.lifted == Tryz.prog.liftsFinal)) = true := by kernel_rfl
theorem pw_j27 : ((Tryz.prog.make == some Rows.parseWaysRow.make)) = true := by kernel_rfl
theorem pw_j28 : ((Rows.parseWaysRow.kinds == (if Rows.parseWaysRow.domain.isEmpty then [] else Tryz.f4.params.toList.map fun t => match Tryz.prog.underlying t with | some (.int k) => some k | _ => none))) = true := by kernel_rfl
theorem pw_j29 : ((Rows.parseWaysRow.pinned == Rows.parseWaysRow.pinnedBy)) = true := by kernel_rfl
theorem pw_j30 : ((Rows.parseWaysRow.veiled == (Tryz.f4.params.toList ++ Rows.parseWaysSpec.plain.varTypes Tryz.prog ++ Tryz.f4.resultTypes.toList).any (Tryz.prog.veiledRec ·))) = true := by kernel_rfl
theorem pw_j31 : (Rows.parseWaysRow.veiledFits Tryz.prog Tryz.f4.params.toList (Tryz.f4.params.toList ++ Rows.parseWaysSpec.plain.varTypes Tryz.prog ++ Tryz.f4.resultTypes.toList)) = true := by kernel_rfl
set_option maxRecDepth 1000000 in
theorem pw_joined : joinedFacts Tryz.prog 4 Tryz.f4 Rows.parseWaysSpec Rows.parseWaysRow = true :=
  (pw_and (pw_and (pw_and (pw_and (pw_and (pw_and (pw_and (pw_and (pw_and (pw_and (pw_and (pw_and (pw_and (pw_and (pw_and (pw_and (pw_and (pw_and (pw_and (pw_and (pw_and (pw_and (pw_and (pw_and (pw_and (pw_and (pw_and (pw_and (pw_and (pw_and (pw_and pw_j0 pw_j1) pw_j2) pw_j3) pw_j4) pw_j5) pw_j6) pw_j7) pw_j8) pw_j9) pw_j10) pw_j11) pw_j12) pw_j13) pw_j14) pw_j15) pw_j16) pw_j17) pw_j18) pw_j19) pw_j20) pw_j21) pw_j22) pw_j23) pw_j24) pw_j25) pw_j26) pw_j27) pw_j28) pw_j29) pw_j30) pw_j31)

theorem parseWays_holds : Rows.ParseWaysSaid :=
  OpenClaim.holds_of_wide 4 Tryz.f4 rfl rfl rfl rfl rfl rfl rfl ⟨rfl, rfl, rfl, rfl, rfl⟩ rfl rfl rfl rfl rfl (by kernel_rfl) Tryz.func4 pw_joined
    (of_decide_eq_true (by kernel_rfl)) (by unfold Func.isWrapper; first | (rw [if_pos (by decide +kernel)]; kernel_rfl) | (rw [if_neg (by decide +kernel)]; exact ⟨rfl, rfl⟩))
    (fun os started H enc _ => pw_lifted os started H enc)

/-- THE TIED CARD. -/
theorem parseWays_card : Rows.ParseWaysCardSaid :=
  Claim7.holds_tied_plain_at .later [] [.data, .data, .data, .sentinel, .sentinel, .sentinel, .sentinel, .sentinel, .sentinel, .sentinel, .sentinel, .sentinel, .sentinel, .sentinel, .sentinel, .sentinel, .sentinel, .sentinel, .sentinel, .sentinel, .sentinel, .sentinel, .listed, .data] true (true, "c8e62360d47d7afd119768a611c6b712e518a7c24e95d6348909ad830ce57ed9") true
    parseWays_holds (fun _ h => by cases h) (by kernel_rfl) (fun _ h => by cases h) parseWays_row_tie rfl ⟨rfl, rfl⟩ (by kernel_rfl) rfl
    (fun f fn hf hfn => by
      obtain rfl : f = 4 := Option.some.inj ((show Tryz.prog.funcNamed "inglenook/inglenooklaw9.ParseWays" = some 4 by kernel_rfl).symm.trans hf) |>.symm
      obtain rfl : fn = Tryz.f4 := (Option.some.inj (Tryz.func4.symm.trans hfn)).symm
      exact ⟨by kernel_rfl, fun j t ht => by
        rw [Tryz.params4] at ht
        have h3 : t = 3 := by
          rcases j with _ | j
          · simpa using ht.symm
          · simp at ht
        rcases h3 with rfl
        · exact (show Tryz.prog.wantsStandIn 3 = false by kernel_rfl)
        ⟩)
    (by kernel_rfl)
#print axioms parseWays_card
end Go.Proofs.YtggngahmafbihaaGreatDoor
