/-
  PROVED: Who controls it moves it, and changes its parent to what is fertile, or its own; others do not; a ring is refused; without the document's world.
  CONDITIONS: none besides the given statement's own.
-/
import Derived.Test.YtnphgcbknfmapaaGreatDoorWmvAN
import Derived.Test.YtnphgcbknfmapaaGreatDoorWmvAA
namespace Go.Proofs.YtnphgcbknfmapaaGreatDoor
open Go.ChangeShapes Go.WideShapes Go.ChangeAt Go.RowKit Go.Lib
open Go.ChangeMaps (open_string shut_string)
set_option linter.unusedVariables false


theorem wdm_door (os : Os) (args : Array Value) : laidMetH Tryz.prog Rows.worldMovesRow.laid ((World.laidAll Tryz.prog os Rows.worldMovesRow.laid).forCall (fun _ _ => 0) ⟨#[], args, []⟩).memory := by
  rw [MakeChecks.laidMetH_plain _ _ _ (by kernel_rfl)]; exact laidMet_laidAll _ (by kernel_rfl) (by kernel_rfl)

set_option maxRecDepth 100000 in
theorem wdm_lifted (os : Os) (started : os.Started) (H : Type) (enc : TypeId × Value → H) :
    ReturnsInHanded {} Tryz.checked os 7 .any (fun w args => (Rows.worldMovesSpec.pre enc Tryz.prog Tryz.f7 [] false w args ∧ laidMetH Tryz.prog Rows.worldMovesRow.laid w) ∧ sizedMet enc Tryz.prog Tryz.f7 (OpenSpec.ofChange Rows.worldMovesSpec) false w args)
      (Rows.worldMovesSpec.post enc Tryz.prog Tryz.f7 false true false false) := by
  refine handed_and_shaped (C := Tryz.checked) (X := fun w _ => laidMetH Tryz.prog Rows.worldMovesRow.laid w) (fun _ _ _ hh h => h.of_heap hh) own_knob started (by kernel_rfl) Tryz.func7
    (ChangeSpec.witness_shaped (enc := enc) (C := Tryz.checked) (os := os) (X := fun w _ => laidMetH Tryz.prog Rows.worldMovesRow.laid w) false (World.laidAll Tryz.prog os Rows.worldMovesRow.laid) #[.int .i64 0, .int .i64 0, .bool false] 8 (World.laidAll_os _ _ _) (World.shaped_of_ZipB (by kernel_rfl) (by kernel_rfl)) (by kernel_rfl) (by kernel_rfl) (by kernel_rfl) (wdm_door os _)) ?_
  intro W base args ds gs before hval0 hW hwt hL hS
  have hval : ∀ (j : Nat) t v, Tryz.f7.params[j]? = some t → args[j]? = some v → Value.okWide Tryz.prog W .any base t v := hval0
  have hW' := hW
  obtain ⟨p, q, hA0, hV, rfl, hfz, hnd⟩ := hW
  have hA : DataW.TrodAll enc Tryz.prog W 0 (fun _ => true) true Tryz.f7.params.toList args.toList ds p := hA0
  rw [Tryz.params7] at hA hval
  obtain ⟨v0, vs0, d0, ds0, p0, q0, hargs, rfl, rfl, h0, r0⟩ := trodAll_cons hA
  obtain ⟨v1, vs1, d1, ds1, p1, q1, rfl, rfl, rfl, h1, r1⟩ := trodAll_cons r0
  obtain ⟨v2, vs2, d2, ds2, p2, q2, rfl, rfl, rfl, h2, r2⟩ := trodAll_cons r1
  obtain ⟨rfl, rfl, rfl⟩ := trodAll_nil r2
  obtain rfl : args = #[v0, v1, v2] := by cases args; simp_all
  obtain ⟨rfl, rfl⟩ := trodVars_none hV
  obtain ⟨a0, rfl, rfl, rfl, w0⟩ := open_int Tryz.underlying3 (hval 0 3 v0 rfl rfl) h0
  have hr0 := i64_range w0
  obtain ⟨a1, rfl, rfl, rfl, w1⟩ := open_int Tryz.underlying3 (hval 1 3 v1 rfl rfl) h1
  have hr1 := i64_range w1
  obtain ⟨a2, rfl, rfl, rfl⟩ := open_bool Tryz.underlying4 (hval 2 4 v2 rfl rfl) h2
  clear hA0 hval0
  simp only [List.append_nil] at hW'
  refine (worldMoves_c a0 a1 a2 W hr0 hr1).mono fun e W' ⟨he, hb⟩ => ?_
  subst he
  exact ⟨_, rfl, _, _, _, [], [], [], hW', (trodAll_cons_mk (shut_bool Tryz.underlying4 _) trodAll_mk0), (trodAll_cons_mk (shut_int Tryz.underlying3 w0) (trodAll_cons_mk (shut_int Tryz.underlying3 w1) (trodAll_cons_mk (shut_bool Tryz.underlying4 _) trodAll_mk0))), rfl, hb.frame _, fun h => by cases h⟩

theorem wdm_and {a b : Bool} (ha : a = true) (hb : b = true) : (a && b) = true := by rw [ha, hb]; rfl
theorem wdm_j0 : (Rows.worldMovesRow.wf (OpenSpec.ofChange Rows.worldMovesSpec)) = true := by kernel_rfl
theorem wdm_j1 : (laidOutB Tryz.prog) = true := by kernel_rfl
theorem wdm_j2 : (mapsRowed Tryz.prog) = true := by kernel_rfl
theorem wdm_j3 : (Tryz.f7.params.all (Tryz.prog.readableRec ·)) = true := by kernel_rfl
theorem wdm_j4 : (namedTie Tryz.prog Rows.worldMovesRow.named Rows.worldMovesSpec.vars) = true := by kernel_rfl
theorem wdm_j5 : ((Rows.worldMovesRow.stops == [])) = true := by kernel_rfl
theorem wdm_j6 : ((Tryz.prog.stops == [])) = true := by kernel_rfl
theorem wdm_j7 : ((Rows.worldMovesRow.knobs == [])) = true := by kernel_rfl
theorem wdm_j8 : ((Tryz.prog.stopKnobs == [])) = true := by kernel_rfl
theorem wdm_j9 : ((Rows.worldMovesRow.inPlace == Tryz.prog.inPlace 7)) = true := by kernel_rfl
theorem wdm_j10 : ((Rows.worldMovesRow.unfollowed == Tryz.prog.unfollowed 7)) = true := by kernel_rfl
theorem wdm_j11 : ((Rows.worldMovesRow.recurses == Tryz.prog.recurses 7)) = true := by kernel_rfl
theorem wdm_j12 : ((Rows.worldMovesRow.named == Tryz.prog.varsNamed 7)) = true := by kernel_rfl
theorem wdm_j13 : ((Rows.worldMovesRow.maps == (Tryz.f7.params.toList ++ Rows.worldMovesSpec.plain.varTypes Tryz.prog).any (Tryz.prog.mapsRec ·))) = true := by kernel_rfl
theorem wdm_j14 : ((Rows.worldMovesRow.ifaces == (Tryz.f7.params.toList ++ Rows.worldMovesSpec.plain.varTypes Tryz.prog).any (Tryz.prog.ifacesRec ·))) = true := by kernel_rfl
theorem wdm_j15 : ((Rows.worldMovesRow.mapsOut == Tryz.prog.mapsAmong Tryz.f7.resultTypes.toList)) = true := by kernel_rfl
theorem wdm_j16 : ((Rows.worldMovesRow.loops == (Tryz.f7.params.toList ++ Rows.worldMovesSpec.plain.varTypes Tryz.prog).any (Tryz.prog.loopsFrom ·))) = true := by kernel_rfl
theorem wdm_j17 : ((Rows.worldMovesRow.wideKeys == (Tryz.f7.params.toList ++ Rows.worldMovesSpec.plain.varTypes Tryz.prog ++ Tryz.f7.resultTypes.toList).any (Tryz.prog.wideKeysFrom ·))) = true := by kernel_rfl
theorem wdm_j18 : (Rows.worldMovesSpec.vars.all (Tryz.prog.varReadable ·)) = true := by kernel_rfl
theorem wdm_j19 : (Tryz.f7.resultTypes.all (fun t => Tryz.prog.readableRec t && decide (t < Tryz.prog.types.size))) = true := by kernel_rfl
theorem wdm_j20 : ((Rows.worldMovesRow.ifacesOut == Tryz.f7.resultTypes.toList.any (Tryz.prog.ifacesRec ·))) = true := by kernel_rfl
theorem wdm_j21 : ((Rows.worldMovesRow.loopsOut == Tryz.f7.resultTypes.toList.any (Tryz.prog.loopsFrom ·))) = true := by kernel_rfl
theorem wdm_j22 : ((Rows.worldMovesRow.plainKeys == Tryz.prog.plainKeys)) = true := by kernel_rfl
theorem wdm_j23 : (Rows.worldMovesRow.shortTexts.isNone) = true := by kernel_rfl
theorem wdm_j24 : (Tryz.prog.stopsHeard) = true := by kernel_rfl
theorem wdm_j25 : (Tryz.prog.mayEnter) = true := by kernel_rfl
theorem wdm_j26 : ((Rows.worldMovesRow.lifted == Tryz.prog.liftsFinal)) = true := by kernel_rfl
theorem wdm_j27 : ((Tryz.prog.make == some Rows.worldMovesRow.make)) = true := by kernel_rfl
theorem wdm_j28 : ((Rows.worldMovesRow.kinds == (if Rows.worldMovesRow.domain.isEmpty then [] else Tryz.f7.params.toList.map fun t => match Tryz.prog.underlying t with | some (.int k) => some k | _ => none))) = true := by kernel_rfl
theorem wdm_j29 : ((Rows.worldMovesRow.pinned == Rows.worldMovesRow.pinnedBy)) = true := by kernel_rfl
theorem wdm_j30 : ((Rows.worldMovesRow.veiled == (Tryz.f7.params.toList ++ Rows.worldMovesSpec.plain.varTypes Tryz.prog ++ Tryz.f7.resultTypes.toList).any (Tryz.prog.veiledRec ·))) = true := by kernel_rfl
theorem wdm_j31 : (Rows.worldMovesRow.veiledFits Tryz.prog Tryz.f7.params.toList (Tryz.f7.params.toList ++ Rows.worldMovesSpec.plain.varTypes Tryz.prog ++ Tryz.f7.resultTypes.toList)) = true := by kernel_rfl
set_option maxRecDepth 1000000 in
theorem wdm_joined : joinedFacts Tryz.prog 7 Tryz.f7 Rows.worldMovesSpec Rows.worldMovesRow = true :=
  (wdm_and (wdm_and (wdm_and (wdm_and (wdm_and (wdm_and (wdm_and (wdm_and (wdm_and (wdm_and (wdm_and (wdm_and (wdm_and (wdm_and (wdm_and (wdm_and (wdm_and (wdm_and (wdm_and (wdm_and (wdm_and (wdm_and (wdm_and (wdm_and (wdm_and (wdm_and (wdm_and (wdm_and (wdm_and (wdm_and (wdm_and wdm_j0 wdm_j1) wdm_j2) wdm_j3) wdm_j4) wdm_j5) wdm_j6) wdm_j7) wdm_j8) wdm_j9) wdm_j10) wdm_j11) wdm_j12) wdm_j13) wdm_j14) wdm_j15) wdm_j16) wdm_j17) wdm_j18) wdm_j19) wdm_j20) wdm_j21) wdm_j22) wdm_j23) wdm_j24) wdm_j25) wdm_j26) wdm_j27) wdm_j28) wdm_j29) wdm_j30) wdm_j31)

theorem worldMoves_holds : Rows.WorldMovesSaid :=
  OpenClaim.holds_of_wide 7 Tryz.f7 rfl rfl rfl rfl rfl rfl rfl ⟨rfl, rfl, rfl, rfl, rfl⟩ rfl rfl rfl rfl rfl (by kernel_rfl) Tryz.func7 wdm_joined
    (of_decide_eq_true (by kernel_rfl)) (by unfold Func.isWrapper; first | (rw [if_pos (by decide +kernel)]; kernel_rfl) | (rw [if_neg (by decide +kernel)]; exact ⟨rfl, rfl⟩))
    (fun os started H enc _ => wdm_lifted os started H enc)

/-- THE TIED CARD. -/
theorem worldMoves_card : Rows.WorldMovesCardSaid :=
  Claim7.holds_tied_plain_at .later [] [.data, .sentinel, .sentinel, .sentinel, .sentinel, .sentinel, .pinned] true (true, "425272658a3a0c35279a7c5ed70ece5e81f12970c8386cb5167a54606503493f") false
    worldMoves_holds (fun _ h => by cases h) (by kernel_rfl) (fun _ h => by cases h) worldMoves_row_tie rfl ⟨rfl, rfl⟩ (by kernel_rfl) rfl
    (fun f fn hf hfn => by
      obtain rfl : f = 7 := Option.some.inj ((show Tryz.prog.funcNamed "inglenook/inglenooklaw15.WorldMoves" = some 7 by kernel_rfl).symm.trans hf) |>.symm
      obtain rfl : fn = Tryz.f7 := (Option.some.inj (Tryz.func7.symm.trans hfn)).symm
      exact ⟨by kernel_rfl, fun j t ht => by
        rw [Tryz.params7] at ht
        have h3 : t = 3 ∨ t = 3 ∨ t = 4 := by
          rcases j with _ | _ | _ | j
          · left; simpa using ht.symm
          · right; left; simpa using ht.symm
          · right; right; simpa using ht.symm
          · simp at ht
        rcases h3 with rfl | rfl | rfl
        · exact (show Tryz.prog.wantsStandIn 3 = false by kernel_rfl)
        · exact (show Tryz.prog.wantsStandIn 3 = false by kernel_rfl)
        · exact (show Tryz.prog.wantsStandIn 4 = false by kernel_rfl)
        ⟩)
    (by kernel_rfl)
#print axioms worldMoves_card
end Go.Proofs.YtnphgcbknfmapaaGreatDoor
