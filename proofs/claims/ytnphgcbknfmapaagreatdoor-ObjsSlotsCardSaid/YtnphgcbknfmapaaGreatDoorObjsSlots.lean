/-
  PROVED: A child's slots are its parent's, Clear, with their bits; whose they are hangs on bit C; without the document's table.
  CONDITIONS: none besides the given statement's own.
-/
import Derived.Test.YtnphgcbknfmapaaGreatDoorOslAJ
import Derived.Test.YtnphgcbknfmapaaGreatDoorOslAA
import Derived.Test.YtnphgcbknfmapaaGreatDoorOslAE
namespace Go.Proofs.YtnphgcbknfmapaaGreatDoor
open Go.ChangeShapes Go.WideShapes Go.ChangeAt Go.RowKit Go.Lib
open Go.ChangeMaps (open_string shut_string)
set_option linter.unusedVariables false


theorem obs_door (os : Os) (args : Array Value) : laidMetH Tryz.prog Rows.objsSlotsRow.laid ((World.laidAll Tryz.prog os Rows.objsSlotsRow.laid).forCall (fun _ _ => 0) ⟨#[], args, []⟩).memory := by
  rw [MakeChecks.laidMetH_plain _ _ _ (by kernel_rfl)]; exact laidMet_laidAll _ (by kernel_rfl) (by kernel_rfl)

set_option maxRecDepth 100000 in
theorem obs_lifted (os : Os) (started : os.Started) (H : Type) (enc : TypeId × Value → H) :
    ReturnsInHanded {} Tryz.checked os 3 .any (fun w args => (Rows.objsSlotsSpec.pre enc Tryz.prog Tryz.f3 [] false w args ∧ laidMetH Tryz.prog Rows.objsSlotsRow.laid w) ∧ sizedMet enc Tryz.prog Tryz.f3 (OpenSpec.ofChange Rows.objsSlotsSpec) false w args)
      (Rows.objsSlotsSpec.post enc Tryz.prog Tryz.f3 false true false false) := by
  refine handed_and_shaped (C := Tryz.checked) (X := fun w _ => laidMetH Tryz.prog Rows.objsSlotsRow.laid w) (fun _ _ _ hh h => h.of_heap hh) own_knob started (by kernel_rfl) Tryz.func3
    (ChangeSpec.witness_shaped (enc := enc) (C := Tryz.checked) (os := os) (X := fun w _ => laidMetH Tryz.prog Rows.objsSlotsRow.laid w) false (World.laidAll Tryz.prog os Rows.objsSlotsRow.laid) #[.slice none 0 0, .int .i64 0] 8 (World.laidAll_os _ _ _) (World.shaped_of_ZipB (by kernel_rfl) (by kernel_rfl)) (by kernel_rfl) (by kernel_rfl) (by kernel_rfl) (obs_door os _)) ?_
  intro W base args ds gs before hval0 hW hwt hL hS
  have hval : ∀ (j : Nat) t v, Tryz.f3.params[j]? = some t → args[j]? = some v → Value.okWide Tryz.prog W .any base t v := hval0
  have hW' := hW
  obtain ⟨p, q, hA0, hV, rfl, hfz, hnd⟩ := hW
  have hA : DataW.TrodAll enc Tryz.prog W 0 (fun _ => true) true Tryz.f3.params.toList args.toList ds p := hA0
  rw [Tryz.params3] at hA hval
  obtain ⟨v0, vs0, d0, ds0, p0, q0, hargs, rfl, rfl, h0, r0⟩ := trodAll_cons hA
  obtain ⟨v1, vs1, d1, ds1, p1, q1, rfl, rfl, rfl, h1, r1⟩ := trodAll_cons r0
  obtain ⟨rfl, rfl, rfl⟩ := trodAll_nil r1
  obtain rfl : args = #[v0, v1] := by cases args; simp_all
  obtain ⟨rfl, rfl⟩ := trodVars_none hV
  have hk0 := h0
  obtain ⟨l0, sa0, sc0, rfl, hn0, hl0⟩ := open_intsO (ocells_slice Tryz.underlying22 (hval 0 22 v0 rfl rfl)) h0
  obtain ⟨a1, rfl, rfl, rfl, w1⟩ := open_int Tryz.underlying3 (hval 1 3 v1 rfl rfl) h1
  have hr1 := i64_range w1
  clear hA0 hval0
  simp only [List.append_nil] at hW'
  refine (objsSlots_c l0 sa0 sc0 a1 W hl0 hr1).mono fun e W' ⟨he, hb⟩ => ?_
  subst he
  exact ⟨_, rfl, _, _, _, [], _, [], hW', (trodAll_cons_mk (shut_bool Tryz.underlying4 _) trodAll_mk0), (trodAll_cons_mk (Below.trod olaid_out (by kernel_rfl) (of_decide_eq_true (by kernel_rfl)) hk0 hb (fun x hx => hW'.lt x (by simp [hx]))) (trodAll_cons_mk (shut_int Tryz.underlying3 w1) trodAll_mk0)), rfl, hb.frame _, fun h => by cases h⟩

theorem obs_and {a b : Bool} (ha : a = true) (hb : b = true) : (a && b) = true := by rw [ha, hb]; rfl
theorem obs_j0 : (Rows.objsSlotsRow.wf (OpenSpec.ofChange Rows.objsSlotsSpec)) = true := by kernel_rfl
theorem obs_j1 : (laidOutB Tryz.prog) = true := by kernel_rfl
theorem obs_j2 : (mapsRowed Tryz.prog) = true := by kernel_rfl
theorem obs_j3 : (Tryz.f3.params.all (Tryz.prog.readableRec ·)) = true := by kernel_rfl
theorem obs_j4 : (namedTie Tryz.prog Rows.objsSlotsRow.named Rows.objsSlotsSpec.vars) = true := by kernel_rfl
theorem obs_j5 : ((Rows.objsSlotsRow.stops == [])) = true := by kernel_rfl
theorem obs_j6 : ((Tryz.prog.stops == [])) = true := by kernel_rfl
theorem obs_j7 : ((Rows.objsSlotsRow.knobs == [])) = true := by kernel_rfl
theorem obs_j8 : ((Tryz.prog.stopKnobs == [])) = true := by kernel_rfl
theorem obs_j9 : ((Rows.objsSlotsRow.inPlace == Tryz.prog.inPlace 3)) = true := by kernel_rfl
theorem obs_j10 : ((Rows.objsSlotsRow.unfollowed == Tryz.prog.unfollowed 3)) = true := by kernel_rfl
theorem obs_j11 : ((Rows.objsSlotsRow.recurses == Tryz.prog.recurses 3)) = true := by kernel_rfl
theorem obs_j12 : ((Rows.objsSlotsRow.named == Tryz.prog.varsNamed 3)) = true := by kernel_rfl
theorem obs_j13 : ((Rows.objsSlotsRow.maps == (Tryz.f3.params.toList ++ Rows.objsSlotsSpec.plain.varTypes Tryz.prog).any (Tryz.prog.mapsRec ·))) = true := by kernel_rfl
theorem obs_j14 : ((Rows.objsSlotsRow.ifaces == (Tryz.f3.params.toList ++ Rows.objsSlotsSpec.plain.varTypes Tryz.prog).any (Tryz.prog.ifacesRec ·))) = true := by kernel_rfl
theorem obs_j15 : ((Rows.objsSlotsRow.mapsOut == Tryz.prog.mapsAmong Tryz.f3.resultTypes.toList)) = true := by kernel_rfl
theorem obs_j16 : ((Rows.objsSlotsRow.loops == (Tryz.f3.params.toList ++ Rows.objsSlotsSpec.plain.varTypes Tryz.prog).any (Tryz.prog.loopsFrom ·))) = true := by kernel_rfl
theorem obs_j17 : ((Rows.objsSlotsRow.wideKeys == (Tryz.f3.params.toList ++ Rows.objsSlotsSpec.plain.varTypes Tryz.prog ++ Tryz.f3.resultTypes.toList).any (Tryz.prog.wideKeysFrom ·))) = true := by kernel_rfl
theorem obs_j18 : (Rows.objsSlotsSpec.vars.all (Tryz.prog.varReadable ·)) = true := by kernel_rfl
theorem obs_j19 : (Tryz.f3.resultTypes.all (fun t => Tryz.prog.readableRec t && decide (t < Tryz.prog.types.size))) = true := by kernel_rfl
theorem obs_j20 : ((Rows.objsSlotsRow.ifacesOut == Tryz.f3.resultTypes.toList.any (Tryz.prog.ifacesRec ·))) = true := by kernel_rfl
theorem obs_j21 : ((Rows.objsSlotsRow.loopsOut == Tryz.f3.resultTypes.toList.any (Tryz.prog.loopsFrom ·))) = true := by kernel_rfl
theorem obs_j22 : ((Rows.objsSlotsRow.plainKeys == Tryz.prog.plainKeys)) = true := by kernel_rfl
theorem obs_j23 : (Rows.objsSlotsRow.shortTexts.isNone) = true := by kernel_rfl
theorem obs_j24 : (Tryz.prog.stopsHeard) = true := by kernel_rfl
theorem obs_j25 : (Tryz.prog.mayEnter) = true := by kernel_rfl
theorem obs_j26 : ((Rows.objsSlotsRow.lifted == Tryz.prog.liftsFinal)) = true := by kernel_rfl
theorem obs_j27 : ((Tryz.prog.make == some Rows.objsSlotsRow.make)) = true := by kernel_rfl
theorem obs_j28 : ((Rows.objsSlotsRow.kinds == (if Rows.objsSlotsRow.domain.isEmpty then [] else Tryz.f3.params.toList.map fun t => match Tryz.prog.underlying t with | some (.int k) => some k | _ => none))) = true := by kernel_rfl
theorem obs_j29 : ((Rows.objsSlotsRow.pinned == Rows.objsSlotsRow.pinnedBy)) = true := by kernel_rfl
theorem obs_j30 : ((Rows.objsSlotsRow.veiled == (Tryz.f3.params.toList ++ Rows.objsSlotsSpec.plain.varTypes Tryz.prog ++ Tryz.f3.resultTypes.toList).any (Tryz.prog.veiledRec ·))) = true := by kernel_rfl
theorem obs_j31 : (Rows.objsSlotsRow.veiledFits Tryz.prog Tryz.f3.params.toList (Tryz.f3.params.toList ++ Rows.objsSlotsSpec.plain.varTypes Tryz.prog ++ Tryz.f3.resultTypes.toList)) = true := by kernel_rfl
set_option maxRecDepth 1000000 in
theorem obs_joined : joinedFacts Tryz.prog 3 Tryz.f3 Rows.objsSlotsSpec Rows.objsSlotsRow = true :=
  (obs_and (obs_and (obs_and (obs_and (obs_and (obs_and (obs_and (obs_and (obs_and (obs_and (obs_and (obs_and (obs_and (obs_and (obs_and (obs_and (obs_and (obs_and (obs_and (obs_and (obs_and (obs_and (obs_and (obs_and (obs_and (obs_and (obs_and (obs_and (obs_and (obs_and (obs_and obs_j0 obs_j1) obs_j2) obs_j3) obs_j4) obs_j5) obs_j6) obs_j7) obs_j8) obs_j9) obs_j10) obs_j11) obs_j12) obs_j13) obs_j14) obs_j15) obs_j16) obs_j17) obs_j18) obs_j19) obs_j20) obs_j21) obs_j22) obs_j23) obs_j24) obs_j25) obs_j26) obs_j27) obs_j28) obs_j29) obs_j30) obs_j31)

theorem objsSlots_holds : Rows.ObjsSlotsSaid :=
  OpenClaim.holds_of_wide 3 Tryz.f3 rfl rfl rfl rfl rfl rfl rfl ⟨rfl, rfl, rfl, rfl, rfl⟩ rfl rfl rfl rfl rfl (by kernel_rfl) Tryz.func3 obs_joined
    (of_decide_eq_true (by kernel_rfl)) (by unfold Func.isWrapper; first | (rw [if_pos (by decide +kernel)]; kernel_rfl) | (rw [if_neg (by decide +kernel)]; exact ⟨rfl, rfl⟩))
    (fun os started H enc _ => obs_lifted os started H enc)

/-- THE TIED CARD. -/
theorem objsSlots_card : Rows.ObjsSlotsCardSaid :=
  Claim7.holds_tied_plain_at .later [] [.data, .sentinel, .sentinel, .sentinel, .sentinel, .sentinel, .pinned] true (true, "425272658a3a0c35279a7c5ed70ece5e81f12970c8386cb5167a54606503493f") false
    objsSlots_holds (fun _ h => by cases h) (by kernel_rfl) (fun _ h => by cases h) objsSlots_row_tie rfl ⟨rfl, rfl⟩ (by kernel_rfl) rfl
    (fun f fn hf hfn => by
      obtain rfl : f = 3 := Option.some.inj ((show Tryz.prog.funcNamed "inglenook/inglenooklaw12.ObjsSlots" = some 3 by kernel_rfl).symm.trans hf) |>.symm
      obtain rfl : fn = Tryz.f3 := (Option.some.inj (Tryz.func3.symm.trans hfn)).symm
      exact ⟨by kernel_rfl, fun j t ht => by
        rw [Tryz.params3] at ht
        have h3 : t = 22 ∨ t = 3 := by
          rcases j with _ | _ | j
          · left; simpa using ht.symm
          · right; simpa using ht.symm
          · simp at ht
        rcases h3 with rfl | rfl
        · exact (show Tryz.prog.wantsStandIn 22 = false by kernel_rfl)
        · exact (show Tryz.prog.wantsStandIn 3 = false by kernel_rfl)
        ⟩)
    (by kernel_rfl)
#print axioms objsSlots_card
end Go.Proofs.YtnphgcbknfmapaaGreatDoor
