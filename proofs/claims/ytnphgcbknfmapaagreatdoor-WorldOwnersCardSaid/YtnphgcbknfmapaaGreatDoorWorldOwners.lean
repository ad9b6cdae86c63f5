/-
  PROVED: What is owned is read and set by who owns it, and by a wizard; by others just as the bits let; whose it is just a wizard gives away; without the document's world.
  CONDITIONS: none besides the given statement's own.
-/
import Derived.Test.YtnphgcbknfmapaaGreatDoorWowAQ
import Derived.Test.YtnphgcbknfmapaaGreatDoorWowAA
namespace Go.Proofs.YtnphgcbknfmapaaGreatDoor
open Go.ChangeShapes Go.WideShapes Go.ChangeAt Go.RowKit Go.Lib
open Go.ChangeMaps (open_string shut_string)
set_option linter.unusedVariables false


theorem wdo_door (os : Os) (args : Array Value) : laidMetH Tryz.prog Rows.worldOwnersRow.laid ((World.laidAll Tryz.prog os Rows.worldOwnersRow.laid).forCall (fun _ _ => 0) ⟨#[], args, []⟩).memory := by
  rw [MakeChecks.laidMetH_plain _ _ _ (by kernel_rfl)]; exact laidMet_laidAll _ (by kernel_rfl) (by kernel_rfl)

set_option maxRecDepth 100000 in
theorem wdo_lifted (os : Os) (started : os.Started) (H : Type) (enc : TypeId × Value → H) :
    ReturnsInHanded {} Tryz.checked os 6 .any (fun w args => (Rows.worldOwnersSpec.pre enc Tryz.prog Tryz.f6 [] false w args ∧ laidMetH Tryz.prog Rows.worldOwnersRow.laid w) ∧ sizedMet enc Tryz.prog Tryz.f6 (OpenSpec.ofChange Rows.worldOwnersSpec) false w args)
      (Rows.worldOwnersSpec.post enc Tryz.prog Tryz.f6 false true false false) := by
  refine handed_and_shaped (C := Tryz.checked) (X := fun w _ => laidMetH Tryz.prog Rows.worldOwnersRow.laid w) (fun _ _ _ hh h => h.of_heap hh) own_knob started (by kernel_rfl) Tryz.func6
    (ChangeSpec.witness_shaped (enc := enc) (C := Tryz.checked) (os := os) (X := fun w _ => laidMetH Tryz.prog Rows.worldOwnersRow.laid w) false (World.laidAll Tryz.prog os Rows.worldOwnersRow.laid) #[.int .i64 0, .int .i64 0, .bool false] 8 (World.laidAll_os _ _ _) (World.shaped_of_ZipB (by kernel_rfl) (by kernel_rfl)) (by kernel_rfl) (by kernel_rfl) (by kernel_rfl) (wdo_door os _)) ?_
  intro W base args ds gs before hval0 hW hwt hL hS
  have hval : ∀ (j : Nat) t v, Tryz.f6.params[j]? = some t → args[j]? = some v → Value.okWide Tryz.prog W .any base t v := hval0
  have hW' := hW
  obtain ⟨p, q, hA0, hV, rfl, hfz, hnd⟩ := hW
  have hA : DataW.TrodAll enc Tryz.prog W 0 (fun _ => true) true Tryz.f6.params.toList args.toList ds p := hA0
  rw [Tryz.params6] at hA hval
  obtain ⟨v0, vs0, d0, ds0, p0, q0, hargs, rfl, rfl, h0, r0⟩ := trodAll_cons hA
  obtain ⟨v1, vs1, d1, ds1, p1, q1, rfl, rfl, rfl, h1, r1⟩ := trodAll_cons r0
  obtain ⟨v2, vs2, d2, ds2, p2, q2, rfl, rfl, rfl, h2, r2⟩ := trodAll_cons r1
  obtain ⟨rfl, rfl, rfl⟩ := trodAll_nil r2
  obtain rfl : args = #[v0, v1, v2] := by cases args; simp_all
  obtain ⟨rfl, rfl⟩ := trodVars_none hV
  obtain ⟨a0, rfl, rfl, rfl, w0⟩ := open_int Tryz.underlying3 (hval 0 3 v0 rfl rfl) h0
  have hr0 := i64_range w0
  obtain ⟨a1, rfl, rfl, rfl, w1⟩ := open_int Tryz.underlying3 (hval 1 3 v1 rfl rfl) h1
  have hr1 := i64_range w1
  obtain ⟨a2, rfl, rfl, rfl⟩ := open_bool Tryz.underlying4 (hval 2 4 v2 rfl rfl) h2
  clear hA0 hval0
  simp only [List.append_nil] at hW'
  refine (worldOwners_c a0 a1 a2 W hr0 hr1).mono fun e W' ⟨he, hb⟩ => ?_
  subst he
  exact ⟨_, rfl, _, _, _, [], [], [], hW', (trodAll_cons_mk (shut_bool Tryz.underlying4 _) trodAll_mk0), (trodAll_cons_mk (shut_int Tryz.underlying3 w0) (trodAll_cons_mk (shut_int Tryz.underlying3 w1) (trodAll_cons_mk (shut_bool Tryz.underlying4 _) trodAll_mk0))), rfl, hb.frame _, fun h => by cases h⟩

theorem wdo_and {a b : Bool} (ha : a = true) (hb : b = true) : (a && b) = true := by rw [ha, hb]; rfl
theorem wdo_j0 : (Rows.worldOwnersRow.wf (OpenSpec.ofChange Rows.worldOwnersSpec)) = true := by kernel_rfl
theorem wdo_j1 : (laidOutB Tryz.prog) = true := by kernel_rfl
theorem wdo_j2 : (mapsRowed Tryz.prog) = true := by kernel_rfl
theorem wdo_j3 : (Tryz.f6.params.all (Tryz.prog.readableRec ·)) = true := by kernel_rfl
theorem wdo_j4 : (namedTie Tryz.prog Rows.worldOwnersRow.named Rows.worldOwnersSpec.vars) = true := by kernel_rfl
theorem wdo_j5 : ((Rows.worldOwnersRow.stops == [])) = true := by kernel_rfl
theorem wdo_j6 : ((Tryz.prog.stops == [])) = true := by kernel_rfl
theorem wdo_j7 : ((Rows.worldOwnersRow.knobs == [])) = true := by kernel_rfl
theorem wdo_j8 : ((Tryz.prog.stopKnobs == [])) = true := by kernel_rfl
theorem wdo_j9 : ((Rows.worldOwnersRow.inPlace == Tryz.prog.inPlace 6)) = true := by kernel_rfl
theorem wdo_j10 : ((Rows.worldOwnersRow.unfollowed == Tryz.prog.unfollowed 6)) = true := by kernel_rfl
theorem wdo_j11 : ((Rows.worldOwnersRow.recurses == Tryz.prog.recurses 6)) = true := by kernel_rfl
theorem wdo_j12 : ((Rows.worldOwnersRow.named == Tryz.prog.varsNamed 6)) = true := by kernel_rfl
theorem wdo_j13 : ((Rows.worldOwnersRow.maps == (Tryz.f6.params.toList ++ Rows.worldOwnersSpec.plain.varTypes Tryz.prog).any (Tryz.prog.mapsRec ·))) = true := by kernel_rfl
theorem wdo_j14 : ((Rows.worldOwnersRow.ifaces == (Tryz.f6.params.toList ++ Rows.worldOwnersSpec.plain.varTypes Tryz.prog).any (Tryz.prog.ifacesRec ·))) = true := by kernel_rfl
theorem wdo_j15 : ((Rows.worldOwnersRow.mapsOut == Tryz.prog.mapsAmong Tryz.f6.resultTypes.toList)) = true := by kernel_rfl
theorem wdo_j16 : ((Rows.worldOwnersRow.loops == (Tryz.f6.params.toList ++ Rows.worldOwnersSpec.plain.varTypes Tryz.prog).any (Tryz.prog.loopsFrom ·))) = true := by kernel_rfl
theorem wdo_j17 : ((Rows.worldOwnersRow.wideKeys == (Tryz.f6.params.toList ++ Rows.worldOwnersSpec.plain.varTypes Tryz.prog ++ Tryz.f6.resultTypes.toList).any (Tryz.prog.wideKeysFrom ·))) = true := by kernel_rfl
theorem wdo_j18 : (Rows.worldOwnersSpec.vars.all (Tryz.prog.varReadable ·)) = true := by kernel_rfl
theorem wdo_j19 : (Tryz.f6.resultTypes.all (fun t => Tryz.prog.readableRec t && decide (t < Tryz.prog.types.size))) = true := by kernel_rfl
theorem wdo_j20 : ((Rows.worldOwnersRow.ifacesOut == Tryz.f6.resultTypes.toList.any (Tryz.prog.ifacesRec ·))) = true := by kernel_rfl
theorem wdo_j21 : ((Rows.worldOwnersRow.loopsOut == Tryz.f6.resultTypes.toList.any (Tryz.prog.loopsFrom ·))) = true := by kernel_rfl
theorem wdo_j22 : ((Rows.worldOwnersRow.plainKeys == Tryz.prog.plainKeys)) = true := by kernel_rfl
theorem wdo_j23 : (Rows.worldOwnersRow.shortTexts.isNone) = true := by kernel_rfl
theorem wdo_j24 : (Tryz.prog.stopsHeard) = true := by kernel_rfl
theorem wdo_j25 : (Tryz.prog.mayEnter) = true := by kernel_rfl
theorem wdo_j26 : ((Rows.worldOwnersRow.lifted == Tryz.prog.liftsFinal)) = true := by kernel_rfl
theorem wdo_j27 : ((Tryz.prog.make == some Rows.worldOwnersRow.make)) = true := by kernel_rfl
theorem wdo_j28 : ((Rows.worldOwnersRow.kinds == (if Rows.worldOwnersRow.domain.isEmpty then [] else Tryz.f6.params.toList.map fun t => match Tryz.prog.underlying t with | some (.int k) => some k | _ => none))) = true := by kernel_rfl
theorem wdo_j29 : ((Rows.worldOwnersRow.pinned == Rows.worldOwnersRow.pinnedBy)) = true := by kernel_rfl
theorem wdo_j30 : ((Rows.worldOwnersRow.veiled == (Tryz.f6.params.toList ++ Rows.worldOwnersSpec.plain.varTypes Tryz.prog ++ Tryz.f6.resultTypes.toList).any (Tryz.prog.veiledRec ·))) = true := by kernel_rfl
theorem wdo_j31 : (Rows.worldOwnersRow.veiledFits Tryz.prog Tryz.f6.params.toList (Tryz.f6.params.toList ++ Rows.worldOwnersSpec.plain.varTypes Tryz.prog ++ Tryz.f6.resultTypes.toList)) = true := by kernel_rfl
set_option maxRecDepth 1000000 in
theorem wdo_joined : joinedFacts Tryz.prog 6 Tryz.f6 Rows.worldOwnersSpec Rows.worldOwnersRow = true :=
  (wdo_and (wdo_and (wdo_and (wdo_and (wdo_and (wdo_and (wdo_and (wdo_and (wdo_and (wdo_and (wdo_and (wdo_and (wdo_and (wdo_and (wdo_and (wdo_and (wdo_and (wdo_and (wdo_and (wdo_and (wdo_and (wdo_and (wdo_and (wdo_and (wdo_and (wdo_and (wdo_and (wdo_and (wdo_and (wdo_and (wdo_and wdo_j0 wdo_j1) wdo_j2) wdo_j3) wdo_j4) wdo_j5) wdo_j6) wdo_j7) wdo_j8) wdo_j9) wdo_j10) wdo_j11) wdo_j12) wdo_j13) wdo_j14) wdo_j15) wdo_j16) wdo_j17) wdo_j18) wdo_j19) wdo_j20) wdo_j21) wdo_j22) wdo_j23) wdo_j24) wdo_j25) wdo_j26) wdo_j27) wdo_j28) wdo_j29) wdo_j30) wdo_j31)

theorem worldOwners_holds : Rows.WorldOwnersSaid :=
  OpenClaim.holds_of_wide 6 Tryz.f6 rfl rfl rfl rfl rfl rfl rfl ⟨rfl, rfl, rfl, rfl, rfl⟩ rfl rfl rfl rfl rfl (by kernel_rfl) Tryz.func6 wdo_joined
    (of_decide_eq_true (by kernel_rfl)) (by unfold Func.isWrapper; first | (rw [if_pos (by decide +kernel)]; kernel_rfl) | (rw [if_neg (by decide +kernel)]; exact ⟨rfl, rfl⟩))
    (fun os started H enc _ => wdo_lifted os started H enc)

/-- THE TIED CARD. -/
theorem worldOwners_card : Rows.WorldOwnersCardSaid :=
  Claim7.holds_tied_plain_at .later [] [.data, .sentinel, .sentinel, .sentinel, .sentinel, .sentinel, .pinned] true (true, "425272658a3a0c35279a7c5ed70ece5e81f12970c8386cb5167a54606503493f") false
    worldOwners_holds (fun _ h => by cases h) (by kernel_rfl) (fun _ h => by cases h) worldOwners_row_tie rfl ⟨rfl, rfl⟩ (by kernel_rfl) rfl
    (fun f fn hf hfn => by
      obtain rfl : f = 6 := Option.some.inj ((show Tryz.prog.funcNamed "inglenook/inglenooklaw15.WorldOwners" = some 6 by kernel_rfl).symm.trans hf) |>.symm
      obtain rfl : fn = Tryz.f6 := (Option.some.inj (Tryz.func6.symm.trans hfn)).symm
      exact ⟨by kernel_rfl, fun j t ht => by
        rw [Tryz.params6] at ht
        have h3 : t = 3 ∨ t = 3 ∨ t = 4 := by
          rcases j with _ | _ | _ | j
          · left; simpa using ht.symm
          · right; left; simpa using ht.symm
          · right; right; simpa using ht.symm
          · simp at ht
        rcases h3 with rfl | rfl | rfl
        · exact (show Tryz.prog.wantsStandIn 3 = false by kernel_rfl)
        · exact (show Tryz.prog.wantsStandIn 3 = false by kernel_rfl)
        · exact (show Tryz.prog.wantsStandIn 4 = false by kernel_rfl)
        ⟩)
    (by kernel_rfl)
#print axioms worldOwners_card
end Go.Proofs.YtnphgcbknfmapaaGreatDoor
