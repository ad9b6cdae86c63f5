/-
  PROVED: what every object has is told, and set where it may be: its name, its owner, its flags; where it is, and what is in it, is not set so
  CONDITIONS: none besides the given statement's own.
-/
import Derived.Test.YtnphgcbknfmapaaGreatDoorPbuAJ
import Derived.Test.YtnphgcbknfmapaaGreatDoorPbuAA
namespace Go.Proofs.YtnphgcbknfmapaaGreatDoor
open Go.ChangeShapes Go.WideShapes Go.ChangeAt Go.RowKit Go.Lib
open Go.ChangeMaps (open_string shut_string)
set_option linter.unusedVariables false


theorem pb_door (os : Os) (args : Array Value) : laidMetH Tryz.prog Rows.propsBuiltinRow.laid ((World.laidAll Tryz.prog os Rows.propsBuiltinRow.laid).forCall (fun _ _ => 0) ⟨#[], args, []⟩).memory := by
  rw [MakeChecks.laidMetH_plain _ _ _ (by kernel_rfl)]; exact laidMet_laidAll _ (by kernel_rfl) (by kernel_rfl)

set_option maxRecDepth 100000 in
theorem pb_lifted (os : Os) (started : os.Started) (H : Type) (enc : TypeId × Value → H) :
    ReturnsInHanded {} Tryz.checked os 4 .any (fun w args => (Rows.propsBuiltinSpec.pre enc Tryz.prog Tryz.f4 [] false w args ∧ laidMetH Tryz.prog Rows.propsBuiltinRow.laid w) ∧ sizedMet enc Tryz.prog Tryz.f4 (OpenSpec.ofChange Rows.propsBuiltinSpec) false w args)
      (Rows.propsBuiltinSpec.post enc Tryz.prog Tryz.f4 false true false false) := by
  refine handed_and_shaped (C := Tryz.checked) (X := fun w _ => laidMetH Tryz.prog Rows.propsBuiltinRow.laid w) (fun _ _ _ hh h => h.of_heap hh) own_knob started (by kernel_rfl) Tryz.func4
    (ChangeSpec.witness_shaped (enc := enc) (C := Tryz.checked) (os := os) (X := fun w _ => laidMetH Tryz.prog Rows.propsBuiltinRow.laid w) false (World.laidAll Tryz.prog os Rows.propsBuiltinRow.laid) #[.string ByteArray.empty, .int .i64 0, .bool false] 8 (World.laidAll_os _ _ _) (World.shaped_of_ZipB (by kernel_rfl) (by kernel_rfl)) (by kernel_rfl) (by kernel_rfl) (by kernel_rfl) (pb_door os _)) ?_
  intro W base args ds gs before hval0 hW hwt hL hS
  have hval : ∀ (j : Nat) t v, Tryz.f4.params[j]? = some t → args[j]? = some v → Value.okWide Tryz.prog W .any base t v := hval0
  have hW' := hW
  obtain ⟨p, q, hA0, hV, rfl, hfz, hnd⟩ := hW
  have hA : DataW.TrodAll enc Tryz.prog W 0 (fun _ => true) true Tryz.f4.params.toList args.toList ds p := hA0
  rw [Tryz.params4] at hA hval
  obtain ⟨v0, vs0, d0, ds0, p0, q0, hargs, rfl, rfl, h0, r0⟩ := trodAll_cons hA
  obtain ⟨v1, vs1, d1, ds1, p1, q1, rfl, rfl, rfl, h1, r1⟩ := trodAll_cons r0
  obtain ⟨v2, vs2, d2, ds2, p2, q2, rfl, rfl, rfl, h2, r2⟩ := trodAll_cons r1
  obtain ⟨rfl, rfl, rfl⟩ := trodAll_nil r2
  obtain rfl : args = #[v0, v1, v2] := by cases args; simp_all
  obtain ⟨rfl, rfl⟩ := trodVars_none hV
  obtain ⟨a0, rfl, rfl, rfl, w0⟩ := open_string Tryz.underlying9 (hval 0 9 v0 rfl rfl) h0
  obtain ⟨a1, rfl, rfl, rfl, w1⟩ := open_int Tryz.underlying3 (hval 1 3 v1 rfl rfl) h1
  have hr1 := i64_range w1
  obtain ⟨a2, rfl, rfl, rfl⟩ := open_bool Tryz.underlying4 (hval 2 4 v2 rfl rfl) h2
  clear hA0 hval0
  simp only [List.append_nil] at hW'
  refine (propsBuiltin_c a0 a1 a2 W hr1.1 hr1.2).mono fun e W' ⟨he, hb⟩ => ?_
  subst he
  exact ⟨_, rfl, _, _, _, [], [], [], hW', (trodAll_cons_mk (shut_bool Tryz.underlying4 _) trodAll_mk0), (trodAll_cons_mk (shut_string Tryz.underlying9 w0) (trodAll_cons_mk (shut_int Tryz.underlying3 w1) (trodAll_cons_mk (shut_bool Tryz.underlying4 _) trodAll_mk0))), rfl, hb.frame _, fun h => by cases h⟩

theorem pb_and {a b : Bool} (ha : a = true) (hb : b = true) : (a && b) = true := by rw [ha, hb]; rfl
theorem pb_j0 : (Rows.propsBuiltinRow.wf (OpenSpec.ofChange Rows.propsBuiltinSpec)) = true := by kernel_rfl
theorem pb_j1 : (laidOutB Tryz.prog) = true := by kernel_rfl
theorem pb_j2 : (mapsRowed Tryz.prog) = true := by kernel_rfl
theorem pb_j3 : (Tryz.f4.params.all (Tryz.prog.readableRec ·)) = true := by kernel_rfl
theorem pb_j4 : (namedTie Tryz.prog Rows.propsBuiltinRow.named Rows.propsBuiltinSpec.vars) = true := by kernel_rfl
theorem pb_j5 : ((Rows.propsBuiltinRow.stops == [])) = true := by kernel_rfl
theorem pb_j6 : ((Tryz.prog.stops == [])) = true := by kernel_rfl
theorem pb_j7 : ((Rows.propsBuiltinRow.knobs == [])) = true := by kernel_rfl
theorem pb_j8 : ((Tryz.prog.stopKnobs == [])) = true := by kernel_rfl
theorem pb_j9 : ((Rows.propsBuiltinRow.inPlace == Tryz.prog.inPlace 4)) = true := by kernel_rfl
theorem pb_j10 : ((Rows.propsBuiltinRow.unfollowed == Tryz.prog.unfollowed 4)) = true := by kernel_rfl
theorem pb_j11 : ((Rows.propsBuiltinRow.recurses == Tryz.prog.recurses 4)) = true := by kernel_rfl
theorem pb_j12 : ((Rows.propsBuiltinRow.named == Tryz.prog.varsNamed 4)) = true := by kernel_rfl
theorem pb_j13 : ((Rows.propsBuiltinRow.maps == (Tryz.f4.params.toList ++ Rows.propsBuiltinSpec.plain.varTypes Tryz.prog).any (Tryz.prog.mapsRec ·))) = true := by kernel_rfl
theorem pb_j14 : ((Rows.propsBuiltinRow.ifaces == (Tryz.f4.params.toList ++ Rows.propsBuiltinSpec.plain.varTypes Tryz.prog).any (Tryz.prog.ifacesRec ·))) = true := by kernel_rfl
theorem pb_j15 : ((Rows.propsBuiltinRow.mapsOut == Tryz.prog.mapsAmong Tryz.f4.resultTypes.toList)) = true := by kernel_rfl
theorem pb_j16 : ((Rows.propsBuiltinRow.loops == (Tryz.f4.params.toList ++ Rows.propsBuiltinSpec.plain.varTypes Tryz.prog).any (Tryz.prog.loopsFrom ·))) = true := by kernel_rfl
theorem pb_j17 : ((Rows.propsBuiltinRow.wideKeys == (Tryz.f4.params.toList ++ Rows.propsBuiltinSpec.plain.varTypes Tryz.prog ++ Tryz.f4.resultTypes.toList).any (Tryz.prog.wideKeysFrom ·))) = true := by kernel_rfl
theorem pb_j18 : (Rows.propsBuiltinSpec.vars.all (Tryz.prog.varReadable ·)) = true := by kernel_rfl
theorem pb_j19 : (Tryz.f4.resultTypes.all (fun t => Tryz.prog.readableRec t && decide (t < Tryz.prog.types.size))) = true := by kernel_rfl
theorem pb_j20 : ((Rows.propsBuiltinRow.ifacesOut == Tryz.f4.resultTypes.toList.any (Tryz.prog.ifacesRec ·))) = true := by kernel_rfl
theorem pb_j21 : ((Rows.propsBuiltinRow.loopsOut == Tryz.f4.resultTypes.toList.any (Tryz.prog.loopsFrom ·))) = true := by kernel_rfl
theorem pb_j22 : ((Rows.propsBuiltinRow.plainKeys == Tryz.prog.plainKeys)) = true := by kernel_rfl
theorem pb_j23 : (Rows.propsBuiltinRow.shortTexts.isNone) = true := by kernel_rfl
theorem pb_j24 : (Tryz.prog.stopsHeard) = true := by kernel_rfl
theorem pb_j25 : (Tryz.prog.mayEnter) = true := by kernel_rfl
theorem pb_j26 : ((Rows.propsBuiltinRow.lifted == Tryz.prog.liftsFinal)) = true := by kernel_rfl
theorem pb_j27 : ((Tryz.prog.make == some Rows.propsBuiltinRow.make)) = true := by kernel_rfl
theorem pb_j28 : ((Rows.propsBuiltinRow.kinds == (if Rows.propsBuiltinRow.domain.isEmpty then [] else Tryz.f4.params.toList.map fun t => match Tryz.prog.underlying t with | some (.int k) => some k | _ => none))) = true := by kernel_rfl
theorem pb_j29 : ((Rows.propsBuiltinRow.pinned == Rows.propsBuiltinRow.pinnedBy)) = true := by kernel_rfl
theorem pb_j30 : ((Rows.propsBuiltinRow.veiled == (Tryz.f4.params.toList ++ Rows.propsBuiltinSpec.plain.varTypes Tryz.prog ++ Tryz.f4.resultTypes.toList).any (Tryz.prog.veiledRec ·))) = true := by kernel_rfl
theorem pb_j31 : (Rows.propsBuiltinRow.veiledFits Tryz.prog Tryz.f4.params.toList (Tryz.f4.params.toList ++ Rows.propsBuiltinSpec.plain.varTypes Tryz.prog ++ Tryz.f4.resultTypes.toList)) = true := by kernel_rfl
set_option maxRecDepth 1000000 in
theorem pb_joined : joinedFacts Tryz.prog 4 Tryz.f4 Rows.propsBuiltinSpec Rows.propsBuiltinRow = true :=
  (pb_and (pb_and (pb_and (pb_and (pb_and (pb_and (pb_and (pb_and (pb_and (pb_and (pb_and (pb_and (pb_and (pb_and (pb_and (pb_and (pb_and (pb_and (pb_and (pb_and (pb_and (pb_and (pb_and (pb_and (pb_and (pb_and (pb_and (pb_and (pb_and (pb_and (pb_and pb_j0 pb_j1) pb_j2) pb_j3) pb_j4) pb_j5) pb_j6) pb_j7) pb_j8) pb_j9) pb_j10) pb_j11) pb_j12) pb_j13) pb_j14) pb_j15) pb_j16) pb_j17) pb_j18) pb_j19) pb_j20) pb_j21) pb_j22) pb_j23) pb_j24) pb_j25) pb_j26) pb_j27) pb_j28) pb_j29) pb_j30) pb_j31)

theorem propsBuiltin_holds : Rows.PropsBuiltinSaid :=
  OpenClaim.holds_of_wide 4 Tryz.f4 rfl rfl rfl rfl rfl rfl rfl ⟨rfl, rfl, rfl, rfl, rfl⟩ rfl rfl rfl rfl rfl (by kernel_rfl) Tryz.func4 pb_joined
    (of_decide_eq_true (by kernel_rfl)) (by unfold Func.isWrapper; first | (rw [if_pos (by decide +kernel)]; kernel_rfl) | (rw [if_neg (by decide +kernel)]; exact ⟨rfl, rfl⟩))
    (fun os started H enc _ => pb_lifted os started H enc)

/-- THE TIED CARD. -/
theorem propsBuiltin_card : Rows.PropsBuiltinCardSaid :=
  Claim7.holds_tied_plain_at .later [] [.sentinel, .sentinel, .sentinel, .sentinel] true (true, "425272658a3a0c35279a7c5ed70ece5e81f12970c8386cb5167a54606503493f") false
    propsBuiltin_holds (fun _ h => by cases h) (by kernel_rfl) (fun _ h => by cases h) propsBuiltin_row_tie rfl ⟨rfl, rfl⟩ (by kernel_rfl) rfl
    (fun f fn hf hfn => by
      obtain rfl : f = 4 := Option.some.inj ((show Tryz.prog.funcNamed "inglenook/inglenooklaw13.PropsBuiltin" = some 4 by kernel_rfl).symm.trans hf) |>.symm
      obtain rfl : fn = Tryz.f4 := (Option.some.inj (Tryz.func4.symm.trans hfn)).symm
      exact ⟨by kernel_rfl, fun j t ht => by
        rw [Tryz.params4] at ht
        have h3 : t = 9 ∨ t = 3 ∨ t = 4 := by
          rcases j with _ | _ | _ | j
          · left; simpa using ht.symm
          · right; left; simpa using ht.symm
          · right; right; simpa using ht.symm
          · simp at ht
        rcases h3 with rfl | rfl | rfl
        · exact (show Tryz.prog.wantsStandIn 9 = false by kernel_rfl)
        · exact (show Tryz.prog.wantsStandIn 3 = false by kernel_rfl)
        · exact (show Tryz.prog.wantsStandIn 4 = false by kernel_rfl)
        ⟩)
    (by kernel_rfl)
#print axioms propsBuiltin_card
end Go.Proofs.YtnphgcbknfmapaaGreatDoor
