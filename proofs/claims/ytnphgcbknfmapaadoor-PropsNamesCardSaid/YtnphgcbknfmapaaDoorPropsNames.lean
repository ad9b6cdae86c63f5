/-
  PROVED: a property's name is there once up and down: above it and below it the name is refused, beside it is not
  CONDITIONS: none besides the given statement's own.
-/
import Derived.Test.YtnphgcbknfmapaaDoorPnmAG
import Derived.Test.YtnphgcbknfmapaaDoorPnmAA
namespace Go.Proofs.YtnphgcbknfmapaaDoor
open Go.ChangeShapes Go.WideShapes Go.ChangeAt Go.RowKit Go.Lib
open Go.ChangeMaps (open_string shut_string)
set_option linter.unusedVariables false


theorem pn_door (os : Os) (args : Array Value) : laidMetH Tryd.prog Rows.propsNamesRow.laid ((World.laidAll Tryd.prog os Rows.propsNamesRow.laid).forCall (fun _ _ => 0) ⟨#[], args, []⟩).memory := by
  rw [MakeChecks.laidMetH_plain _ _ _ (by kernel_rfl)]; exact laidMet_laidAll _ (by kernel_rfl) (by kernel_rfl)

set_option maxRecDepth 100000 in
theorem pn_lifted (os : Os) (started : os.Started) (H : Type) (enc : TypeId × Value → H) :
    ReturnsInHanded {} Tryd.checked os 3 .any (fun w args => (Rows.propsNamesSpec.pre enc Tryd.prog Tryd.f3 [] false w args ∧ laidMetH Tryd.prog Rows.propsNamesRow.laid w) ∧ sizedMet enc Tryd.prog Tryd.f3 (OpenSpec.ofChange Rows.propsNamesSpec) false w args)
      (Rows.propsNamesSpec.post enc Tryd.prog Tryd.f3 false true false false) := by
  refine handed_and_shaped (C := Tryd.checked) (X := fun w _ => laidMetH Tryd.prog Rows.propsNamesRow.laid w) (fun _ _ _ hh h => h.of_heap hh) own_knob started (by kernel_rfl) Tryd.func3
    (ChangeSpec.witness_shaped (enc := enc) (C := Tryd.checked) (os := os) (X := fun w _ => laidMetH Tryd.prog Rows.propsNamesRow.laid w) false (World.laidAll Tryd.prog os Rows.propsNamesRow.laid) #[.bool false, .bool false, .bool false, .string ByteArray.empty] 8 (World.laidAll_os _ _ _) (World.shaped_of_ZipB (by kernel_rfl) (by kernel_rfl)) (by kernel_rfl) (by kernel_rfl) (by kernel_rfl) (pn_door os _)) ?_
  intro W base args ds gs before hval0 hW hwt hL hS
  have hval : ∀ (j : Nat) t v, Tryd.f3.params[j]? = some t → args[j]? = some v → Value.okWide Tryd.prog W .any base t v := hval0
  have hW' := hW
  obtain ⟨p, q, hA0, hV, rfl, hfz, hnd⟩ := hW
  have hA : DataW.TrodAll enc Tryd.prog W 0 (fun _ => true) true Tryd.f3.params.toList args.toList ds p := hA0
  rw [Tryd.params3] at hA hval
  obtain ⟨v0, vs0, d0, ds0, p0, q0, hargs, rfl, rfl, h0, r0⟩ := trodAll_cons hA
  obtain ⟨v1, vs1, d1, ds1, p1, q1, rfl, rfl, rfl, h1, r1⟩ := trodAll_cons r0
  obtain ⟨v2, vs2, d2, ds2, p2, q2, rfl, rfl, rfl, h2, r2⟩ := trodAll_cons r1
  obtain ⟨v3, vs3, d3, ds3, p3, q3, rfl, rfl, rfl, h3, r3⟩ := trodAll_cons r2
  obtain ⟨rfl, rfl, rfl⟩ := trodAll_nil r3
  obtain rfl : args = #[v0, v1, v2, v3] := by cases args; simp_all
  obtain ⟨rfl, rfl⟩ := trodVars_none hV
  obtain ⟨a0, rfl, rfl, rfl⟩ := open_bool Tryd.underlying4 (hval 0 4 v0 rfl rfl) h0
  obtain ⟨a1, rfl, rfl, rfl⟩ := open_bool Tryd.underlying4 (hval 1 4 v1 rfl rfl) h1
  obtain ⟨a2, rfl, rfl, rfl⟩ := open_bool Tryd.underlying4 (hval 2 4 v2 rfl rfl) h2
  obtain ⟨a3, rfl, rfl, rfl, w3⟩ := open_string Tryd.underlying9 (hval 3 9 v3 rfl rfl) h3
  clear hA0 hval0
  simp only [List.append_nil] at hW'
  refine (propsNames_c a0 a1 a2 a3 W).mono fun e W' ⟨he, hb⟩ => ?_
  subst he
  exact ⟨_, rfl, _, _, _, [], [], [], hW', (trodAll_cons_mk (shut_bool Tryd.underlying4 _) trodAll_mk0), (trodAll_cons_mk (shut_bool Tryd.underlying4 _) (trodAll_cons_mk (shut_bool Tryd.underlying4 _) (trodAll_cons_mk (shut_bool Tryd.underlying4 _) (trodAll_cons_mk (shut_string Tryd.underlying9 w3) trodAll_mk0)))), rfl, hb.frame _, fun h => by cases h⟩

theorem pn_and {a b : Bool} (ha : a = true) (hb : b = true) : (a && b) = true := by rw [ha, hb]; rfl
theorem pn_j0 : (Rows.propsNamesRow.wf (OpenSpec.ofChange Rows.propsNamesSpec)) = true := by kernel_rfl
theorem pn_j1 : (laidOutB Tryd.prog) = true := by kernel_rfl
theorem pn_j2 : (mapsRowed Tryd.prog) = true := by kernel_rfl
theorem pn_j3 : (Tryd.f3.params.all (Tryd.prog.readableRec ·)) = true := by kernel_rfl
theorem pn_j4 : (namedTie Tryd.prog Rows.propsNamesRow.named Rows.propsNamesSpec.vars) = true := by kernel_rfl
theorem pn_j5 : ((Rows.propsNamesRow.stops == [])) = true := by kernel_rfl
theorem pn_j6 : ((Tryd.prog.stops == [])) = true := by kernel_rfl
theorem pn_j7 : ((Rows.propsNamesRow.knobs == [])) = true := by kernel_rfl
theorem pn_j8 : ((Tryd.prog.stopKnobs == [])) = true := by kernel_rfl
theorem pn_j9 : ((Rows.propsNamesRow.inPlace == Tryd.prog.inPlace 3)) = true := by kernel_rfl
theorem pn_j10 : ((Rows.propsNamesRow.unfollowed == Tryd.prog.unfollowed 3)) = true := by kernel_rfl
theorem pn_j11 : ((Rows.propsNamesRow.recurses == Tryd.prog.recurses 3)) = true := by kernel_rfl
theorem pn_j12 : ((Rows.propsNamesRow.named == Tryd.prog.varsNamed 3)) = true := by kernel_rfl
theorem pn_j13 : ((Rows.propsNamesRow.maps == (Tryd.f3.params.toList ++ Rows.propsNamesSpec.plain.varTypes Tryd.prog).any (Tryd.prog.mapsRec ·))) = true := by kernel_rfl
theorem pn_j14 : ((Rows.propsNamesRow.ifaces == (Tryd.f3.params.toList ++ Rows.propsNamesSpec.plain.varTypes Tryd.prog).any (Tryd.prog.ifacesRec ·))) = true := by kernel_rfl
theorem pn_j15 : ((Rows.propsNamesRow.mapsOut == Tryd.prog.mapsAmong Tryd.f3.resultTypes.toList)) = true := by kernel_rfl
theorem pn_j16 : ((Rows.propsNamesRow.loops == (Tryd.f3.params.toList ++ Rows.propsNamesSpec.plain.varTypes Tryd.prog).any (Tryd.prog.loopsFrom ·))) = true := by kernel_rfl
theorem pn_j17 : ((Rows.propsNamesRow.wideKeys == (Tryd.f3.params.toList ++ Rows.propsNamesSpec.plain.varTypes Tryd.prog ++ Tryd.f3.resultTypes.toList).any (Tryd.prog.wideKeysFrom ·))) = true := by kernel_rfl
theorem pn_j18 : (Rows.propsNamesSpec.vars.all (Tryd.prog.varReadable ·)) = true := by kernel_rfl
theorem pn_j19 : (Tryd.f3.resultTypes.all (fun t => Tryd.prog.readableRec t && decide (t < Tryd.prog.types.size))) = true := by kernel_rfl
theorem pn_j20 : ((Rows.propsNamesRow.ifacesOut == Tryd.f3.resultTypes.toList.any (Tryd.prog.ifacesRec ·))) = true := by kernel_rfl
theorem pn_j21 : ((Rows.propsNamesRow.loopsOut == Tryd.f3.resultTypes.toList.any (Tryd.prog.loopsFrom ·))) = true := by kernel_rfl
theorem pn_j22 : ((Rows.propsNamesRow.plainKeys == Tryd.prog.plainKeys)) = true := by kernel_rfl
theorem pn_j23 : (Rows.propsNamesRow.shortTexts.isNone) = true := by kernel_rfl
theorem pn_j24 : (Tryd.prog.stopsHeard) = true := by kernel_rfl
theorem pn_j25 : (Tryd.prog.mayEnter) = true := by kernel_rfl
theorem pn_j26 : ((Rows.propsNamesRow.lifted == Tryd.prog.liftsFinal)) = true := by kernel_rfl
theorem pn_j27 : ((Tryd.prog.make == some Rows.propsNamesRow.make)) = true := by kernel_rfl
theorem pn_j28 : ((Rows.propsNamesRow.kinds == (if Rows.propsNamesRow.domain.isEmpty then [] else Tryd.f3.params.toList.map fun t => match Tryd.prog.underlying t with | some (.int k) => some k | _ => none))) = true := by kernel_rfl
theorem pn_j29 : ((Rows.propsNamesRow.pinned == Rows.propsNamesRow.pinnedBy)) = true := by kernel_rfl
theorem pn_j30 : ((Rows.propsNamesRow.veiled == (Tryd.f3.params.toList ++ Rows.propsNamesSpec.plain.varTypes Tryd.prog ++ Tryd.f3.resultTypes.toList).any (Tryd.prog.veiledRec ·))) = true := by kernel_rfl
theorem pn_j31 : (Rows.propsNamesRow.veiledFits Tryd.prog Tryd.f3.params.toList (Tryd.f3.params.toList ++ Rows.propsNamesSpec.plain.varTypes Tryd.prog ++ Tryd.f3.resultTypes.toList)) = true := by kernel_rfl
set_option maxRecDepth 1000000 in
theorem pn_joined : joinedFacts Tryd.prog 3 Tryd.f3 Rows.propsNamesSpec Rows.propsNamesRow = true :=
  (pn_and (pn_and (pn_and (pn_and (pn_and (pn_and (pn_and (pn_and (pn_and (pn_and (pn_and (pn_and (pn_and (pn_and (pn_and (pn_and (pn_and (pn_and (pn_and (pn_and (pn_and (pn_and (pn_and (pn_and (pn_and (pn_and (pn_and (pn_and (pn_and (pn_and (pn_and pn_j0 pn_j1) pn_j2) pn_j3) pn_j4) pn_j5) pn_j6) pn_j7) pn_j8) pn_j9) pn_j10) pn_j11) pn_j12) pn_j13) pn_j14) pn_j15) pn_j16) pn_j17) pn_j18) pn_j19) pn_j20) pn_j21) pn_j22) pn_j23) pn_j24) pn_j25) pn_j26) pn_j27) pn_j28) pn_j29) pn_j30) pn_j31)

theorem propsNames_holds : Rows.PropsNamesSaid :=
  OpenClaim.holds_of_wide 3 Tryd.f3 rfl rfl rfl rfl rfl rfl rfl ⟨rfl, rfl, rfl, rfl, rfl⟩ rfl rfl rfl rfl rfl (by kernel_rfl) Tryd.func3 pn_joined
    (of_decide_eq_true (by kernel_rfl)) (by unfold Func.isWrapper; first | (rw [if_pos (by decide +kernel)]; kernel_rfl) | (rw [if_neg (by decide +kernel)]; exact ⟨rfl, rfl⟩))
    (fun os started H enc _ => pn_lifted os started H enc)

/-- THE TIED CARD. -/
theorem propsNames_card : Rows.PropsNamesCardSaid :=
  Claim7.holds_tied_plain_at .later [] [.sentinel, .sentinel, .sentinel, .sentinel] true (true, "eaaa4a2cf325b26ac8a0708452a4b3c47e36b9ac32fe53cdb3337a76fec5797a") false
    propsNames_holds (fun _ h => by cases h) (by kernel_rfl) (fun _ h => by cases h) propsNames_row_tie rfl ⟨rfl, rfl⟩ (by kernel_rfl) rfl
    (fun f fn hf hfn => by
      obtain rfl : f = 3 := Option.some.inj ((show Tryd.prog.funcNamed "inglenook/inglenooklaw13.PropsNames" = some 3 by kernel_rfl).symm.trans hf) |>.symm
      obtain rfl : fn = Tryd.f3 := (Option.some.inj (Tryd.func3.symm.trans hfn)).symm
      exact ⟨by kernel_rfl, fun j t ht => by
        rw [Tryd.params3] at ht
        have h3 : t = 4 ∨ t = 4 ∨ t = 4 ∨ t = 9 := by
          rcases j with _ | _ | _ | _ | j
          · left; simpa using ht.symm
          · right; left; simpa using ht.symm
          · right; right; left; simpa using ht.symm
          · right; right; right; simpa using ht.symm
          · simp at ht
        rcases h3 with rfl | rfl | rfl | rfl
        · exact (show Tryd.prog.wantsStandIn 4 = false by kernel_rfl)
        · exact (show Tryd.prog.wantsStandIn 4 = false by kernel_rfl)
        · exact (show Tryd.prog.wantsStandIn 4 = false by kernel_rfl)
        · exact (show Tryd.prog.wantsStandIn 9 = false by kernel_rfl)
        ⟩)
    (by kernel_rfl)
#print axioms propsNames_card
end Go.Proofs.YtnphgcbknfmapaaDoor
