/-
  PROVED: whose a slot is, and its bits, are set for that object alone; a child made later takes them by its parent's
  CONDITIONS: none besides the given statement's own.
-/
import Derived.Test.YtnphgcbknfmapaaDoorPowAH
import Derived.Test.YtnphgcbknfmapaaDoorPowAA
namespace Go.Proofs.YtnphgcbknfmapaaDoor
open Go.ChangeShapes Go.WideShapes Go.ChangeAt Go.RowKit Go.Lib
open Go.ChangeMaps (open_string shut_string)
set_option linter.unusedVariables false


theorem po_door (os : Os) (args : Array Value) : laidMetH Tryd.prog Rows.propsOwnersRow.laid ((World.laidAll Tryd.prog os Rows.propsOwnersRow.laid).forCall (fun _ _ => 0) ⟨#[], args, []⟩).memory := by
  rw [MakeChecks.laidMetH_plain _ _ _ (by kernel_rfl)]; exact laidMet_laidAll _ (by kernel_rfl) (by kernel_rfl)

set_option maxRecDepth 100000 in
theorem po_lifted (os : Os) (started : os.Started) (H : Type) (enc : TypeId × Value → H) :
    ReturnsInHanded {} Tryd.checked os 4 .any (fun w args => (Rows.propsOwnersSpec.pre enc Tryd.prog Tryd.f4 [] false w args ∧ laidMetH Tryd.prog Rows.propsOwnersRow.laid w) ∧ sizedMet enc Tryd.prog Tryd.f4 (OpenSpec.ofChange Rows.propsOwnersSpec) false w args)
      (Rows.propsOwnersSpec.post enc Tryd.prog Tryd.f4 false true false false) := by
  refine handed_and_shaped (C := Tryd.checked) (X := fun w _ => laidMetH Tryd.prog Rows.propsOwnersRow.laid w) (fun _ _ _ hh h => h.of_heap hh) own_knob started (by kernel_rfl) Tryd.func4
    (ChangeSpec.witness_shaped (enc := enc) (C := Tryd.checked) (os := os) (X := fun w _ => laidMetH Tryd.prog Rows.propsOwnersRow.laid w) false (World.laidAll Tryd.prog os Rows.propsOwnersRow.laid) #[.int .i64 0, .int .i64 0, .int .i64 0] 8 (World.laidAll_os _ _ _) (World.shaped_of_ZipB (by kernel_rfl) (by kernel_rfl)) (by kernel_rfl) (by kernel_rfl) (by kernel_rfl) (po_door os _)) ?_
  intro W base args ds gs before hval0 hW hwt hL hS
  have hval : ∀ (j : Nat) t v, Tryd.f4.params[j]? = some t → args[j]? = some v → Value.okWide Tryd.prog W .any base t v := hval0
  have hW' := hW
  obtain ⟨p, q, hA0, hV, rfl, hfz, hnd⟩ := hW
  have hA : DataW.TrodAll enc Tryd.prog W 0 (fun _ => true) true Tryd.f4.params.toList args.toList ds p := hA0
  rw [Tryd.params4] at hA hval
  obtain ⟨v0, vs0, d0, ds0, p0, q0, hargs, rfl, rfl, h0, r0⟩ := trodAll_cons hA
  obtain ⟨v1, vs1, d1, ds1, p1, q1, rfl, rfl, rfl, h1, r1⟩ := trodAll_cons r0
  obtain ⟨v2, vs2, d2, ds2, p2, q2, rfl, rfl, rfl, h2, r2⟩ := trodAll_cons r1
  obtain ⟨rfl, rfl, rfl⟩ := trodAll_nil r2
  obtain rfl : args = #[v0, v1, v2] := by cases args; simp_all
  obtain ⟨rfl, rfl⟩ := trodVars_none hV
  obtain ⟨a0, rfl, rfl, rfl, w0⟩ := open_int Tryd.underlying3 (hval 0 3 v0 rfl rfl) h0
  have hr0 := i64_range w0
  obtain ⟨a1, rfl, rfl, rfl, w1⟩ := open_int Tryd.underlying3 (hval 1 3 v1 rfl rfl) h1
  have hr1 := i64_range w1
  obtain ⟨a2, rfl, rfl, rfl, w2⟩ := open_int Tryd.underlying3 (hval 2 3 v2 rfl rfl) h2
  have hr2 := i64_range w2
  clear hA0 hval0
  simp only [List.append_nil] at hW'
  refine (propsOwners_f a0 a1 a2 W hr0.1 hr0.2 hr1.1 hr1.2 hr2.1 hr2.2).mono fun e W' ⟨he, hb⟩ => ?_
  subst he
  exact ⟨_, rfl, _, _, _, [], [], [], hW', (trodAll_cons_mk (shut_bool Tryd.underlying4 _) trodAll_mk0), (trodAll_cons_mk (shut_int Tryd.underlying3 w0) (trodAll_cons_mk (shut_int Tryd.underlying3 w1) (trodAll_cons_mk (shut_int Tryd.underlying3 w2) trodAll_mk0))), rfl, hb.frame _, fun h => by cases h⟩

theorem po_and {a b : Bool} (ha : a = true) (hb : b = true) : (a && b) = true := by rw [ha, hb]; rfl
theorem po_j0 : (Rows.propsOwnersRow.wf (OpenSpec.ofChange Rows.propsOwnersSpec)) = true := by kernel_rfl
theorem po_j1 : (laidOutB Tryd.prog) = true := by kernel_rfl
theorem po_j2 : (mapsRowed Tryd.prog) = true := by kernel_rfl
theorem po_j3 : (Tryd.f4.params.all (Tryd.prog.readableRec ·)) = true := by kernel_rfl
theorem po_j4 : (namedTie Tryd.prog Rows.propsOwnersRow.named Rows.propsOwnersSpec.vars) = true := by kernel_rfl
theorem po_j5 : ((Rows.propsOwnersRow.stops == [])) = true := by kernel_rfl
theorem po_j6 : ((Tryd.prog.stops == [])) = true := by kernel_rfl
theorem po_j7 : ((Rows.propsOwnersRow.knobs == [])) = true := by kernel_rfl
theorem po_j8 : ((Tryd.prog.stopKnobs == [])) = true := by kernel_rfl
theorem po_j9 : ((Rows.propsOwnersRow.inPlace == Tryd.prog.inPlace 4)) = true := by kernel_rfl
theorem po_j10 : ((Rows.propsOwnersRow.unfollowed == Tryd.prog.unfollowed 4)) = true := by kernel_rfl
theorem po_j11 : ((Rows.propsOwnersRow.recurses == Tryd.prog.recurses 4)) = true := by kernel_rfl
theorem po_j12 : ((Rows.propsOwnersRow.named == Tryd.prog.varsNamed 4)) = true := by kernel_rfl
theorem po_j13 : ((Rows.propsOwnersRow.maps == (Tryd.f4.params.toList ++ Rows.propsOwnersSpec.plain.varTypes Tryd.prog).any (Tryd.prog.mapsRec ·))) = true := by kernel_rfl
theorem po_j14 : ((Rows.propsOwnersRow.ifaces == (Tryd.f4.params.toList ++ Rows.propsOwnersSpec.plain.varTypes Tryd.prog).any (Tryd.prog.ifacesRec ·))) = true := by kernel_rfl
theorem po_j15 : ((Rows.propsOwnersRow.mapsOut == Tryd.prog.mapsAmong Tryd.f4.resultTypes.toList)) = true := by kernel_rfl
theorem po_j16 : ((Rows.propsOwnersRow.loops == (Tryd.f4.params.toList ++ Rows.propsOwnersSpec.plain.varTypes Tryd.prog).any (Tryd.prog.loopsFrom ·))) = true := by kernel_rfl
theorem po_j17 : ((Rows.propsOwnersRow.wideKeys == (Tryd.f4.params.toList ++ Rows.propsOwnersSpec.plain.varTypes Tryd.prog ++ Tryd.f4.resultTypes.toList).any (Tryd.prog.wideKeysFrom ·))) = true := by kernel_rfl
theorem po_j18 : (Rows.propsOwnersSpec.vars.all (Tryd.prog.varReadable ·)) = true := by kernel_rfl
theorem po_j19 : (Tryd.f4.resultTypes.all (fun t => Tryd.prog.readableRec t && decide (t < Tryd.prog.types.size))) = true := by kernel_rfl
theorem po_j20 : ((Rows.propsOwnersRow.ifacesOut == Tryd.f4.resultTypes.toList.any (Tryd.prog.ifacesRec ·))) = true := by kernel_rfl
theorem po_j21 : ((Rows.propsOwnersRow.loopsOut == Tryd.f4.resultTypes.toList.any (Tryd.prog.loopsFrom ·))) = true := by kernel_rfl
theorem po_j22 : ((Rows.propsOwnersRow.plainKeys == Tryd.prog.plainKeys)) = true := by kernel_rfl
theorem po_j23 : (Rows.propsOwnersRow.shortTexts.isNone) = true := by kernel_rfl
theorem po_j24 : (Tryd.prog.stopsHeard) = true := by kernel_rfl
theorem po_j25 : (Tryd.prog.mayEnter) = true := by kernel_rfl
theorem po_j26 : ((Rows.propsOwnersRow.lifted == Tryd.prog.liftsFinal)) = true := by kernel_rfl
theorem po_j27 : ((Tryd.prog.make == some Rows.propsOwnersRow.make)) = true := by kernel_rfl
theorem po_j28 : ((Rows.propsOwnersRow.kinds == (if Rows.propsOwnersRow.domain.isEmpty then [] else Tryd.f4.params.toList.map fun t => match Tryd.prog.underlying t with | some (.int k) => some k | _ => none))) = true := by kernel_rfl
theorem po_j29 : ((Rows.propsOwnersRow.pinned == Rows.propsOwnersRow.pinnedBy)) = true := by kernel_rfl
theorem po_j30 : ((Rows.propsOwnersRow.veiled == (Tryd.f4.params.toList ++ Rows.propsOwnersSpec.plain.varTypes Tryd.prog ++ Tryd.f4.resultTypes.toList).any (Tryd.prog.veiledRec ·))) = true := by kernel_rfl
theorem po_j31 : (Rows.propsOwnersRow.veiledFits Tryd.prog Tryd.f4.params.toList (Tryd.f4.params.toList ++ Rows.propsOwnersSpec.plain.varTypes Tryd.prog ++ Tryd.f4.resultTypes.toList)) = true := by kernel_rfl
set_option maxRecDepth 1000000 in
theorem po_joined : joinedFacts Tryd.prog 4 Tryd.f4 Rows.propsOwnersSpec Rows.propsOwnersRow = true :=
  (po_and (po_and (po_and (po_and (po_and (po_and (po_and (po_and (po_and (po_and (po_and (po_and (po_and (po_and (po_and (po_and (po_and (po_and (po_and (po_and (po_and (po_and (po_and (po_and (po_and (po_and (po_and (po_and (po_and (po_and (po_and po_j0 po_j1) po_j2) po_j3) po_j4) po_j5) po_j6) po_j7) po_j8) po_j9) po_j10) po_j11) po_j12) po_j13) po_j14) po_j15) po_j16) po_j17) po_j18) po_j19) po_j20) po_j21) po_j22) po_j23) po_j24) po_j25) po_j26) po_j27) po_j28) po_j29) po_j30) po_j31)

theorem propsOwners_holds : Rows.PropsOwnersSaid :=
  OpenClaim.holds_of_wide 4 Tryd.f4 rfl rfl rfl rfl rfl rfl rfl ⟨rfl, rfl, rfl, rfl, rfl⟩ rfl rfl rfl rfl rfl (by kernel_rfl) Tryd.func4 po_joined
    (of_decide_eq_true (by kernel_rfl)) (by unfold Func.isWrapper; first | (rw [if_pos (by decide +kernel)]; kernel_rfl) | (rw [if_neg (by decide +kernel)]; exact ⟨rfl, rfl⟩))
    (fun os started H enc _ => po_lifted os started H enc)

/-- THE TIED CARD. -/
theorem propsOwners_card : Rows.PropsOwnersCardSaid :=
  Claim7.holds_tied_plain_at .later [] [.sentinel, .sentinel, .sentinel, .sentinel] true (true, "eaaa4a2cf325b26ac8a0708452a4b3c47e36b9ac32fe53cdb3337a76fec5797a") false
    propsOwners_holds (fun _ h => by cases h) (by kernel_rfl) (fun _ h => by cases h) propsOwners_row_tie rfl ⟨rfl, rfl⟩ (by kernel_rfl) rfl
    (fun f fn hf hfn => by
      obtain rfl : f = 4 := Option.some.inj ((show Tryd.prog.funcNamed "inglenook/inglenooklaw13.PropsOwners" = some 4 by kernel_rfl).symm.trans hf) |>.symm
      obtain rfl : fn = Tryd.f4 := (Option.some.inj (Tryd.func4.symm.trans hfn)).symm
      exact ⟨by kernel_rfl, fun j t ht => by
        rw [Tryd.params4] at ht
        have h3 : t = 3 ∨ t = 3 ∨ t = 3 := by
          rcases j with _ | _ | _ | j
          · left; simpa using ht.symm
          · right; left; simpa using ht.symm
          · right; right; simpa using ht.symm
          · simp at ht
        rcases h3 with rfl | rfl | rfl
        · exact (show Tryd.prog.wantsStandIn 3 = false by kernel_rfl)
        · exact (show Tryd.prog.wantsStandIn 3 = false by kernel_rfl)
        · exact (show Tryd.prog.wantsStandIn 3 = false by kernel_rfl)
        ⟩)
    (by kernel_rfl)
#print axioms propsOwners_card
end Go.Proofs.YtnphgcbknfmapaaDoor
