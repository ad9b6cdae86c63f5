/-
  PROVED: Down a row of objects a property is what the nearest above has set; cleared, it is the parent's again; taken away, none; without the document's table.
  CONDITIONS: none besides the given statement's own.
-/
import Derived.Test.YtnphgcbknfmapaaGreatDoorPinAI
import Derived.Test.YtnphgcbknfmapaaGreatDoorPinAA
import Derived.Test.YtnphgcbknfmapaaGreatDoorPinAG
namespace Go.Proofs.YtnphgcbknfmapaaGreatDoor
open Go.ChangeShapes Go.WideShapes Go.ChangeAt Go.RowKit Go.Lib
open Go.ChangeMaps (open_string shut_string)
set_option linter.unusedVariables false


theorem pih_door (os : Os) (args : Array Value) : laidMetH Tryz.prog Rows.propsInheritRow.laid ((World.laidAll Tryz.prog os Rows.propsInheritRow.laid).forCall (fun _ _ => 0) ⟨#[], args, []⟩).memory := by
  rw [MakeChecks.laidMetH_plain _ _ _ (by kernel_rfl)]; exact laidMet_laidAll _ (by kernel_rfl) (by kernel_rfl)

set_option maxRecDepth 100000 in
theorem pih_lifted (os : Os) (started : os.Started) (H : Type) (enc : TypeId × Value → H) :
    ReturnsInHanded {} Tryz.checked os 5 .any (fun w args => (Rows.propsInheritSpec.pre enc Tryz.prog Tryz.f5 [] false w args ∧ laidMetH Tryz.prog Rows.propsInheritRow.laid w) ∧ sizedMet enc Tryz.prog Tryz.f5 (OpenSpec.ofChange Rows.propsInheritSpec) false w args)
      (Rows.propsInheritSpec.post enc Tryz.prog Tryz.f5 false true false false) := by
  refine handed_and_shaped (C := Tryz.checked) (X := fun w _ => laidMetH Tryz.prog Rows.propsInheritRow.laid w) (fun _ _ _ hh h => h.of_heap hh) own_knob started (by kernel_rfl) Tryz.func5
    (ChangeSpec.witness_shaped (enc := enc) (C := Tryz.checked) (os := os) (X := fun w _ => laidMetH Tryz.prog Rows.propsInheritRow.laid w) false (World.laidAll Tryz.prog os Rows.propsInheritRow.laid) #[.int .i64 0, .slice none 0 0, .slice none 0 0] 8 (World.laidAll_os _ _ _) (World.shaped_of_ZipB (by kernel_rfl) (by kernel_rfl)) (by kernel_rfl) (by kernel_rfl) (by kernel_rfl) (pih_door os _)) ?_
  intro W base args ds gs before hval0 hW hwt hL hS
  have hval : ∀ (j : Nat) t v, Tryz.f5.params[j]? = some t → args[j]? = some v → Value.okWide Tryz.prog W .any base t v := hval0
  have hW' := hW
  obtain ⟨p, q, hA0, hV, rfl, hfz, hnd⟩ := hW
  have hA : DataW.TrodAll enc Tryz.prog W 0 (fun _ => true) true Tryz.f5.params.toList args.toList ds p := hA0
  rw [Tryz.params5] at hA hval
  obtain ⟨v0, vs0, d0, ds0, p0, q0, hargs, rfl, rfl, h0, r0⟩ := trodAll_cons hA
  obtain ⟨v1, vs1, d1, ds1, p1, q1, rfl, rfl, rfl, h1, r1⟩ := trodAll_cons r0
  obtain ⟨v2, vs2, d2, ds2, p2, q2, rfl, rfl, rfl, h2, r2⟩ := trodAll_cons r1
  obtain ⟨rfl, rfl, rfl⟩ := trodAll_nil r2
  obtain rfl : args = #[v0, v1, v2] := by cases args; simp_all
  obtain ⟨rfl, rfl⟩ := trodVars_none hV
  obtain ⟨a0, rfl, rfl, rfl, w0⟩ := open_int Tryz.underlying3 (hval 0 3 v0 rfl rfl) h0
  have hr0 := i64_range w0
  have hk1 := h1
  obtain ⟨l1, sa1, sc1, rfl, hn1, hl1⟩ := open_intsO (ocells_slice Tryz.underlying22 (hval 1 22 v1 rfl rfl)) h1
  have hk2 := h2
  obtain ⟨l2, sa2, sc2, rfl, hn2, hl2⟩ := open_intsO (ocells_slice Tryz.underlying22 (hval 2 22 v2 rfl rfl)) h2
  clear hA0 hval0
  simp only [List.append_nil] at hW'
  refine (propsInherit_c a0 l1 sa1 sc1 l2 sa2 sc2 W hr0 hl1 hl2).mono fun e W' ⟨he, hb⟩ => ?_
  subst he
  exact ⟨_, rfl, _, _, _, [], _, [], hW', (trodAll_cons_mk (shut_bool Tryz.underlying4 _) trodAll_mk0), (trodAll_cons_mk (shut_int Tryz.underlying3 w0) (trodAll_cons_mk (Below.trod olaid_out (by kernel_rfl) (of_decide_eq_true (by kernel_rfl)) hk1 hb (fun x hx => hW'.lt x (by simp [hx]))) (trodAll_cons_mk (Below.trod olaid_out (by kernel_rfl) (of_decide_eq_true (by kernel_rfl)) hk2 hb (fun x hx => hW'.lt x (by simp [hx]))) trodAll_mk0))), rfl, hb.frame _, fun h => by cases h⟩

theorem pih_and {a b : Bool} (ha : a = true) (hb : b = true) : (a && b) = true := by rw [ha, hb]; rfl
theorem pih_j0 : (Rows.propsInheritRow.wf (OpenSpec.ofChange Rows.propsInheritSpec)) = true := by kernel_rfl
theorem pih_j1 : (laidOutB Tryz.prog) = true := by kernel_rfl
theorem pih_j2 : (mapsRowed Tryz.prog) = true := by kernel_rfl
theorem pih_j3 : (Tryz.f5.params.all (Tryz.prog.readableRec ·)) = true := by kernel_rfl
theorem pih_j4 : (namedTie Tryz.prog Rows.propsInheritRow.named Rows.propsInheritSpec.vars) = true := by kernel_rfl
theorem pih_j5 : ((Rows.propsInheritRow.stops == [])) = true := by kernel_rfl
theorem pih_j6 : ((Tryz.prog.stops == [])) = true := by kernel_rfl
theorem pih_j7 : ((Rows.propsInheritRow.knobs == [])) = true := by kernel_rfl
theorem pih_j8 : ((Tryz.prog.stopKnobs == [])) = true := by kernel_rfl
theorem pih_j9 : ((Rows.propsInheritRow.inPlace == Tryz.prog.inPlace 5)) = true := by kernel_rfl
theorem pih_j10 : ((Rows.propsInheritRow.unfollowed == Tryz.prog.unfollowed 5)) = true := by kernel_rfl
theorem pih_j11 : ((Rows.propsInheritRow.recurses == Tryz.prog.recurses 5)) = true := by kernel_rfl
theorem pih_j12 : ((Rows.propsInheritRow.named == Tryz.prog.varsNamed 5)) = true := by kernel_rfl
theorem pih_j13 : ((Rows.propsInheritRow.maps == (Tryz.f5.params.toList ++ Rows.propsInheritSpec.plain.varTypes Tryz.prog).any (Tryz.prog.mapsRec ·))) = true := by kernel_rfl
theorem pih_j14 : ((Rows.propsInheritRow.ifaces == (Tryz.f5.params.toList ++ Rows.propsInheritSpec.plain.varTypes Tryz.prog).any (Tryz.prog.ifacesRec ·))) = true := by kernel_rfl
theorem pih_j15 : ((Rows.propsInheritRow.mapsOut == Tryz.prog.mapsAmong Tryz.f5.resultTypes.toList)) = true := by kernel_rfl
theorem pih_j16 : ((Rows.propsInheritRow.loops == (Tryz.f5.params.toList ++ Rows.propsInheritSpec.plain.varTypes Tryz.prog).any (Tryz.prog.loopsFrom ·))) = true := by kernel_rfl
theorem pih_j17 : ((Rows.propsInheritRow.wideKeys == (Tryz.f5.params.toList ++ Rows.propsInheritSpec.plain.varTypes Tryz.prog ++ Tryz.f5.resultTypes.toList).any (Tryz.prog.wideKeysFrom ·))) = true := by kernel_rfl
theorem pih_j18 : (Rows.propsInheritSpec.vars.all (Tryz.prog.varReadable ·)) = true := by kernel_rfl
theorem pih_j19 : (Tryz.f5.resultTypes.all (fun t => Tryz.prog.readableRec t && decide (t < Tryz.prog.types.size))) = true := by kernel_rfl
theorem pih_j20 : ((Rows.propsInheritRow.ifacesOut == Tryz.f5.resultTypes.toList.any (Tryz.prog.ifacesRec ·))) = true := by kernel_rfl
theorem pih_j21 : ((Rows.propsInheritRow.loopsOut == Tryz.f5.resultTypes.toList.any (Tryz.prog.loopsFrom ·))) = true := by kernel_rfl
theorem pih_j22 : ((Rows.propsInheritRow.plainKeys == Tryz.prog.plainKeys)) = true := by kernel_rfl
theorem pih_j23 : (Rows.propsInheritRow.shortTexts.isNone) = true := by kernel_rfl
theorem pih_j24 : (Tryz.prog.stopsHeard) = true := by kernel_rfl
theorem pih_j25 : (Tryz.prog.mayEnter) = true := by kernel_rfl
theorem pih_j26 : ((Rows.propsInheritRow.lifted == Tryz.prog.liftsFinal)) = true := by kernel_rfl
theorem pih_j27 : ((Tryz.prog.make == some Rows.propsInheritRow.make)) = true := by kernel_rfl
theorem pih_j28 : ((Rows.propsInheritRow.kinds == (if Rows.propsInheritRow.domain.isEmpty then [] else Tryz.f5.params.toList.map fun t => match Tryz.prog.underlying t with | some (.int k) => some k | _ => none))) = true := by kernel_rfl
theorem pih_j29 : ((Rows.propsInheritRow.pinned == Rows.propsInheritRow.pinnedBy)) = true := by kernel_rfl
theorem pih_j30 : ((Rows.propsInheritRow.veiled == (Tryz.f5.params.toList ++ Rows.propsInheritSpec.plain.varTypes Tryz.prog ++ Tryz.f5.resultTypes.toList).any (Tryz.prog.veiledRec ·))) = true := by kernel_rfl
theorem pih_j31 : (Rows.propsInheritRow.veiledFits Tryz.prog Tryz.f5.params.toList (Tryz.f5.params.toList ++ Rows.propsInheritSpec.plain.varTypes Tryz.prog ++ Tryz.f5.resultTypes.toList)) = true := by kernel_rfl
set_option maxRecDepth 1000000 in
theorem pih_joined : joinedFacts Tryz.prog 5 Tryz.f5 Rows.propsInheritSpec Rows.propsInheritRow = true :=
  (pih_and (pih_and (pih_and (pih_and (pih_and (pih_and (pih_and (pih_and (pih_and (pih_and (pih_and (pih_and (pih_and (pih_and (pih_and (pih_and (pih_and (pih_and (pih_and (pih_and (pih_and (pih_and (pih_and (pih_and (pih_and (pih_and (pih_and (pih_and (pih_and (pih_and (pih_and pih_j0 pih_j1) pih_j2) pih_j3) pih_j4) pih_j5) pih_j6) pih_j7) pih_j8) pih_j9) pih_j10) pih_j11) pih_j12) pih_j13) pih_j14) pih_j15) pih_j16) pih_j17) pih_j18) pih_j19) pih_j20) pih_j21) pih_j22) pih_j23) pih_j24) pih_j25) pih_j26) pih_j27) pih_j28) pih_j29) pih_j30) pih_j31)

theorem propsInherit_holds : Rows.PropsInheritSaid :=
  OpenClaim.holds_of_wide 5 Tryz.f5 rfl rfl rfl rfl rfl rfl rfl ⟨rfl, rfl, rfl, rfl, rfl⟩ rfl rfl rfl rfl rfl (by kernel_rfl) Tryz.func5 pih_joined
    (of_decide_eq_true (by kernel_rfl)) (by unfold Func.isWrapper; first | (rw [if_pos (by decide +kernel)]; kernel_rfl) | (rw [if_neg (by decide +kernel)]; exact ⟨rfl, rfl⟩))
    (fun os started H enc _ => pih_lifted os started H enc)

/-- THE TIED CARD. -/
theorem propsInherit_card : Rows.PropsInheritCardSaid :=
  Claim7.holds_tied_plain_at .later [] [.sentinel, .sentinel, .sentinel, .sentinel] true (true, "425272658a3a0c35279a7c5ed70ece5e81f12970c8386cb5167a54606503493f") false
    propsInherit_holds (fun _ h => by cases h) (by kernel_rfl) (fun _ h => by cases h) propsInherit_row_tie rfl ⟨rfl, rfl⟩ (by kernel_rfl) rfl
    (fun f fn hf hfn => by
      obtain rfl : f = 5 := Option.some.inj ((show Tryz.prog.funcNamed "inglenook/inglenooklaw13.PropsInherit" = some 5 by kernel_rfl).symm.trans hf) |>.symm
      obtain rfl : fn = Tryz.f5 := (Option.some.inj (Tryz.func5.symm.trans hfn)).symm
      exact ⟨by kernel_rfl, fun j t ht => by
        rw [Tryz.params5] at ht
        have h3 : t = 3 ∨ t = 22 ∨ t = 22 := by
          rcases j with _ | _ | _ | j
          · left; simpa using ht.symm
          · right; left; simpa using ht.symm
          · right; right; simpa using ht.symm
          · simp at ht
        rcases h3 with rfl | rfl | rfl
        · exact (show Tryz.prog.wantsStandIn 3 = false by kernel_rfl)
        · exact (show Tryz.prog.wantsStandIn 22 = false by kernel_rfl)
        · exact (show Tryz.prog.wantsStandIn 22 = false by kernel_rfl)
        ⟩)
    (by kernel_rfl)
#print axioms propsInherit_card
end Go.Proofs.YtnphgcbknfmapaaGreatDoor
