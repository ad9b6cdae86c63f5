/-
  PROVED: Who is no wizard makes just as many objects as it may; what is recycled it may make again; without the document's world.
  CONDITIONS: none besides the given statement's own.
-/
import Derived.Test.YtnphgcbknfmapaaGreatDoorWquAM
import Derived.Test.YtnphgcbknfmapaaGreatDoorWquAA
namespace Go.Proofs.YtnphgcbknfmapaaGreatDoor
open Go.ChangeShapes Go.WideShapes Go.ChangeAt Go.RowKit Go.Lib
open Go.ChangeMaps (open_string shut_string)
set_option linter.unusedVariables false


theorem wqu_door (os : Os) (args : Array Value) : laidMetH Tryz.prog Rows.worldQuotaRow.laid ((World.laidAll Tryz.prog os Rows.worldQuotaRow.laid).forCall (fun _ _ => 0) ⟨#[], args, []⟩).memory := by
  rw [MakeChecks.laidMetH_plain _ _ _ (by kernel_rfl)]; exact laidMet_laidAll _ (by kernel_rfl) (by kernel_rfl)

set_option maxRecDepth 100000 in
theorem wqu_lifted (os : Os) (started : os.Started) (H : Type) (enc : TypeId × Value → H) :
    ReturnsInHanded {} Tryz.checked os 8 .any (fun w args => (Rows.worldQuotaSpec.pre enc Tryz.prog Tryz.f8 [] false w args ∧ laidMetH Tryz.prog Rows.worldQuotaRow.laid w) ∧ sizedMet enc Tryz.prog Tryz.f8 (OpenSpec.ofChange Rows.worldQuotaSpec) false w args)
      (Rows.worldQuotaSpec.post enc Tryz.prog Tryz.f8 false true false false) := by
  refine handed_and_shaped (C := Tryz.checked) (X := fun w _ => laidMetH Tryz.prog Rows.worldQuotaRow.laid w) (fun _ _ _ hh h => h.of_heap hh) own_knob started (by kernel_rfl) Tryz.func8
    (ChangeSpec.witness_shaped (enc := enc) (C := Tryz.checked) (os := os) (X := fun w _ => laidMetH Tryz.prog Rows.worldQuotaRow.laid w) false (World.laidAll Tryz.prog os Rows.worldQuotaRow.laid) #[.slice none 0 0] 8 (World.laidAll_os _ _ _) (World.shaped_of_ZipB (by kernel_rfl) (by kernel_rfl)) (by kernel_rfl) (by kernel_rfl) (by kernel_rfl) (wqu_door os _)) ?_
  intro W base args ds gs before hval0 hW hwt hL hS
  have hval : ∀ (j : Nat) t v, Tryz.f8.params[j]? = some t → args[j]? = some v → Value.okWide Tryz.prog W .any base t v := hval0
  have hW' := hW
  obtain ⟨p, q, hA0, hV, rfl, hfz, hnd⟩ := hW
  have hA : DataW.TrodAll enc Tryz.prog W 0 (fun _ => true) true Tryz.f8.params.toList args.toList ds p := hA0
  rw [Tryz.params8] at hA hval
  obtain ⟨v0, vs0, d0, ds0, p0, q0, hargs, rfl, rfl, h0, r0⟩ := trodAll_cons hA
  obtain ⟨rfl, rfl, rfl⟩ := trodAll_nil r0
  obtain rfl : args = #[v0] := by cases args; simp_all
  obtain ⟨rfl, rfl⟩ := trodVars_none hV
  have hk0 := h0
  obtain ⟨l0, sa0, sc0, rfl, hn0, hl0⟩ := open_boolsQ (ocells_slice Tryz.underlying59 (hval 0 59 v0 rfl rfl)) h0
  clear hA0 hval0
  simp only [List.append_nil] at hW'
  refine (worldQuota_c l0 sa0 sc0 W hl0 hn0).mono fun e W' ⟨he, hb⟩ => ?_
  subst he
  exact ⟨_, rfl, _, _, _, [], _, [], hW', (trodAll_cons_mk (shut_bool Tryz.underlying4 _) trodAll_mk0), (trodAll_cons_mk (Below.trod olaid_out (by kernel_rfl) (of_decide_eq_true (by kernel_rfl)) hk0 hb (fun x hx => hW'.lt x (by simp [hx]))) trodAll_mk0), rfl, hb.frame _, fun h => by cases h⟩

theorem wqu_and {a b : Bool} (ha : a = true) (hb : b = true) : (a && b) = true := by rw [ha, hb]; rfl
theorem wqu_j0 : (Rows.worldQuotaRow.wf (OpenSpec.ofChange Rows.worldQuotaSpec)) = true := by kernel_rfl
theorem wqu_j1 : (laidOutB Tryz.prog) = true := by kernel_rfl
theorem wqu_j2 : (mapsRowed Tryz.prog) = true := by kernel_rfl
theorem wqu_j3 : (Tryz.f8.params.all (Tryz.prog.readableRec ·)) = true := by kernel_rfl
theorem wqu_j4 : (namedTie Tryz.prog Rows.worldQuotaRow.named Rows.worldQuotaSpec.vars) = true := by kernel_rfl
theorem wqu_j5 : ((Rows.worldQuotaRow.stops == [])) = true := by kernel_rfl
theorem wqu_j6 : ((Tryz.prog.stops == [])) = true := by kernel_rfl
theorem wqu_j7 : ((Rows.worldQuotaRow.knobs == [])) = true := by kernel_rfl
theorem wqu_j8 : ((Tryz.prog.stopKnobs == [])) = true := by kernel_rfl
theorem wqu_j9 : ((Rows.worldQuotaRow.inPlace == Tryz.prog.inPlace 8)) = true := by kernel_rfl
theorem wqu_j10 : ((Rows.worldQuotaRow.unfollowed == Tryz.prog.unfollowed 8)) = true := by kernel_rfl
theorem wqu_j11 : ((Rows.worldQuotaRow.recurses == Tryz.prog.recurses 8)) = true := by kernel_rfl
theorem wqu_j12 : ((Rows.worldQuotaRow.named == Tryz.prog.varsNamed 8)) = true := by kernel_rfl
theorem wqu_j13 : ((Rows.worldQuotaRow.maps == (Tryz.f8.params.toList ++ Rows.worldQuotaSpec.plain.varTypes Tryz.prog).any (Tryz.prog.mapsRec ·))) = true := by kernel_rfl
theorem wqu_j14 : ((Rows.worldQuotaRow.ifaces == (Tryz.f8.params.toList ++ Rows.worldQuotaSpec.plain.varTypes Tryz.prog).any (Tryz.prog.ifacesRec ·))) = true := by kernel_rfl
theorem wqu_j15 : ((Rows.worldQuotaRow.mapsOut == Tryz.prog.mapsAmong Tryz.f8.resultTypes.toList)) = true := by kernel_rfl
theorem wqu_j16 : ((Rows.worldQuotaRow.loops == (Tryz.f8.params.toList ++ Rows.worldQuotaSpec.plain.varTypes Tryz.prog).any (Tryz.prog.loopsFrom ·))) = true := by kernel_rfl
theorem wqu_j17 : ((Rows.worldQuotaRow.wideKeys == (Tryz.f8.params.toList ++ Rows.worldQuotaSpec.plain.varTypes Tryz.prog ++ Tryz.f8.resultTypes.toList).any (Tryz.prog.wideKeysFrom ·))) = true := by kernel_rfl
theorem wqu_j18 : (Rows.worldQuotaSpec.vars.all (Tryz.prog.varReadable ·)) = true := by kernel_rfl
theorem wqu_j19 : (Tryz.f8.resultTypes.all (fun t => Tryz.prog.readableRec t && decide (t < Tryz.prog.types.size))) = true := by kernel_rfl
theorem wqu_j20 : ((Rows.worldQuotaRow.ifacesOut == Tryz.f8.resultTypes.toList.any (Tryz.prog.ifacesRec ·))) = true := by kernel_rfl
theorem wqu_j21 : ((Rows.worldQuotaRow.loopsOut == Tryz.f8.resultTypes.toList.any (Tryz.prog.loopsFrom ·))) = true := by kernel_rfl
theorem wqu_j22 : ((Rows.worldQuotaRow.plainKeys == Tryz.prog.plainKeys)) = true := by kernel_rfl
theorem wqu_j23 : (Rows.worldQuotaRow.shortTexts.isNone) = true := by kernel_rfl
theorem wqu_j24 : (Tryz.prog.stopsHeard) = true := by kernel_rfl
theorem wqu_j25 : (Tryz.prog.mayEnter) = true := by kernel_rfl
theorem wqu_j26 : ((Rows.worldQuotaRow.lifted == Tryz.prog.liftsFinal)) = true := by kernel_rfl
theorem wqu_j27 : ((Tryz.prog.make == some Rows.worldQuotaRow.make)) = true := by kernel_rfl
theorem wqu_j28 : ((Rows.worldQuotaRow.kinds == (if Rows.worldQuotaRow.domain.isEmpty then [] else Tryz.f8.params.toList.map fun t => match Tryz.prog.underlying t with | some (.int k) => some k | _ => none))) = true := by kernel_rfl
theorem wqu_j29 : ((Rows.worldQuotaRow.pinned == Rows.worldQuotaRow.pinnedBy)) = true := by kernel_rfl
theorem wqu_j30 : ((Rows.worldQuotaRow.veiled == (Tryz.f8.params.toList ++ Rows.worldQuotaSpec.plain.varTypes Tryz.prog ++ Tryz.f8.resultTypes.toList).any (Tryz.prog.veiledRec ·))) = true := by kernel_rfl
theorem wqu_j31 : (Rows.worldQuotaRow.veiledFits Tryz.prog Tryz.f8.params.toList (Tryz.f8.params.toList ++ Rows.worldQuotaSpec.plain.varTypes Tryz.prog ++ Tryz.f8.resultTypes.toList)) = true := by kernel_rfl
set_option maxRecDepth 1000000 in
theorem wqu_joined : joinedFacts Tryz.prog 8 Tryz.f8 Rows.worldQuotaSpec Rows.worldQuotaRow = true :=
  (wqu_and (wqu_and (wqu_and (wqu_and (wqu_and (wqu_and (wqu_and (wqu_and (wqu_and (wqu_and (wqu_and (wqu_and (wqu_and (wqu_and (wqu_and (wqu_and (wqu_and (wqu_and (wqu_and (wqu_and (wqu_and (wqu_and (wqu_and (wqu_and (wqu_and (wqu_and (wqu_and (wqu_and (wqu_and (wqu_and (wqu_and wqu_j0 wqu_j1) wqu_j2) wqu_j3) wqu_j4) wqu_j5) wqu_j6) wqu_j7) wqu_j8) wqu_j9) wqu_j10) wqu_j11) wqu_j12) wqu_j13) wqu_j14) wqu_j15) wqu_j16) wqu_j17) wqu_j18) wqu_j19) wqu_j20) wqu_j21) wqu_j22) wqu_j23) wqu_j24) wqu_j25) wqu_j26) wqu_j27) wqu_j28) wqu_j29) wqu_j30) wqu_j31)

theorem worldQuota_holds : Rows.WorldQuotaSaid :=
  OpenClaim.holds_of_wide 8 Tryz.f8 rfl rfl rfl rfl rfl rfl rfl ⟨rfl, rfl, rfl, rfl, rfl⟩ rfl rfl rfl rfl rfl (by kernel_rfl) Tryz.func8 wqu_joined
    (of_decide_eq_true (by kernel_rfl)) (by unfold Func.isWrapper; first | (rw [if_pos (by decide +kernel)]; kernel_rfl) | (rw [if_neg (by decide +kernel)]; exact ⟨rfl, rfl⟩))
    (fun os started H enc _ => wqu_lifted os started H enc)

/-- THE TIED CARD. -/
theorem worldQuota_card : Rows.WorldQuotaCardSaid :=
  Claim7.holds_tied_plain_at .later [] [.data, .sentinel, .sentinel, .sentinel, .sentinel, .sentinel, .pinned] true (true, "425272658a3a0c35279a7c5ed70ece5e81f12970c8386cb5167a54606503493f") false
    worldQuota_holds (fun _ h => by cases h) (by kernel_rfl) (fun _ h => by cases h) worldQuota_row_tie rfl ⟨rfl, rfl⟩ (by kernel_rfl) rfl
    (fun f fn hf hfn => by
      obtain rfl : f = 8 := Option.some.inj ((show Tryz.prog.funcNamed "inglenook/inglenooklaw15.WorldQuota" = some 8 by kernel_rfl).symm.trans hf) |>.symm
      obtain rfl : fn = Tryz.f8 := (Option.some.inj (Tryz.func8.symm.trans hfn)).symm
      exact ⟨by kernel_rfl, fun j t ht => by
        rw [Tryz.params8] at ht
        have h3 : t = 59 := by
          rcases j with _ | j
          · simpa using ht.symm
          · simp at ht
        rcases h3 with rfl
        · exact (show Tryz.prog.wantsStandIn 59 = false by kernel_rfl)
        ⟩)
    (by kernel_rfl)
#print axioms worldQuota_card
end Go.Proofs.YtnphgcbknfmapaaGreatDoor
