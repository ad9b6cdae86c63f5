/-
  PROVED: for every two numbers, ParseBinds returns true: what binds more binds more, from the left where it is said.
  CONDITIONS: none besides the given statement's own.
-/
import Derived.Test.YtggngahmafbihaaGreatDoorPbiBL
import Derived.Test.YtggngahmafbihaaGreatDoorPbiAJ
namespace Go.Proofs.YtggngahmafbihaaGreatDoor
open Go.ChangeShapes Go.WideShapes Go.ChangeAt Go.RowKit Go.Lib
open Go.ChangeMaps (open_string shut_string)
set_option linter.unusedVariables false

set_option maxRecDepth 1000000 in
theorem pb_laid {W : World} (h : laidMetH Tryz.prog Rows.parseBindsRow.laid W) (hs : W.ShapedOpen Tryz.prog) : (∃ ea, ErrsAt W ea) ∧ StrcAt W ∧ SpaceAt W := by
  rw [MakeChecks.laidMetH_plain _ _ _ (by kernel_rfl)] at h
  have hr := room_of hs
  obtain ⟨a4, h4⟩ := sent_at 22 h.tail.tail.tail (by kernel_rfl) (by kernel_rfl)
  obtain ⟨a3, h3⟩ := sent_at 21 h.tail.tail.tail.tail (by kernel_rfl) (by kernel_rfl)
  obtain ⟨bsyn, hbsyn⟩ := sent_at 1 h.tail.tail.tail.tail.tail.tail.tail.tail.tail (by kernel_rfl) (by kernel_rfl)
  obtain ⟨bdeep, hbdeep⟩ := sent_at 2 h.tail.tail.tail.tail.tail.tail.tail.tail.tail.tail (by kernel_rfl) (by kernel_rfl)
  obtain ⟨bmany, hbmany⟩ := sent_at 0 h.tail.tail.tail.tail.tail.tail (by kernel_rfl) (by kernel_rfl)
  obtain ⟨brange, hbrange⟩ := sent_at 3 h.tail.tail.tail.tail.tail.tail.tail (by kernel_rfl) (by kernel_rfl)
  obtain ⟨bshape, hbshape⟩ := sent_at 6 h.tail.tail.tail.tail.tail (by kernel_rfl) (by kernel_rfl)
  obtain ⟨bname, hbname⟩ := sent_at 7 h.tail.tail.tail.tail.tail.tail.tail.tail (by kernel_rfl) (by kernel_rfl)
  have ht : TabIs Tryz.prog W "internal/strconv.uint64pow10" .u64 pow10Tab := tabIs_of_head (g := 20) (by kernel_rfl) (by kernel_rfl) Tryz.underlying239 Tryz.underlying154 (by kernel_rfl) (by kernel_rfl) h.tail.tail
  have hsp : SpaceAt W := tabIs_of_head (g := 17) (by kernel_rfl) (by kernel_rfl) Tryz.underlying198 Tryz.underlying5 (by kernel_rfl) (by kernel_rfl) h.tail.tail.tail.tail.tail.tail.tail.tail.tail.tail.tail.tail
  exact ⟨⟨fun k => if k = 111 then bsyn else if k = 112 then bdeep else if k = 104 then bmany else if k = 105 then brange else if k = 103 then bshape else if k = 106 then bname else bsyn, { syn := hbsyn, deep := hbdeep, many := hbmany, range := hbrange, shape := hbshape, name := hbname, room := hr }⟩, ⟨⟨_, _, h3⟩, ⟨_, _, h4⟩, ht, hr⟩, hsp⟩

theorem pb_door (os : Os) (args : Array Value) : laidMetH Tryz.prog Rows.parseBindsRow.laid ((World.laidAll Tryz.prog os Rows.parseBindsRow.laid).forCall (fun _ _ => 0) ⟨#[], args, []⟩).memory := by
  rw [MakeChecks.laidMetH_plain _ _ _ (by kernel_rfl)]; exact laidMet_laidAll _ (by kernel_rfl) (by kernel_rfl)

set_option maxRecDepth 100000 in
theorem pb_lifted (os : Os) (started : os.Started) (H : Type) (enc : TypeId × Value → H) :
    ReturnsInHanded {} Tryz.checked os 3 .any (fun w args => (Rows.parseBindsSpec.pre enc Tryz.prog Tryz.f3 [] false w args ∧ laidMetH Tryz.prog Rows.parseBindsRow.laid w) ∧ sizedMet enc Tryz.prog Tryz.f3 (OpenSpec.ofChange Rows.parseBindsSpec) false w args)
      (Rows.parseBindsSpec.post enc Tryz.prog Tryz.f3 false true false false) := by
  refine handed_and_shaped (C := Tryz.checked) (X := fun w _ => laidMetH Tryz.prog Rows.parseBindsRow.laid w) (fun _ _ _ hh h => h.of_heap hh) own_knob started (by kernel_rfl) Tryz.func3
    (ChangeSpec.witness_shaped (enc := enc) (C := Tryz.checked) (os := os) (X := fun w _ => laidMetH Tryz.prog Rows.parseBindsRow.laid w) false (World.laidAll Tryz.prog os Rows.parseBindsRow.laid) #[.int .i64 0, .int .i64 0] 8 (World.laidAll_os _ _ _) (World.shaped_of_ZipB (by kernel_rfl) (by kernel_rfl)) (by kernel_rfl) (by kernel_rfl) (by kernel_rfl) (pb_door os _)) ?_
  intro W base args ds gs before hval0 hW hwt hL hS
  have hval : ∀ (j : Nat) t v, Tryz.f3.params[j]? = some t → args[j]? = some v → Value.okWide Tryz.prog W .any base t v := hval0
  have hW' := hW
  obtain ⟨p, q, hA0, hV, rfl, hfz, hnd⟩ := hW
  have hA : DataW.TrodAll enc Tryz.prog W 0 (fun _ => true) true Tryz.f3.params.toList args.toList ds p := hA0
  rw [Tryz.params3] at hA hval
  obtain ⟨v0, vs0, d0, ds0, p0, q0, hargs, rfl, rfl, h0, r0⟩ := trodAll_cons hA
  obtain ⟨v1, vs1, d1, ds1, p1, q1, rfl, rfl, rfl, h1, r1⟩ := trodAll_cons r0
  obtain ⟨rfl, rfl, rfl⟩ := trodAll_nil r1
  obtain rfl : args = #[v0, v1] := by cases args; simp_all
  obtain ⟨rfl, rfl⟩ := trodVars_none hV
  obtain ⟨a0, rfl, rfl, rfl, w0⟩ := open_int Tryz.underlying3 (hval 0 3 v0 rfl rfl) h0
  have hr0 := i64_range w0
  obtain ⟨a1, rfl, rfl, rfl, w1⟩ := open_int Tryz.underlying3 (hval 1 3 v1 rfl rfl) h1
  have hr1 := i64_range w1
  clear hA0 hval0
  simp only [List.append_nil] at hW'
  obtain ⟨⟨ea, he⟩, hst, hsp⟩ := pb_laid hL hS
  refine (parseBinds_c a0 a1 ea W hr0.1 hr0.2 hr1.1 hr1.2 he hst hsp).mono fun e W' ⟨he, hb⟩ => ?_
  subst he
  exact ⟨_, rfl, _, _, _, [], [], [], hW', (trodAll_cons_mk (shut_bool Tryz.underlying4 _) trodAll_mk0), (trodAll_cons_mk (shut_int Tryz.underlying3 w0) (trodAll_cons_mk (shut_int Tryz.underlying3 w1) trodAll_mk0)), rfl, hb.frame _, fun h => by cases h⟩

theorem pb_and {a b : Bool} (ha : a = true) (hb : b = true) : (a && b) = true := by rw [ha, hb]; rfl
theorem pb_j0 : (Rows.parseBindsRow.wf (OpenSpec.ofChange Rows.parseBindsSpec)) = true := by kernel_rfl
theorem pb_j1 : (laidOutB Tryz.prog) = true := by kernel_rfl
theorem pb_j2 : (mapsRowed Tryz.prog) = true := by kernel_rfl
theorem pb_j3 : (Tryz.f3.params.all (Tryz.prog.readableRec ·)) = true := by kernel_rfl
theorem pb_j4 : (namedTie Tryz.prog Rows.parseBindsRow.named Rows.parseBindsSpec.vars) = true := by kernel_rfl
theorem pb_j5 : ((Rows.parseBindsRow.stops == [])) = true := by kernel_rfl
theorem pb_j6 : ((Tryz.prog.stops == [])) = true := by kernel_rfl
theorem pb_j7 : ((Rows.parseBindsRow.knobs == [])) = true := by kernel_rfl
theorem pb_j8 : ((Tryz.prog.stopKnobs == [])) = true := by kernel_rfl
theorem pb_j9 : ((Rows.parseBindsRow.inPlace == Tryz.prog.inPlace 3)) = true := by kernel_rfl
theorem pb_j10 : ((Rows.parseBindsRow.unfollowed == Tryz.prog.unfollowed 3)) = true := by kernel_rfl
theorem pb_j11 : ((Rows.parseBindsRow.recurses == Tryz.prog.recurses 3)) = true := by kernel_rfl
theorem pb_j12 : ((Rows.parseBindsRow.named == Tryz.prog.varsNamed 3)) = true := by kernel_rfl
theorem pb_j13 : ((Rows.parseBindsRow.maps == (Tryz.f3.params.toList ++ Rows.parseBindsSpec.plain.varTypes Tryz.prog).any (Tryz.prog.mapsRec ·))) = true := by kernel_rfl
theorem pb_j14 : ((Rows.parseBindsRow.ifaces == (Tryz.f3.params.toList ++ Rows.parseBindsSpec.plain.varTypes Tryz.prog).any (Tryz.prog.ifacesRec ·))) = true := by kernel_rfl
theorem pb_j15 : ((Rows.parseBindsRow.mapsOut == Tryz.prog.mapsAmong Tryz.f3.resultTypes.toList)) = true := by kernel_rfl
theorem pb_j16 : ((Rows.parseBindsRow.loops == (Tryz.f3.params.toList ++ Rows.parseBindsSpec.plain.varTypes Tryz.prog).any (Tryz.prog.loopsFrom ·))) = true := by kernel_rfl
theorem pb_j17 : ((Rows.parseBindsRow.wideKeys == (Tryz.f3.params.toList ++ Rows.parseBindsSpec.plain.varTypes Tryz.prog ++ Tryz.f3.resultTypes.toList).any (Tryz.prog.wideKeysFrom ·))) = true := by kernel_rfl
theorem pb_j18 : (Rows.parseBindsSpec.vars.all (Tryz.prog.varReadable ·)) = true := by kernel_rfl
theorem pb_j19 : (Tryz.f3.resultTypes.all (fun t => Tryz.prog.readableRec t && decide (t < Tryz.prog.types.size))) = true := by kernel_rfl
theorem pb_j20 : ((Rows.parseBindsRow.ifacesOut == Tryz.f3.resultTypes.toList.any (Tryz.prog.ifacesRec ·))) = true := by kernel_rfl
theorem pb_j21 : ((Rows.parseBindsRow.loopsOut == Tryz.f3.resultTypes.toList.any (Tryz.prog.loopsFrom ·))) = true := by kernel_rfl
theorem pb_j22 : ((Rows.parseBindsRow.plainKeys == Tryz.prog.plainKeys)) = true := by kernel_rfl
theorem pb_j23 : (Rows.parseBindsRow.shortTexts.isNone) = true := by kernel_rfl
theorem pb_j24 : (Tryz.prog.stopsHeard) = true := by kernel_rfl
theorem pb_j25 : (Tryz.prog.mayEnter) = true := by kernel_rfl
theorem pb_j26 : ((Rows.parseBindsRow.lifted == Tryz.prog.liftsFinal)) = true := by kernel_rfl
theorem pb_j27 : ((Tryz.prog.make == some Rows.parseBindsRow.make)) = true := by kernel_rfl
theorem pb_j28 : ((Rows.parseBindsRow.kinds == (if Rows.parseBindsRow.domain.isEmpty then [] else Tryz.f3.params.toList.map fun t => match Tryz.prog.underlying t with | some (.int k) => some k | _ => none))) = true := by kernel_rfl
theorem pb_j29 : ((Rows.parseBindsRow.pinned == Rows.parseBindsRow.pinnedBy)) = true := by kernel_rfl
theorem pb_j30 : ((Rows.parseBindsRow.veiled == (Tryz.f3.params.toList ++ Rows.parseBindsSpec.plain.varTypes Tryz.prog ++ Tryz.f3.resultTypes.toList).any (Tryz.prog.veiledRec ·))) = true := by kernel_rfl
theorem pb_j31 : (Rows.parseBindsRow.veiledFits Tryz.prog Tryz.f3.params.toList (Tryz.f3.params.toList ++ Rows.parseBindsSpec.plain.varTypes Tryz.prog ++ Tryz.f3.resultTypes.toList)) = true := by kernel_rfl
set_option maxRecDepth 1000000 in
theorem pb_joined : joinedFacts Tryz.prog 3 Tryz.f3 Rows.parseBindsSpec Rows.parseBindsRow = true :=
  (pb_and (pb_and (pb_and (pb_and (pb_and (pb_and (pb_and (pb_and (pb_and (pb_and (pb_and (pb_and (pb_and (pb_and (pb_and (pb_and (pb_and (pb_and (pb_and (pb_and (pb_and (pb_and (pb_and (pb_and (pb_and (pb_and (pb_and (pb_and (pb_and (pb_and (pb_and pb_j0 pb_j1) pb_j2) pb_j3) pb_j4) pb_j5) pb_j6) pb_j7) pb_j8) pb_j9) pb_j10) pb_j11) pb_j12) pb_j13) pb_j14) pb_j15) pb_j16) pb_j17) pb_j18) pb_j19) pb_j20) pb_j21) pb_j22) pb_j23) pb_j24) pb_j25) pb_j26) pb_j27) pb_j28) pb_j29) pb_j30) pb_j31)

theorem parseBinds_holds : Rows.ParseBindsSaid :=
  OpenClaim.holds_of_wide 3 Tryz.f3 rfl rfl rfl rfl rfl rfl rfl ⟨rfl, rfl, rfl, rfl, rfl⟩ rfl rfl rfl rfl rfl (by kernel_rfl) Tryz.func3 pb_joined
    (of_decide_eq_true (by kernel_rfl)) (by unfold Func.isWrapper; first | (rw [if_pos (by decide +kernel)]; kernel_rfl) | (rw [if_neg (by decide +kernel)]; exact ⟨rfl, rfl⟩))
    (fun os started H enc _ => pb_lifted os started H enc)

/-- THE TIED CARD. -/
theorem parseBinds_card : Rows.ParseBindsCardSaid :=
  Claim7.holds_tied_plain_at .later [] [.data, .data, .data, .sentinel, .sentinel, .sentinel, .sentinel, .sentinel, .sentinel, .sentinel, .sentinel, .listed, .data] true (true, "c8e62360d47d7afd119768a611c6b712e518a7c24e95d6348909ad830ce57ed9") true
    parseBinds_holds (fun _ h => by cases h) (by kernel_rfl) (fun _ h => by cases h) parseBinds_row_tie rfl ⟨rfl, rfl⟩ (by kernel_rfl) rfl
    (fun f fn hf hfn => by
      obtain rfl : f = 3 := Option.some.inj ((show Tryz.prog.funcNamed "inglenook/inglenooklaw9.ParseBinds" = some 3 by kernel_rfl).symm.trans hf) |>.symm
      obtain rfl : fn = Tryz.f3 := (Option.some.inj (Tryz.func3.symm.trans hfn)).symm
      exact ⟨by kernel_rfl, fun j t ht => by
        rw [Tryz.params3] at ht
        have h3 : t = 3 ∨ t = 3 := by
          rcases j with _ | _ | j
          · left; simpa using ht.symm
          · right; simpa using ht.symm
          · simp at ht
        rcases h3 with rfl | rfl
        · exact (show Tryz.prog.wantsStandIn 3 = false by kernel_rfl)
        · exact (show Tryz.prog.wantsStandIn 3 = false by kernel_rfl)
        ⟩)
    (by kernel_rfl)
#print axioms parseBinds_card
end Go.Proofs.YtggngahmafbihaaGreatDoor
