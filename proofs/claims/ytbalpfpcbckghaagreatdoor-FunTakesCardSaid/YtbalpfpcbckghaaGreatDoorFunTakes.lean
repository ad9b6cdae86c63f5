/-
  PROVED: for every pair of numbers, FunTakes returns true: each pure function says so of too few, and of too many, arguments, and what is no pure function is not called.
  CONDITIONS: none besides the given statement's own.
-/
import Derived.Test.YtbalpfpcbckghaaGreatDoorFtkAI
import Derived.Test.YtbalpfpcbckghaaGreatDoorFtkAG
import Derived.Shelf.Vars
namespace Go.Proofs.YtbalpfpcbckghaaGreatDoor
open Go.ChangeShapes Go.WideShapes Go.ChangeAt Go.RowKit Go.Lib
open Go.ChangeMaps (open_string shut_string)
set_option linter.unusedVariables false

set_option maxRecDepth 1000000 in
theorem ftk_laid {W : World} (h : laidMetH Tryz.prog Rows.funTakesRow.laid W) (hs : W.ShapedOpen Tryz.prog) : (∃ ea, ErrsAt W ea) ∧ StrcAt W ∧ TxAt W ∧ SpaceAt W := by
  rw [MakeChecks.laidMetH_plain _ _ _ (by kernel_rfl)] at h
  have hr := room_of hs
  obtain ⟨a4, h4⟩ := sent_at 11 h.tail.tail.tail.tail (by kernel_rfl) (by kernel_rfl)
  obtain ⟨a3, h3⟩ := sent_at 10 h.tail.tail.tail.tail.tail (by kernel_rfl) (by kernel_rfl)
  obtain ⟨bdeep, hbdeep⟩ := sent_at 0 h.tail.tail.tail.tail.tail.tail.tail.tail.tail (by kernel_rfl) (by kernel_rfl)
  obtain ⟨bmany, hbmany⟩ := sent_at 3 h.tail.tail.tail.tail.tail.tail.tail (by kernel_rfl) (by kernel_rfl)
  obtain ⟨brange, hbrange⟩ := sent_at 5 h.tail.tail.tail.tail.tail.tail.tail.tail (by kernel_rfl) (by kernel_rfl)
  obtain ⟨bshape, hbshape⟩ := sent_at 6 h.tail.tail.tail.tail.tail.tail (by kernel_rfl) (by kernel_rfl)
  have ht : TabIs Tryz.prog W "internal/strconv.uint64pow10" .u64 pow10Tab := tabIs_of_head (g := 7) (by kernel_rfl) (by kernel_rfl) Tryz.underlying192 Tryz.underlying128 (by kernel_rfl) (by kernel_rfl) h.tail.tail
  have hsp : SpaceAt W := tabIs_of_head (g := 1) (by kernel_rfl) (by kernel_rfl) Tryz.underlying85 Tryz.underlying5 (by kernel_rfl) (by kernel_rfl) h.tail.tail.tail.tail.tail.tail.tail.tail.tail.tail.tail
  exact ⟨⟨fun k => if k = 112 then bdeep else if k = 104 then bmany else if k = 105 then brange else if k = 103 then bshape else bdeep, { deep := hbdeep, many := hbmany, range := hbrange, shape := hbshape, room := hr }⟩, ⟨⟨_, _, h3⟩, ⟨_, _, h4⟩, ht, hr⟩, ⟨ht, hr, Go.Proofs.cell_of_shapedOpen_int (zero := #[.int .i64 0]) (t := 3) hs (of_decide_eq_true (by kernel_rfl)) (by kernel_rfl) rfl (by kernel_rfl) (by kernel_rfl) Tryz.underlying3⟩, hsp⟩

theorem ftk_door (os : Os) (args : Array Value) : laidMetH Tryz.prog Rows.funTakesRow.laid ((World.laidAll Tryz.prog os Rows.funTakesRow.laid).forCall (fun _ _ => 0) ⟨#[], args, []⟩).memory := by
  rw [MakeChecks.laidMetH_plain _ _ _ (by kernel_rfl)]; exact laidMet_laidAll _ (by kernel_rfl) (by kernel_rfl)

set_option maxRecDepth 100000 in
theorem ftk_lifted (os : Os) (started : os.Started) (H : Type) (enc : TypeId × Value → H) :
    ReturnsInHanded {} Tryz.checked os 6 .any (fun w args => (Rows.funTakesSpec.pre enc Tryz.prog Tryz.f6 [] false w args ∧ laidMetH Tryz.prog Rows.funTakesRow.laid w) ∧ sizedMet enc Tryz.prog Tryz.f6 (OpenSpec.ofChange Rows.funTakesSpec) false w args)
      (Rows.funTakesSpec.post enc Tryz.prog Tryz.f6 false true false false) := by
  refine handed_and_shaped (C := Tryz.checked) (X := fun w _ => laidMetH Tryz.prog Rows.funTakesRow.laid w) (fun _ _ _ hh h => h.of_heap hh) own_knob started (by kernel_rfl) Tryz.func6
    (ChangeSpec.witness_shaped (enc := enc) (C := Tryz.checked) (os := os) (X := fun w _ => laidMetH Tryz.prog Rows.funTakesRow.laid w) false (World.laidAll Tryz.prog os Rows.funTakesRow.laid) #[.int .i64 0, .int .i64 0] 8 (World.laidAll_os _ _ _) (World.shaped_of_ZipB (by kernel_rfl) (by kernel_rfl)) (by kernel_rfl) (by kernel_rfl) (by kernel_rfl) (ftk_door os _)) ?_
  intro W base args ds gs before hval0 hW hwt hL hS
  have hval : ∀ (j : Nat) t v, Tryz.f6.params[j]? = some t → args[j]? = some v → Value.okWide Tryz.prog W .any base t v := hval0
  have hW' := hW
  obtain ⟨p, q, hA0, hV, rfl, hfz, hnd⟩ := hW
  have hA : DataW.TrodAll enc Tryz.prog W 0 (fun _ => true) true Tryz.f6.params.toList args.toList ds p := hA0
  rw [Tryz.params6] at hA hval
  obtain ⟨v0, vs0, d0, ds0, p0, q0, hargs, rfl, rfl, h0, r0⟩ := trodAll_cons hA
  obtain ⟨v1, vs1, d1, ds1, p1, q1, rfl, rfl, rfl, h1, r1⟩ := trodAll_cons r0
  obtain ⟨rfl, rfl, rfl⟩ := trodAll_nil r1
  obtain rfl : args = #[v0, v1] := by cases args; simp_all
  obtain ⟨rfl, rfl⟩ := trodVars_none hV
  obtain ⟨a0, rfl, rfl, rfl, w0⟩ := open_int Tryz.underlying3 (hval 0 3 v0 rfl rfl) h0
  have hr0 := i64_range w0
  obtain ⟨a1, rfl, rfl, rfl, w1⟩ := open_int Tryz.underlying3 (hval 1 3 v1 rfl rfl) h1
  have hr1 := i64_range w1
  clear hA0 hval0
  simp only [List.append_nil] at hW'
  obtain ⟨⟨ea, he⟩, hst, htx, hsp⟩ := ftk_laid hL hS
  refine (funTakes_c a0 a1 ea W hr0.1 hr0.2 hr1.1 hr1.2 he hst htx hsp).mono fun e W' ⟨he, hb⟩ => ?_
  subst he
  exact ⟨_, rfl, _, _, _, [], [], [], hW', (trodAll_cons_mk (shut_bool Tryz.underlying4 _) trodAll_mk0), (trodAll_cons_mk (shut_int Tryz.underlying3 w0) (trodAll_cons_mk (shut_int Tryz.underlying3 w1) trodAll_mk0)), rfl, hb.frame _, fun h => by cases h⟩

theorem ftk_and {a b : Bool} (ha : a = true) (hb : b = true) : (a && b) = true := by rw [ha, hb]; rfl
theorem ftk_j0 : (Rows.funTakesRow.wf (OpenSpec.ofChange Rows.funTakesSpec)) = true := by kernel_rfl
theorem ftk_j1 : (laidOutB Tryz.prog) = true := by kernel_rfl
theorem ftk_j2 : (mapsRowed Tryz.prog) = true := by kernel_rfl
theorem ftk_j3 : (Tryz.f6.params.all (Tryz.prog.readableRec ·)) = true := by kernel_rfl
theorem ftk_j4 : (namedTie Tryz.prog Rows.funTakesRow.named Rows.funTakesSpec.vars) = true := by kernel_rfl
theorem ftk_j5 : ((Rows.funTakesRow.stops == [])) = true := by kernel_rfl
theorem ftk_j6 : ((Tryz.prog.stops == [])) = true := by kernel_rfl
theorem ftk_j7 : ((Rows.funTakesRow.knobs == [])) = true := by kernel_rfl
theorem ftk_j8 : ((Tryz.prog.stopKnobs == [])) = true := by kernel_rfl
theorem ftk_j9 : ((Rows.funTakesRow.inPlace == Tryz.prog.inPlace 6)) = true := by kernel_rfl
theorem ftk_j10 : ((Rows.funTakesRow.unfollowed == Tryz.prog.unfollowed 6)) = true := by kernel_rfl
theorem ftk_j11 : ((Rows.funTakesRow.recurses == Tryz.prog.recurses 6)) = true := by kernel_rfl
theorem ftk_j12 : ((Rows.funTakesRow.named == Tryz.prog.varsNamed 6)) = true := by kernel_rfl
theorem ftk_j13 : ((Rows.funTakesRow.maps == (Tryz.f6.params.toList ++ Rows.funTakesSpec.plain.varTypes Tryz.prog).any (Tryz.prog.mapsRec ·))) = true := by kernel_rfl
theorem ftk_j14 : ((Rows.funTakesRow.ifaces == (Tryz.f6.params.toList ++ Rows.funTakesSpec.plain.varTypes Tryz.prog).any (Tryz.prog.ifacesRec ·))) = true := by kernel_rfl
theorem ftk_j15 : ((Rows.funTakesRow.mapsOut == Tryz.prog.mapsAmong Tryz.f6.resultTypes.toList)) = true := by kernel_rfl
theorem ftk_j16 : ((Rows.funTakesRow.loops == (Tryz.f6.params.toList ++ Rows.funTakesSpec.plain.varTypes Tryz.prog).any (Tryz.prog.loopsFrom ·))) = true := by kernel_rfl
theorem ftk_j17 : ((Rows.funTakesRow.wideKeys == (Tryz.f6.params.toList ++ Rows.funTakesSpec.plain.varTypes Tryz.prog ++ Tryz.f6.resultTypes.toList).any (Tryz.prog.wideKeysFrom ·))) = true := by kernel_rfl
theorem ftk_j18 : (Rows.funTakesSpec.vars.all (Tryz.prog.varReadable ·)) = true := by kernel_rfl
theorem ftk_j19 : (Tryz.f6.resultTypes.all (fun t => Tryz.prog.readableRec t && decide (t < Tryz.prog.types.size))) = true := by kernel_rfl
theorem ftk_j20 : ((Rows.funTakesRow.ifacesOut == Tryz.f6.resultTypes.toList.any (Tryz.prog.ifacesRec ·))) = true := by kernel_rfl
theorem ftk_j21 : ((Rows.funTakesRow.loopsOut == Tryz.f6.resultTypes.toList.any (Tryz.prog.loopsFrom ·))) = true := by kernel_rfl
theorem ftk_j22 : ((Rows.funTakesRow.plainKeys == Tryz.prog.plainKeys)) = true := by kernel_rfl
theorem ftk_j23 : (Rows.funTakesRow.shortTexts.isNone) = true := by kernel_rfl
theorem ftk_j24 : (Tryz.prog.stopsHeard) = true := by kernel_rfl
theorem ftk_j25 : (Tryz.prog.mayEnter) = true := by kernel_rfl
theorem ftk_j26 : ((Rows.funTakesRow.lifted == Tryz.prog.liftsFinal)) = true := by kernel_rfl
theorem ftk_j27 : ((Tryz.prog.make == some Rows.funTakesRow.make)) = true := by kernel_rfl
theorem ftk_j28 : ((Rows.funTakesRow.kinds == (if Rows.funTakesRow.domain.isEmpty then [] else Tryz.f6.params.toList.map fun t => match Tryz.prog.underlying t with | some (.int k) => some k | _ => none))) = true := by kernel_rfl
theorem ftk_j29 : ((Rows.funTakesRow.pinned == Rows.funTakesRow.pinnedBy)) = true := by kernel_rfl
theorem ftk_j30 : ((Rows.funTakesRow.veiled == (Tryz.f6.params.toList ++ Rows.funTakesSpec.plain.varTypes Tryz.prog ++ Tryz.f6.resultTypes.toList).any (Tryz.prog.veiledRec ·))) = true := by kernel_rfl
theorem ftk_j31 : (Rows.funTakesRow.veiledFits Tryz.prog Tryz.f6.params.toList (Tryz.f6.params.toList ++ Rows.funTakesSpec.plain.varTypes Tryz.prog ++ Tryz.f6.resultTypes.toList)) = true := by kernel_rfl
set_option maxRecDepth 1000000 in
theorem ftk_joined : joinedFacts Tryz.prog 6 Tryz.f6 Rows.funTakesSpec Rows.funTakesRow = true :=
  (ftk_and (ftk_and (ftk_and (ftk_and (ftk_and (ftk_and (ftk_and (ftk_and (ftk_and (ftk_and (ftk_and (ftk_and (ftk_and (ftk_and (ftk_and (ftk_and (ftk_and (ftk_and (ftk_and (ftk_and (ftk_and (ftk_and (ftk_and (ftk_and (ftk_and (ftk_and (ftk_and (ftk_and (ftk_and (ftk_and (ftk_and ftk_j0 ftk_j1) ftk_j2) ftk_j3) ftk_j4) ftk_j5) ftk_j6) ftk_j7) ftk_j8) ftk_j9) ftk_j10) ftk_j11) ftk_j12) ftk_j13) ftk_j14) ftk_j15) ftk_j16) ftk_j17) ftk_j18) ftk_j19) ftk_j20) ftk_j21) ftk_j22) ftk_j23) ftk_j24) ftk_j25) ftk_j26) ftk_j27) ftk_j28) ftk_j29) ftk_j30) ftk_j31)

theorem funTakes_holds : Rows.FunTakesSaid :=
  OpenClaim.holds_of_wide 6 Tryz.f6 rfl rfl rfl rfl rfl rfl rfl ⟨rfl, rfl, rfl, rfl, rfl⟩ rfl rfl rfl rfl rfl (by kernel_rfl) Tryz.func6 ftk_joined
    (of_decide_eq_true (by kernel_rfl)) (by unfold Func.isWrapper; first | (rw [if_pos (by decide +kernel)]; kernel_rfl) | (rw [if_neg (by decide +kernel)]; exact ⟨rfl, rfl⟩))
    (fun os started H enc _ => ftk_lifted os started H enc)

/-- THE TIED CARD. -/
theorem funTakes_card : Rows.FunTakesCardSaid :=
  Claim7.holds_tied_plain_at .later [] [.data, .data, .data, .data, .sentinel, .sentinel, .sentinel, .sentinel, .sentinel, .sentinel, .listed, .data, .pinned] true (true, "5915e900c3686fb0a2a65095ddafe60afccc71f40baecda0f42221358f06883c") true
    funTakes_holds (fun _ h => by cases h) (by kernel_rfl) (fun _ h => by cases h) funTakes_row_tie rfl ⟨rfl, rfl⟩ (by kernel_rfl) rfl
    (fun f fn hf hfn => by
      obtain rfl : f = 6 := Option.some.inj ((show Tryz.prog.funcNamed "inglenook/inglenooklaw16.FunTakes" = some 6 by kernel_rfl).symm.trans hf) |>.symm
      obtain rfl : fn = Tryz.f6 := (Option.some.inj (Tryz.func6.symm.trans hfn)).symm
      exact ⟨by kernel_rfl, fun j t ht => by
        rw [Tryz.params6] at ht
        have h3 : t = 3 ∨ t = 3 := by
          rcases j with _ | _ | j
          · left; simpa using ht.symm
          · right; simpa using ht.symm
          · simp at ht
        rcases h3 with rfl | rfl
        · exact (show Tryz.prog.wantsStandIn 3 = false by kernel_rfl)
        · exact (show Tryz.prog.wantsStandIn 3 = false by kernel_rfl)
        ⟩)
    (by kernel_rfl)
#print axioms funTakes_card
end Go.Proofs.YtbalpfpcbckghaaGreatDoor
