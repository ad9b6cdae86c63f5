/-
  PROVED: for every value, all texts and every number, FunTexts returns true: toliteral says a right value's text, join and words undo each other over good texts, tostr, toint and abs of a number are as they ought to be.
  CONDITIONS: none besides the given statement's own.
-/
import Derived.Test.YtbalpfpcbckghaaGreatDoorFtxAP
import Derived.Test.YtbalpfpcbckghaaGreatDoorFtxAG
import Derived.Shelf.Vars
import Derived.Test.YtbalpfpcbckghaaGreatDoorFtxAH
namespace Go.Proofs.YtbalpfpcbckghaaGreatDoor
open Go.ChangeShapes Go.WideShapes Go.ChangeAt Go.RowKit Go.Lib
open Go.ChangeMaps (open_string shut_string)
set_option linter.unusedVariables false

set_option maxRecDepth 1000000 in
theorem ftx_laid {W : World} (h : laidMetH Tryz.prog Rows.funTextsRow.laid W) (hs : W.ShapedOpen Tryz.prog) : (∃ ea, ErrsAt W ea ∧ MdAt W ea) ∧ StrcAt W ∧ TxAt W ∧ SpaceAt W := by
  rw [MakeChecks.laidMetH_plain _ _ _ (by kernel_rfl)] at h
  have hr := room_of hs
  obtain ⟨a4, h4⟩ := sent_at 11 h.tail.tail.tail.tail (by kernel_rfl) (by kernel_rfl)
  obtain ⟨a3, h3⟩ := sent_at 10 h.tail.tail.tail.tail.tail (by kernel_rfl) (by kernel_rfl)
  obtain ⟨bdeep, hbdeep, mdeep⟩ := sent_at2 0 h.tail.tail.tail.tail.tail.tail.tail.tail.tail (by kernel_rfl) (by kernel_rfl)
  obtain ⟨bmany, hbmany, mmany⟩ := sent_at2 3 h.tail.tail.tail.tail.tail.tail.tail (by kernel_rfl) (by kernel_rfl)
  obtain ⟨brange, hbrange⟩ := sent_at 5 h.tail.tail.tail.tail.tail.tail.tail.tail (by kernel_rfl) (by kernel_rfl)
  obtain ⟨bshape, hbshape⟩ := sent_at 6 h.tail.tail.tail.tail.tail.tail (by kernel_rfl) (by kernel_rfl)
  have ht : TabIs Tryz.prog W "internal/strconv.uint64pow10" .u64 pow10Tab := tabIs_of_head (g := 7) (by kernel_rfl) (by kernel_rfl) Tryz.underlying192 Tryz.underlying128 (by kernel_rfl) (by kernel_rfl) h.tail.tail
  have hsp : SpaceAt W := tabIs_of_head (g := 1) (by kernel_rfl) (by kernel_rfl) Tryz.underlying85 Tryz.underlying5 (by kernel_rfl) (by kernel_rfl) h.tail.tail.tail.tail.tail.tail.tail.tail.tail.tail.tail
  exact ⟨⟨fun k => if k = 112 then bdeep else if k = 104 then bmany else if k = 105 then brange else if k = 103 then bshape else bdeep, { deep := hbdeep, many := hbmany, range := hbrange, shape := hbshape, room := hr }, ⟨mmany, mdeep⟩⟩, ⟨⟨_, _, h3⟩, ⟨_, _, h4⟩, ht, hr⟩, ⟨ht, hr, Go.Proofs.cell_of_shapedOpen_int (zero := #[.int .i64 0]) (t := 3) hs (of_decide_eq_true (by kernel_rfl)) (by kernel_rfl) rfl (by kernel_rfl) (by kernel_rfl) Tryz.underlying3⟩, hsp⟩

theorem ftx_door (os : Os) (args : Array Value) : laidMetH Tryz.prog Rows.funTextsRow.laid ((World.laidAll Tryz.prog os Rows.funTextsRow.laid).forCall (fun _ _ => 0) ⟨#[], args, []⟩).memory := by
  rw [MakeChecks.laidMetH_plain _ _ _ (by kernel_rfl)]; exact laidMet_laidAll _ (by kernel_rfl) (by kernel_rfl)

set_option maxRecDepth 100000 in
theorem ftx_lifted (os : Os) (started : os.Started) (H : Type) (enc : TypeId × Value → H) :
    ReturnsInHanded {} Tryz.checked os 4 .any (fun w args => (Rows.funTextsSpec.pre enc Tryz.prog Tryz.f4 [] false w args ∧ laidMetH Tryz.prog Rows.funTextsRow.laid w) ∧ sizedMet enc Tryz.prog Tryz.f4 (OpenSpec.ofChange Rows.funTextsSpec) false w args)
      (Rows.funTextsSpec.post enc Tryz.prog Tryz.f4 false true false false) := by
  refine handed_and_shaped (C := Tryz.checked) (X := fun w _ => laidMetH Tryz.prog Rows.funTextsRow.laid w) (fun _ _ _ hh h => h.of_heap hh) own_knob started (by kernel_rfl) Tryz.func4
    (ChangeSpec.witness_shaped (enc := enc) (C := Tryz.checked) (os := os) (X := fun w _ => laidMetH Tryz.prog Rows.funTextsRow.laid w) false (World.laidAll Tryz.prog os Rows.funTextsRow.laid) #[.agg #[.int .i64 0, .int .i64 0, .string ByteArray.empty, .slice none 0 0], .slice none 0 0, .int .i64 0] 8 (World.laidAll_os _ _ _) (World.shaped_of_ZipB (by kernel_rfl) (by kernel_rfl)) (by kernel_rfl) (by kernel_rfl) (by kernel_rfl) (ftx_door os _)) ?_
  intro W base args ds gs before hval0 hW hwt hL hS
  have hval : ∀ (j : Nat) t v, Tryz.f4.params[j]? = some t → args[j]? = some v → Value.okWide Tryz.prog W .any base t v := hval0
  have hW' := hW
  obtain ⟨p, q, hA0, hV, rfl, hfz, hnd⟩ := hW
  have hA : DataW.TrodAll enc Tryz.prog W 0 (fun _ => true) true Tryz.f4.params.toList args.toList ds p := hA0
  rw [Tryz.params4] at hA hval
  obtain ⟨v0, vs0, d0, ds0, p0, q0, hargs, rfl, rfl, h0, r0⟩ := trodAll_cons hA
  obtain ⟨v1, vs1, d1, ds1, p1, q1, rfl, rfl, rfl, h1, r1⟩ := trodAll_cons r0
  obtain ⟨v2, vs2, d2, ds2, p2, q2, rfl, rfl, rfl, h2, r2⟩ := trodAll_cons r1
  obtain ⟨rfl, rfl, rfl⟩ := trodAll_nil r2
  obtain rfl : args = #[v0, v1, v2] := by cases args; simp_all
  obtain ⟨rfl, rfl⟩ := trodVars_none hV
  have hq : (DataW.weightsEach Tryz.prog [24, 38, 2] [d0, d1, d2]).all (· ≤ reachBytes) = true := hwt
  obtain ⟨hq0, hq⟩ := weights_head hq
  obtain ⟨hq1, hq⟩ := weights_head hq
  obtain ⟨hq2, hq⟩ := weights_head hq
  have hk0 := h0
  obtain ⟨k0, n0, s0, sub0, sa0, sc0, rfl, hfit0, h640, hsc0, hrep0⟩ := open_value (hval 0 24 v0 rfl rfl) h0 hq0
  have hk1 := h1
  obtain ⟨l1, sa1, sc1, rfl, hcp1, hst1⟩ := open_strs (cells_slice Tryz.underlying38 (hval 1 38 v1 rfl rfl)) h1 (by decide)
  obtain ⟨a2, rfl, rfl, rfl, w2⟩ := open_int Tryz.underlying2 (hval 2 2 v2 rfl rfl) h2
  have hr2 := i64_range w2
  clear hA0 hval0
  simp only [List.append_nil] at hW'
  obtain ⟨⟨ea, he, hmd⟩, hst, htx, hsp⟩ := ftx_laid hL hS
  refine (funTexts_c k0 n0 s0 sub0 sa0 sc0 l1 sa1 sc1 a2 ea W hfit0 h640 hsc0 hrep0 hcp1 hst1 hr2.1 hr2.2 he hst htx hsp hmd).mono fun e W' ⟨he, hb⟩ => ?_
  subst he
  exact ⟨_, rfl, _, _, _, [], _, [], hW', (trodAll_cons_mk (shut_bool Tryz.underlying4 _) trodAll_mk0), (trodAll_cons_mk (Below.trod laid_out (by kernel_rfl) (of_decide_eq_true (by kernel_rfl)) hk0 hb (fun x hx => hW'.lt x (by simp [hx]))) (trodAll_cons_mk (Below.trod laid_out (by kernel_rfl) (of_decide_eq_true (by kernel_rfl)) hk1 hb (fun x hx => hW'.lt x (by simp [hx]))) (trodAll_cons_mk (shut_int Tryz.underlying2 w2) trodAll_mk0))), rfl, hb.frame _, fun h => by cases h⟩

theorem ftx_and {a b : Bool} (ha : a = true) (hb : b = true) : (a && b) = true := by rw [ha, hb]; rfl
theorem ftx_j0 : (Rows.funTextsRow.wf (OpenSpec.ofChange Rows.funTextsSpec)) = true := by kernel_rfl
theorem ftx_j1 : (laidOutB Tryz.prog) = true := by kernel_rfl
theorem ftx_j2 : (mapsRowed Tryz.prog) = true := by kernel_rfl
theorem ftx_j3 : (Tryz.f4.params.all (Tryz.prog.readableRec ·)) = true := by kernel_rfl
theorem ftx_j4 : (namedTie Tryz.prog Rows.funTextsRow.named Rows.funTextsSpec.vars) = true := by kernel_rfl
theorem ftx_j5 : ((Rows.funTextsRow.stops == [])) = true := by kernel_rfl
theorem ftx_j6 : ((Tryz.prog.stops == [])) = true := by kernel_rfl
theorem ftx_j7 : ((Rows.funTextsRow.knobs == [])) = true := by kernel_rfl
theorem ftx_j8 : ((Tryz.prog.stopKnobs == [])) = true := by kernel_rfl
theorem ftx_j9 : ((Rows.funTextsRow.inPlace == Tryz.prog.inPlace 4)) = true := by kernel_rfl
theorem ftx_j10 : ((Rows.funTextsRow.unfollowed == Tryz.prog.unfollowed 4)) = true := by kernel_rfl
theorem ftx_j11 : ((Rows.funTextsRow.recurses == Tryz.prog.recurses 4)) = true := by kernel_rfl
theorem ftx_j12 : ((Rows.funTextsRow.named == Tryz.prog.varsNamed 4)) = true := by kernel_rfl
theorem ftx_j13 : ((Rows.funTextsRow.maps == (Tryz.f4.params.toList ++ Rows.funTextsSpec.plain.varTypes Tryz.prog).any (Tryz.prog.mapsRec ·))) = true := by kernel_rfl
theorem ftx_j14 : ((Rows.funTextsRow.ifaces == (Tryz.f4.params.toList ++ Rows.funTextsSpec.plain.varTypes Tryz.prog).any (Tryz.prog.ifacesRec ·))) = true := by kernel_rfl
theorem ftx_j15 : ((Rows.funTextsRow.mapsOut == Tryz.prog.mapsAmong Tryz.f4.resultTypes.toList)) = true := by kernel_rfl
theorem ftx_j16 : ((Rows.funTextsRow.loops == (Tryz.f4.params.toList ++ Rows.funTextsSpec.plain.varTypes Tryz.prog).any (Tryz.prog.loopsFrom ·))) = true := by kernel_rfl
theorem ftx_j17 : ((Rows.funTextsRow.wideKeys == (Tryz.f4.params.toList ++ Rows.funTextsSpec.plain.varTypes Tryz.prog ++ Tryz.f4.resultTypes.toList).any (Tryz.prog.wideKeysFrom ·))) = true := by kernel_rfl
theorem ftx_j18 : (Rows.funTextsSpec.vars.all (Tryz.prog.varReadable ·)) = true := by kernel_rfl
theorem ftx_j19 : (Tryz.f4.resultTypes.all (fun t => Tryz.prog.readableRec t && decide (t < Tryz.prog.types.size))) = true := by kernel_rfl
theorem ftx_j20 : ((Rows.funTextsRow.ifacesOut == Tryz.f4.resultTypes.toList.any (Tryz.prog.ifacesRec ·))) = true := by kernel_rfl
theorem ftx_j21 : ((Rows.funTextsRow.loopsOut == Tryz.f4.resultTypes.toList.any (Tryz.prog.loopsFrom ·))) = true := by kernel_rfl
theorem ftx_j22 : ((Rows.funTextsRow.plainKeys == Tryz.prog.plainKeys)) = true := by kernel_rfl
theorem ftx_j23 : (Rows.funTextsRow.shortTexts.isNone) = true := by kernel_rfl
theorem ftx_j24 : (Tryz.prog.stopsHeard) = true := by kernel_rfl
theorem ftx_j25 : (Tryz.prog.mayEnter) = true := by kernel_rfl
theorem ftx_j26 : ((Rows.funTextsRow.lifted == Tryz.prog.liftsFinal)) = true := by kernel_rfl
theorem ftx_j27 : ((Tryz.prog.make == some Rows.funTextsRow.make)) = true := by kernel_rfl
theorem ftx_j28 : ((Rows.funTextsRow.kinds == (if Rows.funTextsRow.domain.isEmpty then [] else Tryz.f4.params.toList.map fun t => match Tryz.prog.underlying t with | some (.int k) => some k | _ => none))) = true := by kernel_rfl
theorem ftx_j29 : ((Rows.funTextsRow.pinned == Rows.funTextsRow.pinnedBy)) = true := by kernel_rfl
theorem ftx_j30 : ((Rows.funTextsRow.veiled == (Tryz.f4.params.toList ++ Rows.funTextsSpec.plain.varTypes Tryz.prog ++ Tryz.f4.resultTypes.toList).any (Tryz.prog.veiledRec ·))) = true := by kernel_rfl
theorem ftx_j31 : (Rows.funTextsRow.veiledFits Tryz.prog Tryz.f4.params.toList (Tryz.f4.params.toList ++ Rows.funTextsSpec.plain.varTypes Tryz.prog ++ Tryz.f4.resultTypes.toList)) = true := by kernel_rfl
set_option maxRecDepth 1000000 in
theorem ftx_joined : joinedFacts Tryz.prog 4 Tryz.f4 Rows.funTextsSpec Rows.funTextsRow = true :=
  (ftx_and (ftx_and (ftx_and (ftx_and (ftx_and (ftx_and (ftx_and (ftx_and (ftx_and (ftx_and (ftx_and (ftx_and (ftx_and (ftx_and (ftx_and (ftx_and (ftx_and (ftx_and (ftx_and (ftx_and (ftx_and (ftx_and (ftx_and (ftx_and (ftx_and (ftx_and (ftx_and (ftx_and (ftx_and (ftx_and (ftx_and ftx_j0 ftx_j1) ftx_j2) ftx_j3) ftx_j4) ftx_j5) ftx_j6) ftx_j7) ftx_j8) ftx_j9) ftx_j10) ftx_j11) ftx_j12) ftx_j13) ftx_j14) ftx_j15) ftx_j16) ftx_j17) ftx_j18) ftx_j19) ftx_j20) ftx_j21) ftx_j22) ftx_j23) ftx_j24) ftx_j25) ftx_j26) ftx_j27) ftx_j28) ftx_j29) ftx_j30) ftx_j31)

theorem funTexts_holds : Rows.FunTextsSaid :=
  OpenClaim.holds_of_wide 4 Tryz.f4 rfl rfl rfl rfl rfl rfl rfl ⟨rfl, rfl, rfl, rfl, rfl⟩ rfl rfl rfl rfl rfl (by kernel_rfl) Tryz.func4 ftx_joined
    (of_decide_eq_true (by kernel_rfl)) (by unfold Func.isWrapper; first | (rw [if_pos (by decide +kernel)]; kernel_rfl) | (rw [if_neg (by decide +kernel)]; exact ⟨rfl, rfl⟩))
    (fun os started H enc _ => ftx_lifted os started H enc)

/-- THE TIED CARD. -/
theorem funTexts_card : Rows.FunTextsCardSaid :=
  Claim7.holds_tied_plain_at .later [] [.data, .data, .data, .data, .sentinel, .sentinel, .sentinel, .sentinel, .sentinel, .sentinel, .listed, .data, .pinned] true (true, "5915e900c3686fb0a2a65095ddafe60afccc71f40baecda0f42221358f06883c") true
    funTexts_holds (fun _ h => by cases h) (by kernel_rfl) (fun _ h => by cases h) funTexts_row_tie rfl ⟨rfl, rfl⟩ (by kernel_rfl) rfl
    (fun f fn hf hfn => by
      obtain rfl : f = 4 := Option.some.inj ((show Tryz.prog.funcNamed "inglenook/inglenooklaw16.FunTexts" = some 4 by kernel_rfl).symm.trans hf) |>.symm
      obtain rfl : fn = Tryz.f4 := (Option.some.inj (Tryz.func4.symm.trans hfn)).symm
      exact ⟨by kernel_rfl, fun j t ht => by
        rw [Tryz.params4] at ht
        have h3 : t = 24 ∨ t = 38 ∨ t = 2 := by
          rcases j with _ | _ | _ | j
          · left; simpa using ht.symm
          · right; left; simpa using ht.symm
          · right; right; simpa using ht.symm
          · simp at ht
        rcases h3 with rfl | rfl | rfl
        · exact (show Tryz.prog.wantsStandIn 24 = false by kernel_rfl)
        · exact (show Tryz.prog.wantsStandIn 38 = false by kernel_rfl)
        · exact (show Tryz.prog.wantsStandIn 2 = false by kernel_rfl)
        ⟩)
    (by kernel_rfl)
#print axioms funTexts_card
end Go.Proofs.YtbalpfpcbckghaaGreatDoor
