/-
  PROVED: for every list, every value and every place, FunLists returns true: what is appended is last, what is inserted is first, both sorted are one, twice reversed it is as it was; set, it is there; without, it is one shorter.
  CONDITIONS: none besides the given statement's own.
-/
import Derived.Test.YtbalpfpcbckghaaGreatDoorFlsAU
import Derived.Test.YtbalpfpcbckghaaGreatDoorFlsAG
import Derived.Shelf.Vars
namespace Go.Proofs.YtbalpfpcbckghaaGreatDoor
open Go.ChangeShapes Go.WideShapes Go.ChangeAt Go.RowKit Go.Lib
open Go.ChangeMaps (open_string shut_string)
set_option linter.unusedVariables false

set_option maxRecDepth 1000000 in
theorem fls_laid {W : World} (h : laidMetH Tryz.prog Rows.funListsRow.laid W) (hs : W.ShapedOpen Tryz.prog) : (∃ ea, ErrsAt W ea) ∧ TxAt W ∧ SpaceAt W := by
  rw [MakeChecks.laidMetH_plain _ _ _ (by kernel_rfl)] at h
  have hr := room_of hs
  obtain ⟨bdeep, hbdeep⟩ := sent_at 0 h.tail.tail.tail.tail.tail.tail.tail.tail.tail (by kernel_rfl) (by kernel_rfl)
  obtain ⟨bmany, hbmany⟩ := sent_at 3 h.tail.tail.tail.tail.tail.tail.tail (by kernel_rfl) (by kernel_rfl)
  obtain ⟨brange, hbrange⟩ := sent_at 5 h.tail.tail.tail.tail.tail.tail.tail.tail (by kernel_rfl) (by kernel_rfl)
  obtain ⟨bshape, hbshape⟩ := sent_at 6 h.tail.tail.tail.tail.tail.tail (by kernel_rfl) (by kernel_rfl)
  have ht : TabIs Tryz.prog W "internal/strconv.uint64pow10" .u64 pow10Tab := tabIs_of_head (g := 7) (by kernel_rfl) (by kernel_rfl) Tryz.underlying192 Tryz.underlying128 (by kernel_rfl) (by kernel_rfl) h.tail.tail
  have hsp : SpaceAt W := tabIs_of_head (g := 1) (by kernel_rfl) (by kernel_rfl) Tryz.underlying85 Tryz.underlying5 (by kernel_rfl) (by kernel_rfl) h.tail.tail.tail.tail.tail.tail.tail.tail.tail.tail.tail
  exact ⟨⟨fun k => if k = 112 then bdeep else if k = 104 then bmany else if k = 105 then brange else if k = 103 then bshape else bdeep, { deep := hbdeep, many := hbmany, range := hbrange, shape := hbshape, room := hr }⟩, ⟨ht, hr, Go.Proofs.cell_of_shapedOpen_int (zero := #[.int .i64 0]) (t := 3) hs (of_decide_eq_true (by kernel_rfl)) (by kernel_rfl) rfl (by kernel_rfl) (by kernel_rfl) Tryz.underlying3⟩, hsp⟩

theorem fls_door (os : Os) (args : Array Value) : laidMetH Tryz.prog Rows.funListsRow.laid ((World.laidAll Tryz.prog os Rows.funListsRow.laid).forCall (fun _ _ => 0) ⟨#[], args, []⟩).memory := by
  rw [MakeChecks.laidMetH_plain _ _ _ (by kernel_rfl)]; exact laidMet_laidAll _ (by kernel_rfl) (by kernel_rfl)

set_option maxRecDepth 100000 in
theorem fls_lifted (os : Os) (started : os.Started) (H : Type) (enc : TypeId × Value → H) :
    ReturnsInHanded {} Tryz.checked os 3 .any (fun w args => (Rows.funListsSpec.pre enc Tryz.prog Tryz.f3 [] false w args ∧ laidMetH Tryz.prog Rows.funListsRow.laid w) ∧ sizedMet enc Tryz.prog Tryz.f3 (OpenSpec.ofChange Rows.funListsSpec) false w args)
      (Rows.funListsSpec.post enc Tryz.prog Tryz.f3 false true false false) := by
  refine handed_and_shaped (C := Tryz.checked) (X := fun w _ => laidMetH Tryz.prog Rows.funListsRow.laid w) (fun _ _ _ hh h => h.of_heap hh) own_knob started (by kernel_rfl) Tryz.func3
    (ChangeSpec.witness_shaped (enc := enc) (C := Tryz.checked) (os := os) (X := fun w _ => laidMetH Tryz.prog Rows.funListsRow.laid w) false (World.laidAll Tryz.prog os Rows.funListsRow.laid) #[.slice none 0 0, .agg #[.int .i64 0, .int .i64 0, .string ByteArray.empty, .slice none 0 0], .int .i64 0] 8 (World.laidAll_os _ _ _) (World.shaped_of_ZipB (by kernel_rfl) (by kernel_rfl)) (by kernel_rfl) (by kernel_rfl) (by kernel_rfl) (fls_door os _)) ?_
  intro W base args ds gs before hval0 hW hwt hL hS
  have hval : ∀ (j : Nat) t v, Tryz.f3.params[j]? = some t → args[j]? = some v → Value.okWide Tryz.prog W .any base t v := hval0
  have hW' := hW
  obtain ⟨p, q, hA0, hV, rfl, hfz, hnd⟩ := hW
  have hA : DataW.TrodAll enc Tryz.prog W 0 (fun _ => true) true Tryz.f3.params.toList args.toList ds p := hA0
  rw [Tryz.params3] at hA hval
  obtain ⟨v0, vs0, d0, ds0, p0, q0, hargs, rfl, rfl, h0, r0⟩ := trodAll_cons hA
  obtain ⟨v1, vs1, d1, ds1, p1, q1, rfl, rfl, rfl, h1, r1⟩ := trodAll_cons r0
  obtain ⟨v2, vs2, d2, ds2, p2, q2, rfl, rfl, rfl, h2, r2⟩ := trodAll_cons r1
  obtain ⟨rfl, rfl, rfl⟩ := trodAll_nil r2
  obtain rfl : args = #[v0, v1, v2] := by cases args; simp_all
  obtain ⟨rfl, rfl⟩ := trodVars_none hV
  have hq : (DataW.weightsEach Tryz.prog [22, 24, 3] [d0, d1, d2]).all (· ≤ reachBytes) = true := hwt
  obtain ⟨hq0, hq⟩ := weights_head hq
  obtain ⟨hq1, hq⟩ := weights_head hq
  obtain ⟨hq2, hq⟩ := weights_head hq
  have hk0 := h0
  obtain ⟨sub0, sa0, sc0, rfl, hfit0, h640, hln0, hsc0, hrep0⟩ := open_values (cells_slice Tryz.underlying22 (hval 0 22 v0 rfl rfl)) h0 hq0
  have hk1 := h1
  obtain ⟨k1, n1, s1, sub1, sa1, sc1, rfl, hfit1, h641, hsc1, hrep1⟩ := open_value (hval 1 24 v1 rfl rfl) h1 hq1
  obtain ⟨a2, rfl, rfl, rfl, w2⟩ := open_int Tryz.underlying3 (hval 2 3 v2 rfl rfl) h2
  have hr2 := i64_range w2
  clear hA0 hval0
  simp only [List.append_nil] at hW'
  obtain ⟨⟨ea, he⟩, htx, hsp⟩ := fls_laid hL hS
  refine (funLists_f sub0 sa0 sc0 k1 n1 s1 sub1 sa1 sc1 a2 ea W hfit0 h640 hln0 hsc0 hrep0 hfit1 h641 hsc1 hrep1 hr2.1 hr2.2 he htx hsp).mono fun e W' ⟨he, hb⟩ => ?_
  subst he
  exact ⟨_, rfl, _, _, _, [], _, [], hW', (trodAll_cons_mk (shut_bool Tryz.underlying4 _) trodAll_mk0), (trodAll_cons_mk (Below.trod laid_out (by kernel_rfl) (of_decide_eq_true (by kernel_rfl)) hk0 hb (fun x hx => hW'.lt x (by simp [hx]))) (trodAll_cons_mk (Below.trod laid_out (by kernel_rfl) (of_decide_eq_true (by kernel_rfl)) hk1 hb (fun x hx => hW'.lt x (by simp [hx]))) (trodAll_cons_mk (shut_int Tryz.underlying3 w2) trodAll_mk0))), rfl, hb.frame _, fun h => by cases h⟩

theorem fls_and {a b : Bool} (ha : a = true) (hb : b = true) : (a && b) = true := by rw [ha, hb]; rfl
theorem fls_j0 : (Rows.funListsRow.wf (OpenSpec.ofChange Rows.funListsSpec)) = true := by kernel_rfl
theorem fls_j1 : (laidOutB Tryz.prog) = true := by kernel_rfl
theorem fls_j2 : (mapsRowed Tryz.prog) = true := by kernel_rfl
theorem fls_j3 : (Tryz.f3.params.all (Tryz.prog.readableRec ·)) = true := by kernel_rfl
theorem fls_j4 : (namedTie Tryz.prog Rows.funListsRow.named Rows.funListsSpec.vars) = true := by kernel_rfl
theorem fls_j5 : ((Rows.funListsRow.stops == [])) = true := by kernel_rfl
theorem fls_j6 : ((Tryz.prog.stops == [])) = true := by kernel_rfl
theorem fls_j7 : ((Rows.funListsRow.knobs == [])) = true := by kernel_rfl
theorem fls_j8 : ((Tryz.prog.stopKnobs == [])) = true := by kernel_rfl
theorem fls_j9 : ((Rows.funListsRow.inPlace == Tryz.prog.inPlace 3)) = true := by kernel_rfl
theorem fls_j10 : ((Rows.funListsRow.unfollowed == Tryz.prog.unfollowed 3)) = true := by kernel_rfl
theorem fls_j11 : ((Rows.funListsRow.recurses == Tryz.prog.recurses 3)) = true := by kernel_rfl
theorem fls_j12 : ((Rows.funListsRow.named == Tryz.prog.varsNamed 3)) = true := by kernel_rfl
theorem fls_j13 : ((Rows.funListsRow.maps == (Tryz.f3.params.toList ++ Rows.funListsSpec.plain.varTypes Tryz.prog).any (Tryz.prog.mapsRec ·))) = true := by kernel_rfl
theorem fls_j14 : ((Rows.funListsRow.ifaces == (Tryz.f3.params.toList ++ Rows.funListsSpec.plain.varTypes Tryz.prog).any (Tryz.prog.ifacesRec ·))) = true := by kernel_rfl
theorem fls_j15 : ((Rows.funListsRow.mapsOut == Tryz.prog.mapsAmong Tryz.f3.resultTypes.toList)) = true := by kernel_rfl
theorem fls_j16 : ((Rows.funListsRow.loops == (Tryz.f3.params.toList ++ Rows.funListsSpec.plain.varTypes Tryz.prog).any (Tryz.prog.loopsFrom ·))) = true := by kernel_rfl
theorem fls_j17 : ((Rows.funListsRow.wideKeys == (Tryz.f3.params.toList ++ Rows.funListsSpec.plain.varTypes Tryz.prog ++ Tryz.f3.resultTypes.toList).any (Tryz.prog.wideKeysFrom ·))) = true := by kernel_rfl
theorem fls_j18 : (Rows.funListsSpec.vars.all (Tryz.prog.varReadable ·)) = true := by kernel_rfl
theorem fls_j19 : (Tryz.f3.resultTypes.all (fun t => Tryz.prog.readableRec t && decide (t < Tryz.prog.types.size))) = true := by kernel_rfl
theorem fls_j20 : ((Rows.funListsRow.ifacesOut == Tryz.f3.resultTypes.toList.any (Tryz.prog.ifacesRec ·))) = true := by kernel_rfl
theorem fls_j21 : ((Rows.funListsRow.loopsOut == Tryz.f3.resultTypes.toList.any (Tryz.prog.loopsFrom ·))) = true := by kernel_rfl
theorem fls_j22 : ((Rows.funListsRow.plainKeys == Tryz.prog.plainKeys)) = true := by kernel_rfl
theorem fls_j23 : (Rows.funListsRow.shortTexts.isNone) = true := by kernel_rfl
theorem fls_j24 : (Tryz.prog.stopsHeard) = true := by kernel_rfl
theorem fls_j25 : (Tryz.prog.mayEnter) = true := by kernel_rfl
theorem fls_j26 : ((Rows.funListsRow.lifted == Tryz.prog.liftsFinal)) = true := by kernel_rfl
theorem fls_j27 : ((Tryz.prog.make == some Rows.funListsRow.make)) = true := by kernel_rfl
theorem fls_j28 : ((Rows.funListsRow.kinds == (if Rows.funListsRow.domain.isEmpty then [] else Tryz.f3.params.toList.map fun t => match Tryz.prog.underlying t with | some (.int k) => some k | _ => none))) = true := by kernel_rfl
theorem fls_j29 : ((Rows.funListsRow.pinned == Rows.funListsRow.pinnedBy)) = true := by kernel_rfl
theorem fls_j30 : ((Rows.funListsRow.veiled == (Tryz.f3.params.toList ++ Rows.funListsSpec.plain.varTypes Tryz.prog ++ Tryz.f3.resultTypes.toList).any (Tryz.prog.veiledRec ·))) = true := by kernel_rfl
theorem fls_j31 : (Rows.funListsRow.veiledFits Tryz.prog Tryz.f3.params.toList (Tryz.f3.params.toList ++ Rows.funListsSpec.plain.varTypes Tryz.prog ++ Tryz.f3.resultTypes.toList)) = true := by kernel_rfl
set_option maxRecDepth 1000000 in
theorem fls_joined : joinedFacts Tryz.prog 3 Tryz.f3 Rows.funListsSpec Rows.funListsRow = true :=
  (fls_and (fls_and (fls_and (fls_and (fls_and (fls_and (fls_and (fls_and (fls_and (fls_and (fls_and (fls_and (fls_and (fls_and (fls_and (fls_and (fls_and (fls_and (fls_and (fls_and (fls_and (fls_and (fls_and (fls_and (fls_and (fls_and (fls_and (fls_and (fls_and (fls_and (fls_and fls_j0 fls_j1) fls_j2) fls_j3) fls_j4) fls_j5) fls_j6) fls_j7) fls_j8) fls_j9) fls_j10) fls_j11) fls_j12) fls_j13) fls_j14) fls_j15) fls_j16) fls_j17) fls_j18) fls_j19) fls_j20) fls_j21) fls_j22) fls_j23) fls_j24) fls_j25) fls_j26) fls_j27) fls_j28) fls_j29) fls_j30) fls_j31)

theorem funLists_holds : Rows.FunListsSaid :=
  OpenClaim.holds_of_wide 3 Tryz.f3 rfl rfl rfl rfl rfl rfl rfl ⟨rfl, rfl, rfl, rfl, rfl⟩ rfl rfl rfl rfl rfl (by kernel_rfl) Tryz.func3 fls_joined
    (of_decide_eq_true (by kernel_rfl)) (by unfold Func.isWrapper; first | (rw [if_pos (by decide +kernel)]; kernel_rfl) | (rw [if_neg (by decide +kernel)]; exact ⟨rfl, rfl⟩))
    (fun os started H enc _ => fls_lifted os started H enc)

/-- THE TIED CARD. -/
theorem funLists_card : Rows.FunListsCardSaid :=
  Claim7.holds_tied_plain_at .later [] [.data, .data, .data, .data, .sentinel, .sentinel, .sentinel, .sentinel, .sentinel, .sentinel, .listed, .data, .pinned] true (true, "5915e900c3686fb0a2a65095ddafe60afccc71f40baecda0f42221358f06883c") true
    funLists_holds (fun _ h => by cases h) (by kernel_rfl) (fun _ h => by cases h) funLists_row_tie rfl ⟨rfl, rfl⟩ (by kernel_rfl) rfl
    (fun f fn hf hfn => by
      obtain rfl : f = 3 := Option.some.inj ((show Tryz.prog.funcNamed "inglenook/inglenooklaw16.FunLists" = some 3 by kernel_rfl).symm.trans hf) |>.symm
      obtain rfl : fn = Tryz.f3 := (Option.some.inj (Tryz.func3.symm.trans hfn)).symm
      exact ⟨by kernel_rfl, fun j t ht => by
        rw [Tryz.params3] at ht
        have h3 : t = 22 ∨ t = 24 ∨ t = 3 := by
          rcases j with _ | _ | _ | j
          · left; simpa using ht.symm
          · right; left; simpa using ht.symm
          · right; right; simpa using ht.symm
          · simp at ht
        rcases h3 with rfl | rfl | rfl
        · exact (show Tryz.prog.wantsStandIn 22 = false by kernel_rfl)
        · exact (show Tryz.prog.wantsStandIn 24 = false by kernel_rfl)
        · exact (show Tryz.prog.wantsStandIn 3 = false by kernel_rfl)
        ⟩)
    (by kernel_rfl)
#print axioms funLists_card
end Go.Proofs.YtbalpfpcbckghaaGreatDoor
