/-
  PROVED: for every row of texts and every gap, CmdQuotes returns true: words that are quoted, with a sign ahead of each quote and each sign, come as they are, spaces too.
  CONDITIONS: none besides the given statement's own.
-/
import Derived.Test.YtcnfbdabbnhjlaaDoorCmdG
namespace Go.Proofs.YtcnfbdabbnhjlaaDoor
open Go.ChangeShapes Go.WideShapes Go.ChangeAt Go.RowKit Go.Lib
open Go.ChangeMaps (open_string shut_string)
set_option linter.unusedVariables false

set_option maxRecDepth 1000000 in
theorem cquo_laid {W : World} (h : laidMetH Tryd.prog Rows.cmdQuotesRow.laid W) (hs : W.ShapedOpen Tryd.prog) : (∃ ea, ErrsAt W ea) ∧ SpaceAt W := by
  rw [MakeChecks.laidMetH_plain _ _ _ (by kernel_rfl)] at h
  have hr := room_of hs
  obtain ⟨b7, hb7⟩ := sent_at 9 h.tail (by kernel_rfl) (by kernel_rfl)
  obtain ⟨b2, hb2⟩ := sent_at 7 h.tail.tail (by kernel_rfl) (by kernel_rfl)
  obtain ⟨b6, hb6⟩ := sent_at 8 h.tail.tail.tail (by kernel_rfl) (by kernel_rfl)
  obtain ⟨b0, hb0⟩ := sent_at 1 h.tail.tail.tail.tail (by kernel_rfl) (by kernel_rfl)
  obtain ⟨b1, hb1⟩ := sent_at 6 h.tail.tail.tail.tail.tail (by kernel_rfl) (by kernel_rfl)
  have hsp : SpaceAt W := tabIs_of_head (g := 0) (by kernel_rfl) (by kernel_rfl) Tryd.underlying78 Tryd.underlying5 (by kernel_rfl) (by kernel_rfl) h.tail.tail.tail.tail.tail.tail.tail
  exact ⟨⟨eaOf b0 b1 b2 b6 b7, hb0, hb1, hb2, hb6, hb7, hr⟩, hsp⟩

theorem cquo_door (os : Os) (args : Array Value) : laidMetH Tryd.prog Rows.cmdQuotesRow.laid ((World.laidAll Tryd.prog os Rows.cmdQuotesRow.laid).forCall (fun _ _ => 0) ⟨#[], args, []⟩).memory := by
  rw [MakeChecks.laidMetH_plain _ _ _ (by kernel_rfl)]; exact laidMet_laidAll _ (by kernel_rfl) (by kernel_rfl)

set_option maxRecDepth 100000 in
theorem cquo_lifted (os : Os) (started : os.Started) (H : Type) (enc : TypeId × Value → H) :
    ReturnsInHanded {} Tryd.checked os 3 .any (fun w args => (Rows.cmdQuotesSpec.pre enc Tryd.prog Tryd.f3 [] false w args ∧ laidMetH Tryd.prog Rows.cmdQuotesRow.laid w) ∧ sizedMet enc Tryd.prog Tryd.f3 (OpenSpec.ofChange Rows.cmdQuotesSpec) false w args)
      (Rows.cmdQuotesSpec.post enc Tryd.prog Tryd.f3 false true false false) := by
  refine handed_and_shaped (C := Tryd.checked) (X := fun w _ => laidMetH Tryd.prog Rows.cmdQuotesRow.laid w) (fun _ _ _ hh h => h.of_heap hh) own_knob started (by kernel_rfl) Tryd.func3
    (ChangeSpec.witness_shaped (enc := enc) (C := Tryd.checked) (os := os) (X := fun w _ => laidMetH Tryd.prog Rows.cmdQuotesRow.laid w) false (World.laidAll Tryd.prog os Rows.cmdQuotesRow.laid) #[.slice none 0 0, .int .i64 0] 8 (World.laidAll_os _ _ _) (World.shaped_of_ZipB (by kernel_rfl) (by kernel_rfl)) (by kernel_rfl) (by kernel_rfl) (by kernel_rfl) (cquo_door os _)) ?_
  intro W base args ds gs before hval0 hW hwt hL hS
  have hval : ∀ (j : Nat) t v, Tryd.f3.params[j]? = some t → args[j]? = some v → Value.okWide Tryd.prog W .any base t v := hval0
  have hW' := hW
  obtain ⟨p, q, hA0, hV, rfl, hfz, hnd⟩ := hW
  have hA : DataW.TrodAll enc Tryd.prog W 0 (fun _ => true) true Tryd.f3.params.toList args.toList ds p := hA0
  rw [Tryd.params3] at hA hval
  obtain ⟨v0, vs0, d0, ds0, p0, q0, hargs, rfl, rfl, h0, r0⟩ := trodAll_cons hA
  obtain ⟨v1, vs1, d1, ds1, p1, q1, rfl, rfl, rfl, h1, r1⟩ := trodAll_cons r0
  obtain ⟨rfl, rfl, rfl⟩ := trodAll_nil r1
  obtain rfl : args = #[v0, v1] := by cases args; simp_all
  obtain ⟨rfl, rfl⟩ := trodVars_none hV
  have hq : (DataW.weightsEach Tryd.prog [22, 3] [d0, d1]).all (· ≤ reachBytes) = true := hwt
  obtain ⟨hq0, hq⟩ := weights_head hq
  obtain ⟨hq1, hq⟩ := weights_head hq
  have hk0 := h0
  obtain ⟨l0, sa0, sc0, rfl, hcp0, hst0⟩ := open_strs (cells_slice Tryd.underlying22 (hval 0 22 v0 rfl rfl)) h0 (by decide)
  obtain ⟨a1, rfl, rfl, rfl, w1⟩ := open_int Tryd.underlying3 (hval 1 3 v1 rfl rfl) h1
  have hr1 := i64_range w1
  clear hA0 hval0
  simp only [List.append_nil] at hW'
  obtain ⟨⟨ea, he⟩, hsp⟩ := cquo_laid hL hS
  refine (cmdQuotes_c l0 sa0 sc0 a1 ea W hcp0 hst0 hr1.1 hr1.2 he hsp).mono fun e W' ⟨he, hb⟩ => ?_
  subst he
  exact ⟨_, rfl, _, _, _, [], _, [], hW', (trodAll_cons_mk (shut_bool Tryd.underlying4 _) trodAll_mk0), (trodAll_cons_mk (Below.trod laid_out (by kernel_rfl) (of_decide_eq_true (by kernel_rfl)) hk0 hb (fun x hx => hW'.lt x (by simp [hx]))) (trodAll_cons_mk (shut_int Tryd.underlying3 w1) trodAll_mk0)), rfl, hb.frame _, fun h => by cases h⟩

theorem cmdQuotes_holds : Rows.CmdQuotesSaid :=
  OpenClaim.holds_of_wide 3 Tryd.f3 rfl rfl rfl rfl rfl rfl rfl ⟨rfl, rfl, rfl, rfl, rfl⟩ rfl rfl rfl rfl rfl (by kernel_rfl) Tryd.func3 (by kernel_rfl)
    (of_decide_eq_true (by kernel_rfl)) (by unfold Func.isWrapper; first | (rw [if_pos (by decide +kernel)]; kernel_rfl) | (rw [if_neg (by decide +kernel)]; exact ⟨rfl, rfl⟩))
    (fun os started H enc _ => cquo_lifted os started H enc)

/-- THE TIED CARD. -/
theorem cmdQuotes_card : Rows.CmdQuotesCardSaid :=
  Claim7.holds_tied_plain_at .later [] [.data, .sentinel, .sentinel, .sentinel, .sentinel, .sentinel, .listed, .data, .pinned] true (true, "9fe896f2814cc2b3b766ecf996786518a3b0a49a1bc79cbf478989123220dbf5") false
    cmdQuotes_holds (fun _ h => by cases h) (by kernel_rfl) (fun _ h => by cases h) cmdQuotes_row_tie rfl ⟨rfl, rfl⟩ (by kernel_rfl) rfl
    (fun f fn hf hfn => by
      obtain rfl : f = 3 := Option.some.inj ((show Tryd.prog.funcNamed "inglenook/inglenooklaw26.CmdQuotes" = some 3 by kernel_rfl).symm.trans hf) |>.symm
      obtain rfl : fn = Tryd.f3 := (Option.some.inj (Tryd.func3.symm.trans hfn)).symm
      exact ⟨by kernel_rfl, fun j t ht => by
        rw [Tryd.params3] at ht
        have h3 : t = 22 ∨ t = 3 := by
          rcases j with _ | _ | j
          · left; simpa using ht.symm
          · right; simpa using ht.symm
          · simp at ht
        rcases h3 with rfl | rfl
        · exact (show Tryd.prog.wantsStandIn 22 = false by kernel_rfl)
        · exact (show Tryd.prog.wantsStandIn 3 = false by kernel_rfl)
        ⟩)
    (by kernel_rfl)
#print axioms cmdQuotes_card
end Go.Proofs.YtcnfbdabbnhjlaaDoor
