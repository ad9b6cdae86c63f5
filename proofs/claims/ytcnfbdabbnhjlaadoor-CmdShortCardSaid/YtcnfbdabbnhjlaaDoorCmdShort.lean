/-
  PROVED: for every text, sign and count of spaces, CmdShort returns true: a line that begins with a quote is said, one with a colon is an emote, with all behind as it is.
  CONDITIONS: none besides the given statement's own.
-/
import Derived.Test.YtcnfbdabbnhjlaaDoorCmdF
namespace Go.Proofs.YtcnfbdabbnhjlaaDoor
open Go.ChangeShapes Go.WideShapes Go.ChangeAt Go.RowKit Go.Lib
open Go.ChangeMaps (open_string shut_string)
set_option linter.unusedVariables false

set_option maxRecDepth 1000000 in
theorem cshort_laid {W : World} (h : laidMetH Tryd.prog Rows.cmdShortRow.laid W) (hs : W.ShapedOpen Tryd.prog) : (∃ ea, ErrsAt W ea) ∧ SpaceAt W := by
  rw [MakeChecks.laidMetH_plain _ _ _ (by kernel_rfl)] at h
  have hr := room_of hs
  obtain ⟨b7, hb7⟩ := sent_at 9 h.tail (by kernel_rfl) (by kernel_rfl)
  obtain ⟨b2, hb2⟩ := sent_at 7 h.tail.tail (by kernel_rfl) (by kernel_rfl)
  obtain ⟨b6, hb6⟩ := sent_at 8 h.tail.tail.tail (by kernel_rfl) (by kernel_rfl)
  obtain ⟨b0, hb0⟩ := sent_at 1 h.tail.tail.tail.tail (by kernel_rfl) (by kernel_rfl)
  obtain ⟨b1, hb1⟩ := sent_at 6 h.tail.tail.tail.tail.tail (by kernel_rfl) (by kernel_rfl)
  have hsp : SpaceAt W := tabIs_of_head (g := 0) (by kernel_rfl) (by kernel_rfl) Tryd.underlying78 Tryd.underlying5 (by kernel_rfl) (by kernel_rfl) h.tail.tail.tail.tail.tail.tail.tail
  exact ⟨⟨eaOf b0 b1 b2 b6 b7, hb0, hb1, hb2, hb6, hb7, hr⟩, hsp⟩

theorem cshort_door (os : Os) (args : Array Value) : laidMetH Tryd.prog Rows.cmdShortRow.laid ((World.laidAll Tryd.prog os Rows.cmdShortRow.laid).forCall (fun _ _ => 0) ⟨#[], args, []⟩).memory := by
  rw [MakeChecks.laidMetH_plain _ _ _ (by kernel_rfl)]; exact laidMet_laidAll _ (by kernel_rfl) (by kernel_rfl)

set_option maxRecDepth 100000 in
theorem cshort_lifted (os : Os) (started : os.Started) (H : Type) (enc : TypeId × Value → H) :
    ReturnsInHanded {} Tryd.checked os 4 .any (fun w args => (Rows.cmdShortSpec.pre enc Tryd.prog Tryd.f4 [] false w args ∧ laidMetH Tryd.prog Rows.cmdShortRow.laid w) ∧ sizedMet enc Tryd.prog Tryd.f4 (OpenSpec.ofChange Rows.cmdShortSpec) false w args)
      (Rows.cmdShortSpec.post enc Tryd.prog Tryd.f4 false true false false) := by
  refine handed_and_shaped (C := Tryd.checked) (X := fun w _ => laidMetH Tryd.prog Rows.cmdShortRow.laid w) (fun _ _ _ hh h => h.of_heap hh) own_knob started (by kernel_rfl) Tryd.func4
    (ChangeSpec.witness_shaped (enc := enc) (C := Tryd.checked) (os := os) (X := fun w _ => laidMetH Tryd.prog Rows.cmdShortRow.laid w) false (World.laidAll Tryd.prog os Rows.cmdShortRow.laid) #[.string ByteArray.empty, .bool false, .int .i64 0] 8 (World.laidAll_os _ _ _) (World.shaped_of_ZipB (by kernel_rfl) (by kernel_rfl)) (by kernel_rfl) (by kernel_rfl) (by kernel_rfl) (cshort_door os _)) ?_
  intro W base args ds gs before hval0 hW hwt hL hS
  have hval : ∀ (j : Nat) t v, Tryd.f4.params[j]? = some t → args[j]? = some v → Value.okWide Tryd.prog W .any base t v := hval0
  have hW' := hW
  obtain ⟨p, q, hA0, hV, rfl, hfz, hnd⟩ := hW
  have hA : DataW.TrodAll enc Tryd.prog W 0 (fun _ => true) true Tryd.f4.params.toList args.toList ds p := hA0
  rw [Tryd.params4] at hA hval
  obtain ⟨v0, vs0, d0, ds0, p0, q0, hargs, rfl, rfl, h0, r0⟩ := trodAll_cons hA
  obtain ⟨v1, vs1, d1, ds1, p1, q1, rfl, rfl, rfl, h1, r1⟩ := trodAll_cons r0
  obtain ⟨v2, vs2, d2, ds2, p2, q2, rfl, rfl, rfl, h2, r2⟩ := trodAll_cons r1
  obtain ⟨rfl, rfl, rfl⟩ := trodAll_nil r2
  obtain rfl : args = #[v0, v1, v2] := by cases args; simp_all
  obtain ⟨rfl, rfl⟩ := trodVars_none hV
  obtain ⟨a0, rfl, rfl, rfl, w0⟩ := open_string Tryd.underlying9 (hval 0 9 v0 rfl rfl) h0
  obtain ⟨a1, rfl, rfl, rfl⟩ := open_bool Tryd.underlying4 (hval 1 4 v1 rfl rfl) h1
  obtain ⟨a2, rfl, rfl, rfl, w2⟩ := open_int Tryd.underlying3 (hval 2 3 v2 rfl rfl) h2
  have hr2 := i64_range w2
  clear hA0 hval0
  simp only [List.append_nil] at hW'
  obtain ⟨⟨ea, he⟩, hsp⟩ := cshort_laid hL hS
  refine (cmdShort_c a0 a1 a2 ea W hr2.1 hr2.2 he hsp).mono fun e W' ⟨he, hb⟩ => ?_
  subst he
  exact ⟨_, rfl, _, _, _, [], [], [], hW', (trodAll_cons_mk (shut_bool Tryd.underlying4 _) trodAll_mk0), (trodAll_cons_mk (shut_string Tryd.underlying9 w0) (trodAll_cons_mk (shut_bool Tryd.underlying4 _) (trodAll_cons_mk (shut_int Tryd.underlying3 w2) trodAll_mk0))), rfl, hb.frame _, fun h => by cases h⟩

theorem cmdShort_holds : Rows.CmdShortSaid :=
  OpenClaim.holds_of_wide 4 Tryd.f4 rfl rfl rfl rfl rfl rfl rfl ⟨rfl, rfl, rfl, rfl, rfl⟩ rfl rfl rfl rfl rfl (by kernel_rfl) Tryd.func4 (by kernel_rfl)
    (of_decide_eq_true (by kernel_rfl)) (by unfold Func.isWrapper; first | (rw [if_pos (by decide +kernel)]; kernel_rfl) | (rw [if_neg (by decide +kernel)]; exact ⟨rfl, rfl⟩))
    (fun os started H enc _ => cshort_lifted os started H enc)

/-- THE TIED CARD. -/
theorem cmdShort_card : Rows.CmdShortCardSaid :=
  Claim7.holds_tied_plain_at .later [] [.data, .sentinel, .sentinel, .sentinel, .sentinel, .sentinel, .listed, .data, .pinned] true (true, "9fe896f2814cc2b3b766ecf996786518a3b0a49a1bc79cbf478989123220dbf5") false
    cmdShort_holds (fun _ h => by cases h) (by kernel_rfl) (fun _ h => by cases h) cmdShort_row_tie rfl ⟨rfl, rfl⟩ (by kernel_rfl) rfl
    (fun f fn hf hfn => by
      obtain rfl : f = 4 := Option.some.inj ((show Tryd.prog.funcNamed "inglenook/inglenooklaw26.CmdShort" = some 4 by kernel_rfl).symm.trans hf) |>.symm
      obtain rfl : fn = Tryd.f4 := (Option.some.inj (Tryd.func4.symm.trans hfn)).symm
      exact ⟨by kernel_rfl, fun j t ht => by
        rw [Tryd.params4] at ht
        have h3 : t = 9 ∨ t = 4 ∨ t = 3 := by
          rcases j with _ | _ | _ | j
          · left; simpa using ht.symm
          · right; left; simpa using ht.symm
          · right; right; simpa using ht.symm
          · simp at ht
        rcases h3 with rfl | rfl | rfl
        · exact (show Tryd.prog.wantsStandIn 9 = false by kernel_rfl)
        · exact (show Tryd.prog.wantsStandIn 4 = false by kernel_rfl)
        · exact (show Tryd.prog.wantsStandIn 3 = false by kernel_rfl)
        ⟩)
    (by kernel_rfl)
#print axioms cmdShort_card
end Go.Proofs.YtcnfbdabbnhjlaaDoor
