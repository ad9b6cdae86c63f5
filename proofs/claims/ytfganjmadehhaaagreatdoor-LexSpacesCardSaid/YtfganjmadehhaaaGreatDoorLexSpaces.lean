/-
  PROVED: for every text and any two numbers, LexSpaces returns true: more spaces between words, lines more ahead, change nothing but lines.
  CONDITIONS: none besides the given statement's own.
-/
import Derived.Test.YtfganjmadehhaaaGreatDoorLxsH
namespace Go.Proofs.YtfganjmadehhaaaGreatDoor
open Go.ChangeShapes Go.WideShapes Go.ChangeAt Go.RowKit Go.Lib
open Go.ChangeMaps (open_string shut_string)
set_option linter.unusedVariables false

set_option maxRecDepth 1000000 in
theorem lsp_laid {W : World} (h : laidMetH Tryz.prog Rows.lexSpacesRow.laid W) (hs : W.ShapedOpen Tryz.prog) : (∃ ea, ErrsAt W ea) ∧ StrcAt W ∧ TxAt W ∧ SpaceAt W := by
  rw [MakeChecks.laidMetH_plain _ _ _ (by kernel_rfl)] at h
  have hr := room_of hs
  obtain ⟨a4, h4⟩ := sent_at 22 h.tail.tail.tail.tail (by kernel_rfl) (by kernel_rfl)
  obtain ⟨a3, h3⟩ := sent_at 21 h.tail.tail.tail.tail.tail (by kernel_rfl) (by kernel_rfl)
  obtain ⟨b7, hb7⟩ := sent_at 7 h.tail.tail.tail.tail.tail.tail (by kernel_rfl) (by kernel_rfl)
  obtain ⟨b2, hb2⟩ := sent_at 0 h.tail.tail.tail.tail.tail.tail.tail (by kernel_rfl) (by kernel_rfl)
  obtain ⟨b6, hb6⟩ := sent_at 4 h.tail.tail.tail.tail.tail.tail.tail.tail (by kernel_rfl) (by kernel_rfl)
  obtain ⟨b0, hb0⟩ := sent_at 3 h.tail.tail.tail.tail.tail.tail.tail.tail.tail (by kernel_rfl) (by kernel_rfl)
  obtain ⟨b1, hb1⟩ := sent_at 13 h.tail.tail.tail.tail.tail.tail.tail.tail.tail.tail (by kernel_rfl) (by kernel_rfl)
  have ht : TabIs Tryz.prog W "internal/strconv.uint64pow10" .u64 pow10Tab := tabIs_of_head (g := 19) (by kernel_rfl) (by kernel_rfl) Tryz.underlying179 Tryz.underlying108 (by kernel_rfl) (by kernel_rfl) h.tail.tail
  have hsp : SpaceAt W := tabIs_of_head (g := 1) (by kernel_rfl) (by kernel_rfl) Tryz.underlying63 Tryz.underlying5 (by kernel_rfl) (by kernel_rfl) h.tail.tail.tail.tail.tail.tail.tail.tail.tail.tail.tail.tail
  exact ⟨⟨eaOf b0 b1 b2 b6 b7, hb0, hb1, hb2, hb6, hb7, hr⟩, ⟨⟨_, _, h3⟩, ⟨_, _, h4⟩, ht, hr⟩, ⟨ht, hr, Tryz.laysM155.s1_3 W hs⟩, hsp⟩

theorem lsp_door (os : Os) (args : Array Value) : laidMetH Tryz.prog Rows.lexSpacesRow.laid ((World.laidAll Tryz.prog os Rows.lexSpacesRow.laid).forCall (fun _ _ => 0) ⟨#[], args, []⟩).memory := by
  rw [MakeChecks.laidMetH_plain _ _ _ (by kernel_rfl)]; exact laidMet_laidAll _ (by kernel_rfl) (by kernel_rfl)

set_option maxRecDepth 100000 in
theorem lsp_lifted (os : Os) (started : os.Started) (H : Type) (enc : TypeId × Value → H) :
    ReturnsInHanded {} Tryz.checked os 6 .any (fun w args => (Rows.lexSpacesSpec.pre enc Tryz.prog Tryz.f6 [] false w args ∧ laidMetH Tryz.prog Rows.lexSpacesRow.laid w) ∧ sizedMet enc Tryz.prog Tryz.f6 (OpenSpec.ofChange Rows.lexSpacesSpec) false w args)
      (Rows.lexSpacesSpec.post enc Tryz.prog Tryz.f6 false true false false) := by
  refine handed_and_shaped (C := Tryz.checked) (X := fun w _ => laidMetH Tryz.prog Rows.lexSpacesRow.laid w) (fun _ _ _ hh h => h.of_heap hh) own_knob started (by kernel_rfl) Tryz.func6
    (ChangeSpec.witness_shaped (enc := enc) (C := Tryz.checked) (os := os) (X := fun w _ => laidMetH Tryz.prog Rows.lexSpacesRow.laid w) false (World.laidAll Tryz.prog os Rows.lexSpacesRow.laid) #[.string ByteArray.empty, .int .i64 0, .int .i64 0] 8 (World.laidAll_os _ _ _) (World.shaped_of_ZipB (by kernel_rfl) (by kernel_rfl)) (by kernel_rfl) (by kernel_rfl) (by kernel_rfl) (lsp_door os _)) ?_
  intro W base args ds gs before hval0 hW hwt hL hS
  have hval : ∀ (j : Nat) t v, Tryz.f6.params[j]? = some t → args[j]? = some v → Value.okWide Tryz.prog W .any base t v := hval0
  have hW' := hW
  obtain ⟨p, q, hA0, hV, rfl, hfz, hnd⟩ := hW
  have hA : DataW.TrodAll enc Tryz.prog W 0 (fun _ => true) true Tryz.f6.params.toList args.toList ds p := hA0
  rw [Tryz.params6] at hA hval
  obtain ⟨v0, vs0, d0, ds0, p0, q0, hargs, rfl, rfl, h0, r0⟩ := trodAll_cons hA
  obtain ⟨v1, vs1, d1, ds1, p1, q1, rfl, rfl, rfl, h1, r1⟩ := trodAll_cons r0
  obtain ⟨v2, vs2, d2, ds2, p2, q2, rfl, rfl, rfl, h2, r2⟩ := trodAll_cons r1
  obtain ⟨rfl, rfl, rfl⟩ := trodAll_nil r2
  obtain rfl : args = #[v0, v1, v2] := by cases args; simp_all
  obtain ⟨rfl, rfl⟩ := trodVars_none hV
  obtain ⟨a0, rfl, rfl, rfl, w0⟩ := open_string Tryz.underlying9 (hval 0 9 v0 rfl rfl) h0
  obtain ⟨a1, rfl, rfl, rfl, w1⟩ := open_int Tryz.underlying3 (hval 1 3 v1 rfl rfl) h1
  have hr1 := i64_range w1
  obtain ⟨a2, rfl, rfl, rfl, w2⟩ := open_int Tryz.underlying3 (hval 2 3 v2 rfl rfl) h2
  have hr2 := i64_range w2
  clear hA0 hval0
  simp only [List.append_nil] at hW'
  obtain ⟨⟨ea, he⟩, hst, htx, hsp⟩ := lsp_laid hL hS
  refine (lexSpaces_f a0 a1 a2 ea W hr1.1 hr1.2 hr2.1 hr2.2 he hst htx hsp).mono fun e W' ⟨he, hb⟩ => ?_
  subst he
  exact ⟨_, rfl, _, _, _, [], [], [], hW', (trodAll_cons_mk (shut_bool Tryz.underlying4 _) trodAll_mk0), (trodAll_cons_mk (shut_string Tryz.underlying9 w0) (trodAll_cons_mk (shut_int Tryz.underlying3 w1) (trodAll_cons_mk (shut_int Tryz.underlying3 w2) trodAll_mk0))), rfl, hb.frame _, fun h => by cases h⟩

theorem lexSpaces_holds : Rows.LexSpacesSaid :=
  OpenClaim.holds_of_wide 6 Tryz.f6 rfl rfl rfl rfl rfl rfl rfl ⟨rfl, rfl, rfl, rfl, rfl⟩ rfl rfl rfl rfl rfl (by kernel_rfl) Tryz.func6 (by kernel_rfl)
    (of_decide_eq_true (by kernel_rfl)) (by unfold Func.isWrapper; first | (rw [if_pos (by decide +kernel)]; kernel_rfl) | (rw [if_neg (by decide +kernel)]; exact ⟨rfl, rfl⟩))
    (fun os started H enc _ => lsp_lifted os started H enc)

/-- THE TIED CARD. -/
theorem lexSpaces_card : Rows.LexSpacesCardSaid :=
  Claim7.holds_tied_plain_at .later [] [.data, .data, .data, .data, .sentinel, .sentinel, .sentinel, .sentinel, .sentinel, .sentinel, .sentinel, .listed, .data, .pinned] true (true, "c19dc36caee858b9da6119125f86c65ea7c5b1f49d22319f1b824ab2d9deaed8") true
    lexSpaces_holds (fun _ h => by cases h) (by kernel_rfl) (fun _ h => by cases h) lexSpaces_row_tie rfl ⟨rfl, rfl⟩ (by kernel_rfl) rfl
    (fun f fn hf hfn => by
      obtain rfl : f = 6 := Option.some.inj ((show Tryz.prog.funcNamed "inglenook/inglenooklaw6.LexSpaces" = some 6 by kernel_rfl).symm.trans hf) |>.symm
      obtain rfl : fn = Tryz.f6 := (Option.some.inj (Tryz.func6.symm.trans hfn)).symm
      exact ⟨by kernel_rfl, fun j t ht => by
        rw [Tryz.params6] at ht
        have h3 : t = 9 ∨ t = 3 ∨ t = 3 := by
          rcases j with _ | _ | _ | j
          · left; simpa using ht.symm
          · right; left; simpa using ht.symm
          · right; right; simpa using ht.symm
          · simp at ht
        rcases h3 with rfl | rfl | rfl
        · exact (show Tryz.prog.wantsStandIn 9 = false by kernel_rfl)
        · exact (show Tryz.prog.wantsStandIn 3 = false by kernel_rfl)
        · exact (show Tryz.prog.wantsStandIn 3 = false by kernel_rfl)
        ⟩)
    (by kernel_rfl)
#print axioms lexSpaces_card
end Go.Proofs.YtfganjmadehhaaaGreatDoor
