/-
  PROVED: A property's, or a verb's, name that is a name, and no key, is shown as it is; others in brackets, as what they are
  CONDITIONS: none besides the given statement's own.
-/
import Derived.Test.YtocolgmfcjfjpaaDoorSbH
import Derived.Shelf.Vars
import Derived.Test.YtocolgmfcjfjpaaDoorSbI
namespace Go.Proofs.YtocolgmfcjfjpaaDoor
open Go.ChangeShapes Go.WideShapes Go.ChangeAt Go.RowKit Go.Lib
open Go.ChangeMaps (open_string shut_string)
set_option linter.unusedVariables false

set_option maxRecDepth 1000000 in
theorem snames_laid {W : World} (h : laidMetH Tryd.prog Rows.showNamesRow.laid W) (hs : W.ShapedOpen Tryd.prog) : (∃ ea, ErrsAt W ea) ∧ TxAt W := by
  rw [MakeChecks.laidMetH_plain _ _ _ (by kernel_rfl)] at h
  have hr := room_of hs
  obtain ⟨bdeep, hbdeep⟩ := sent_at 1 h.tail.tail.tail.tail.tail.tail.tail.tail (by kernel_rfl) (by kernel_rfl)
  obtain ⟨bmany, hbmany⟩ := sent_at 0 h.tail.tail.tail.tail.tail (by kernel_rfl) (by kernel_rfl)
  obtain ⟨brange, hbrange⟩ := sent_at 4 h.tail.tail.tail.tail.tail.tail (by kernel_rfl) (by kernel_rfl)
  obtain ⟨bshape, hbshape⟩ := sent_at 2 h.tail.tail.tail.tail (by kernel_rfl) (by kernel_rfl)
  obtain ⟨bname, hbname⟩ := sent_at 3 h.tail.tail.tail.tail.tail.tail.tail (by kernel_rfl) (by kernel_rfl)
  have ht : TabIs Tryd.prog W "internal/strconv.uint64pow10" .u64 pow10Tab := tabIs_of_head (g := 5) (by kernel_rfl) (by kernel_rfl) Tryd.underlying111 Tryd.underlying95 (by kernel_rfl) (by kernel_rfl) h.tail.tail
  exact ⟨⟨fun k => if k = 112 then bdeep else if k = 104 then bmany else if k = 105 then brange else if k = 103 then bshape else if k = 106 then bname else bdeep, { deep := hbdeep, many := hbmany, range := hbrange, shape := hbshape, name := hbname, room := hr }⟩, ⟨ht, hr, Go.Proofs.cell_of_shapedOpen_int (zero := #[.int .i64 0]) (t := 3) hs (of_decide_eq_true (by kernel_rfl)) (by kernel_rfl) rfl (by kernel_rfl) (by kernel_rfl) Tryd.underlying3⟩⟩

theorem snames_door (os : Os) (args : Array Value) : laidMetH Tryd.prog Rows.showNamesRow.laid ((World.laidAll Tryd.prog os Rows.showNamesRow.laid).forCall (fun _ _ => 0) ⟨#[], args, []⟩).memory := by
  rw [MakeChecks.laidMetH_plain _ _ _ (by kernel_rfl)]; exact laidMet_laidAll _ (by kernel_rfl) (by kernel_rfl)

set_option maxRecDepth 100000 in
theorem snames_lifted (os : Os) (started : os.Started) (H : Type) (enc : TypeId × Value → H) :
    ReturnsInHanded {} Tryd.checked os 3 .any (fun w args => (Rows.showNamesSpec.pre enc Tryd.prog Tryd.f3 [] false w args ∧ laidMetH Tryd.prog Rows.showNamesRow.laid w) ∧ sizedMet enc Tryd.prog Tryd.f3 (OpenSpec.ofChange Rows.showNamesSpec) false w args)
      (Rows.showNamesSpec.post enc Tryd.prog Tryd.f3 false true false false) := by
  refine handed_and_shaped (C := Tryd.checked) (X := fun w _ => laidMetH Tryd.prog Rows.showNamesRow.laid w) (fun _ _ _ hh h => h.of_heap hh) own_knob started (by kernel_rfl) Tryd.func3
    (ChangeSpec.witness_shaped (enc := enc) (C := Tryd.checked) (os := os) (X := fun w _ => laidMetH Tryd.prog Rows.showNamesRow.laid w) false (World.laidAll Tryd.prog os Rows.showNamesRow.laid) #[.string ByteArray.empty, .bool false] 8 (World.laidAll_os _ _ _) (World.shaped_of_ZipB (by kernel_rfl) (by kernel_rfl)) (by kernel_rfl) (by kernel_rfl) (by kernel_rfl) (snames_door os _)) ?_
  intro W base args ds gs before hval0 hW hwt hL hS
  have hval : ∀ (j : Nat) t v, Tryd.f3.params[j]? = some t → args[j]? = some v → Value.okWide Tryd.prog W .any base t v := hval0
  have hW' := hW
  obtain ⟨p, q, hA0, hV, rfl, hfz, hnd⟩ := hW
  have hA : DataW.TrodAll enc Tryd.prog W 0 (fun _ => true) true Tryd.f3.params.toList args.toList ds p := hA0
  rw [Tryd.params3] at hA hval
  obtain ⟨v0, vs0, d0, ds0, p0, q0, hargs, rfl, rfl, h0, r0⟩ := trodAll_cons hA
  obtain ⟨v1, vs1, d1, ds1, p1, q1, rfl, rfl, rfl, h1, r1⟩ := trodAll_cons r0
  obtain ⟨rfl, rfl, rfl⟩ := trodAll_nil r1
  obtain rfl : args = #[v0, v1] := by cases args; simp_all
  obtain ⟨rfl, rfl⟩ := trodVars_none hV
  have hq : (DataW.weightsEach Tryd.prog [9, 4] [d0, d1]).all (· ≤ reachBytes) = true := hwt
  obtain ⟨hq0, hq⟩ := weights_head hq
  obtain ⟨hq1, hq⟩ := weights_head hq
  obtain ⟨a0, rfl, rfl, rfl, w0⟩ := open_string Tryd.underlying9 (hval 0 9 v0 rfl rfl) h0
  have hz0 := weight_string hq0
  obtain ⟨a1, rfl, rfl, rfl⟩ := open_bool Tryd.underlying4 (hval 1 4 v1 rfl rfl) h1
  clear hA0 hval0
  simp only [List.append_nil] at hW'
  obtain ⟨⟨ea, he⟩, htx⟩ := snames_laid hL hS
  refine (showNames_c a0 a1 ea W hz0 he htx).mono fun e W' ⟨he, hb⟩ => ?_
  subst he
  exact ⟨_, rfl, _, _, _, [], [], [], hW', (trodAll_cons_mk (shut_bool Tryd.underlying4 _) trodAll_mk0), (trodAll_cons_mk (shut_string Tryd.underlying9 w0) (trodAll_cons_mk (shut_bool Tryd.underlying4 _) trodAll_mk0)), rfl, hb.frame _, fun h => by cases h⟩

theorem showNames_holds : Rows.ShowNamesSaid :=
  OpenClaim.holds_of_wide 3 Tryd.f3 rfl rfl rfl rfl rfl rfl rfl ⟨rfl, rfl, rfl, rfl, rfl⟩ rfl rfl rfl rfl rfl (by kernel_rfl) Tryd.func3 (by kernel_rfl)
    (of_decide_eq_true (by kernel_rfl)) (by unfold Func.isWrapper; first | (rw [if_pos (by decide +kernel)]; kernel_rfl) | (rw [if_neg (by decide +kernel)]; exact ⟨rfl, rfl⟩))
    (fun os started H enc _ => snames_lifted os started H enc)

/-- THE TIED CARD. -/
theorem showNames_card : Rows.ShowNamesCardSaid :=
  Claim7.holds_tied_plain_at .later [] [.data, .data, .data, .data, .sentinel, .sentinel, .sentinel, .sentinel, .sentinel, .pinned] true (true, "9b0e7dc1680bd1cf1a72cba9e2286cd6ab44b8661636aa592460a59ecec4bf69") false
    showNames_holds (fun _ h => by cases h) (by kernel_rfl) (fun _ h => by cases h) showNames_row_tie rfl ⟨rfl, rfl⟩ (by kernel_rfl) rfl
    (fun f fn hf hfn => by
      obtain rfl : f = 3 := Option.some.inj ((show Tryd.prog.funcNamed "inglenook/inglenooklaw8.ShowNames" = some 3 by kernel_rfl).symm.trans hf) |>.symm
      obtain rfl : fn = Tryd.f3 := (Option.some.inj (Tryd.func3.symm.trans hfn)).symm
      exact ⟨by kernel_rfl, fun j t ht => by
        rw [Tryd.params3] at ht
        have h3 : t = 9 ∨ t = 4 := by
          rcases j with _ | _ | j
          · left; simpa using ht.symm
          · right; simpa using ht.symm
          · simp at ht
        rcases h3 with rfl | rfl
        · exact (show Tryd.prog.wantsStandIn 9 = false by kernel_rfl)
        · exact (show Tryd.prog.wantsStandIn 4 = false by kernel_rfl)
        ⟩)
    (by kernel_rfl)
#print axioms showNames_card
end Go.Proofs.YtocolgmfcjfjpaaDoor
