/- Contracts of the functions that the statement reaches, and the plain mathematics beneath: several texts joined. -/
import Derived.Test.YtgmnbdfbbcpciaaGreatDoorSmK
import Derived.Test.YtgmnbdfbbcpciaaGreatDoorSmF
import Derived.Test.YtgmnbdfbbcpciaaGreatDoorSmI
import Derived.Test.YtgmnbdfbbcpciaaGreatDoorSmC
import Derived.Test.YtgmnbdfbbcpciaaGreatDoorRows
import Derived.Stop.LaidErr
import Derived.Lib.LaidTab
import Derived.ProofKit
import Derived.Test.YtgmnbdfbbcpciaaGreatDoorTie
import Derived.Test.YtgmnbdfbbcpciaaGreatDoorCards
import Derived.SevenTiedAt
import Derived.LaidMore
import Derived.Stop.Joined
import Derived.HandedShaped
import Derived.OpenShut
import Derived.ShutString
import Derived.Lay
import Derived.Carry
import Derived.Test.YtgmnbdfbbcpciaaGreatDoorSmA
import Derived.Test.YtgmnbdfbbcpciaaGreatDoorSmB
import Derived.Test.YtgmnbdfbbcpciaaGreatDoorSmD
import Derived.Test.YtgmnbdfbbcpciaaGreatDoorSmE
import Derived.Test.YtgmnbdfbbcpciaaGreatDoorSmG
import Derived.Test.YtgmnbdfbbcpciaaGreatDoorSmH
import Derived.Test.YtgmnbdfbbcpciaaGreatDoorSmJ
namespace Go.Proofs.YtgmnbdfbbcpciaaGreatDoor
open Go.RowKit Go.Lib
set_option linter.unusedVariables false

theorem right_of_fine {l : NL} (ht : l.tot ≤ 4096) (hd : l.deep ≤ 40)
    (hk : ∀ j, j < l.len → ∀ (op' ln' : Int) (s' : ByteArray) (k' n' : Int) (t' : ByteArray) (v' : VL) (sub' : NL), l.drop j = .cons op' ln' s' k' n' t' v' sub' (l.drop (j + 1)) → FineAt op' s' k' n' t' v' sub' 7 false) : rightN l 7 = true := by
  unfold rightN
  rw [decide_eq_true ht, decide_eq_true hd]
  have h : walkN l (fun _ => (7, false)) 0 = none := walk_of_kids l _ 0 (fun i hi op' ln' s' k' n' t' v' sub' hd' => hk i hi op' ln' s' k' n' t' v' sub' hd' false (.inl rfl))
  rw [h]; rfl

set_option maxRecDepth 100000 in
set_option maxHeartbeats 4000000 in
theorem valid_r (l : NL) (A : Option Addr) (c : Nat) (w : World) (hfit : l.fit) (hlen : l.len ≤ 140737488351232) (hc : l.len ≤ c) (hrep : RpN w (fun b => b < w.heap.size) l A) :
    Calls Tryz.prog 9 #[.slice A l.len c] w fun e w' => RetF e (rightN l 7 = true) ∧ Below w.heap.size w w' := by
  obtain ⟨wa, hwa⟩ : ∃ wa, wa = w.alloc (.cells #[.int .i64 0, .bool false, .int .i64 0, .int .i64 0, .int .i64 0, .string ⟨#[]⟩, .slice none 0 0] 37) := ⟨_, rfl⟩
  have hb : Below w.heap.size w wa := by rw [hwa]; exact (Below.refl _ _).alloc (Nat.le_refl _) _
  have hzw : wa.heap.size = w.heap.size + 1 := by rw [hwa]; simp
  have hF1 : StF wa w.heap.size (.int .i64 0) (.bool false) (.int .i64 0) (.int .i64 0) (.int .i64 0) (.string ⟨#[]⟩) (.slice none 0 0) := by rw [hwa]; exact StF.new w _ _ _ _ _ _ _
  obtain ⟨G, hG⟩ : ∃ G, G = w.heap.size := ⟨_, rfl⟩
  rw [← hG] at hF1
  have hGle : w.heap.size ≤ G := by omega
  have HRA := Lib.hid (hrep.keep (w' := wa) (S' := fun b => b < wa.heap.size) (fun b hlt => hb.block b hlt) (fun b hlt => Nat.lt_of_lt_of_le hlt hb.size))
  have TC := Lib.hid (toomany_r l A c wa hfit hlen hc HRA.out)
  have HF := Lib.hid hF1
  have HB := Lib.hid hb
  have HWA := Lib.hid hwa
  obtain ⟨tm, htm⟩ : ∃ tm, tm = decide (4096 < l.tot) := ⟨_, rfl⟩
  rw [← htm] at TC
  have HTM := Lib.hid htm
  clear hb hF1 hwa hrep htm
  go_enter Tryz.func9, Tryz.ntmps9
  go_wp2_with fail
  rw [← HWA.out]
  rw [show w.heap.size = G from hG.symm]
  clear hG
  refine TC.out.mono ?_
  rintro e w2 ⟨rfl, hb2⟩
  have HB2 := Lib.hid hb2
  have hz2 := hb2.size
  have HF2 := Lib.hid (HF.out.below hb2)
  clear hb2 TC
  cases tm
  case true =>
    have PC := Lib.hid (fun W => fbare_c 104 W)
    unfold fltV at PC
    go_wp2_with fail
    refine (PC.out _).mono ?_
    rintro e w5 ⟨rfl, hb5⟩
    have HS5 := Lib.hid (HF2.out.below hb5)
    have HB5 := Lib.hid (HB.out.trans (below_le' (HB2.out.trans (below_le' hb5 hz2)) HB.out.size))
    clear hb5
    go_wp2_with (refine wpList_store_row rfl 37 (.tmp 2) (.tmp 7) rfl G #[.int .i64 104, .bool false, .int .i64 0, .int .i64 0, .int .i64 0, .string ⟨#[]⟩, .slice none 0 0] rfl rfl _ _ HS5.out flt_info rfl (flt_one _ _ _) ?_
                 rename_i hKK
                 refine hKK _ _ (wp_ret ?_)
                 simp only [Exit.then]
                 refine ret_cell7 Tryz.results9 G rfl rfl (stf_rowSet HS5.out _ _ _ _ _ _ _) ?_
                 exact ⟨.mk 104 rfl (fun h => by cases h), below_rowSet HB5.out hGle _⟩)
  case false =>
    have ht4 : l.tot ≤ 4096 := by have h := HTM.out; have := of_decide_eq_false h.symm; omega
    have DC := Lib.hid (deep_r (l.tot + 1) l A c w2 (by omega) ht4 hfit hlen hc (HRA.out.keep (w' := w2) (fun b hlt => HB2.out.block b hlt) (fun b hlt => Nat.lt_of_lt_of_le hlt hz2)))
    go_wp2_with fail
    refine DC.out.mono ?_
    rintro e w3 ⟨rfl, hb3⟩
    have HB3 := Lib.hid (HB2.out.trans (below_le' hb3 hz2))
    have hz3 := HB3.out.size
    have HF3 := Lib.hid (HF.out.below HB3.out)
    clear hb3 DC
    by_cases hdp : 40 < l.deep
    · have q1 : (40 : Int) < (l.deep : Int) := by omega
      have PC := Lib.hid (fun W => fbare_c 112 W)
      unfold fltV at PC
      go_wp2_with fail
      refine (PC.out _).mono ?_
      rintro e w5 ⟨rfl, hb5⟩
      have HS5 := Lib.hid (HF3.out.below hb5)
      have HB5 := Lib.hid (HB.out.trans (below_le' (HB3.out.trans (below_le' hb5 hz3)) HB.out.size))
      clear hb5
      go_wp2_with (refine wpList_store_row rfl 37 (.tmp 2) (.tmp 11) rfl G #[.int .i64 112, .bool false, .int .i64 0, .int .i64 0, .int .i64 0, .string ⟨#[]⟩, .slice none 0 0] rfl rfl _ _ HS5.out flt_info rfl (flt_one _ _ _) ?_
                   rename_i hKK
                   refine hKK _ _ (wp_ret ?_)
                   simp only [Exit.then]
                   refine ret_cell7 Tryz.results9 G rfl rfl (stf_rowSet HS5.out _ _ _ _ _ _ _) ?_
                   exact ⟨.mk 112 rfl (fun h => by cases h), below_rowSet HB5.out hGle _⟩)
    · have q1 : ¬ ((40 : Int) < (l.deep : Int)) := by omega
      have HR3 := Lib.hid (HRA.out.keep (w' := w3) (S' := fun b => b < w3.heap.size) (fun b hlt => HB3.out.block b hlt) (fun b hlt => Nat.lt_of_lt_of_le hlt hz3))
      go_wp2_with fail
      go_loopg [3] l.len (fun kk v wr => ∃ i : Nat, v = .int .i64 (i : Int) ∧ i + kk = l.len ∧ Hid (Below w3.heap.size w3 wr) ∧ Hid (∀ j, j < i → ∀ (op' ln' : Int) (s' : ByteArray) (k' n' : Int) (t' : ByteArray) (v' : VL) (sub' : NL), l.drop j = .cons op' ln' s' k' n' t' v' sub' (l.drop (j + 1)) → FineAt op' s' k' n' t' v' sub' 7 false))
      case atStart => exact ⟨0, rfl, by omega, Below.refl _ _, fun j hj => absurd hj (Nat.not_lt_zero _)⟩
      case round =>
        obtain ⟨i, rfl, hik, hbr, hfine⟩ := hrel
        obtain ⟨wo, rfl⟩ : ∃ wo, wo = wr := ⟨_, rfl⟩
        have hzo := hbr.out.size
        have HBO := Lib.hid hbr.out
        have HFN := Lib.hid hfine.out
        clear hbr hfine
        by_cases hi : i < l.len
        · obtain ⟨g, rfl⟩ : ∃ g, gk = g + 1 := ⟨gk - 1, by omega⟩
          obtain ⟨b, o, op', ln', s', k', n', t', v', sub', va', vc', sa', sc', hA, hSb, hd, c0, c1, c2, c3, c4, c5, c6, hvc', hv', c7, hsc', hs'⟩ := (HR3.out.below HBO.out (fun b hb => hb)).nth hi
          have hfd := NL.fit_drop i l hfit
          rw [hd] at hfd
          obtain ⟨hf1, hf2, hf3, hf4, hf5, hf6, -⟩ := hfd
          subst hA
          have OC := Lib.hid (odd_r (sub'.tot + 1) op' ln' s' k' n' t' v' va' vc' sub' sa' sc' 7 false wo (by omega) hf1 hf2 hf3 hf4 hvc' hf5 hf6 hsc' (by decide) (hv'.wide (fun b hb => by omega)) (hs'.wide (fun b hb => by omega)))
          have HD := Lib.hid hd
          have ij : (i : Int) < (l.len : Int) := by omega
          clear hv' hs' hd
          go_wp2_with fail
          refine OC.out.mono ?_
          rintro e w6 ⟨⟨cf, fp, fq, rfl, hfin⟩, hb6⟩
          have HB6 := Lib.hid (HBO.out.trans (below_le' hb6 hzo))
          have hz6 := HB6.out.size
          have HFI := Lib.hid hfin
          clear hb6 hfin c0 c1 c2 c3 c4 c5 c6 c7 OC
          have HBF := Lib.hid (HB6.out.alloc hz6 (.cells #[.int .i64 cf, .bool fp, .int .i64 fq, .int .i64 0, .int .i64 0, .string ⟨#[]⟩, .slice none 0 0] 37))
          by_cases hc0 : cf = 0
          · have e1 := bne_no hc0
            have HFN2 := Lib.hid (show ∀ j, j < i + 1 → ∀ (op' ln' : Int) (s' : ByteArray) (k' n' : Int) (t' : ByteArray) (v' : VL) (sub' : NL), l.drop j = .cons op' ln' s' k' n' t' v' sub' (l.drop (j + 1)) → FineAt op' s' k' n' t' v' sub' 7 false from by
              intro j hj o1 l1 s1 k1 n1 t1 v1 sb1 hd1
              by_cases hji : j < i
              · exact HFN.out j hji o1 l1 s1 k1 n1 t1 v1 sb1 hd1
              · obtain rfl : j = i := by omega
                rw [HD.out] at hd1
                injection hd1 with q1 q2 q3 q4 q5 q6 q7 q8 q9
                subst q1; subst q3; subst q4; subst q5; subst q6; subst q7; subst q8
                exact HFI.out hc0)
            clear hc0
            go_wp2_with fail
            go_roundg g
            case measure => omega
            case rel => exact ⟨i + 1, by go_num, by omega, HBF.out, HFN2.out⟩
          · have e1 := bne_yes hc0
            have HC0 := Lib.hid hc0
            have HSX := Lib.hid (HF3.out.below HBF.out)
            have HBX := Lib.hid (HB.out.trans (below_le' (HB3.out.trans (below_le' HBF.out hz3)) HB.out.size))
            clear hc0
            go_wp2_with (refine wpList_store_row rfl 37 (.tmp 2) (.tmp 26) rfl G #[.int .i64 cf, .bool fp, .int .i64 fq, .int .i64 0, .int .i64 0, .string ⟨#[]⟩, .slice none 0 0] rfl rfl _ _ HSX.out flt_info rfl (flt_one _ _ _) ?_
                         rename_i hKK
                         refine hKK _ _ (wp_ret ?_)
                         simp only [Exit.then, Exit.inBlock]
                         refine ret_cell7 Tryz.results9 G rfl rfl (stf_rowSet HSX.out _ _ _ _ _ _ _) ?_
                         exact ⟨.mk cf rfl (fun h => absurd h HC0.out), below_rowSet HBX.out hGle _⟩)
        · obtain rfl : i = l.len := by omega
          have HBWX := Lib.hid (HB.out.trans (below_le' (HB3.out.trans (below_le' HBO.out hz3)) HB.out.size))
          have NO := Lib.hid (fun W => none_c W)
          unfold fltV at NO
          have HOK := Lib.hid (right_of_fine ht4 (by omega) HFN.out)
          have hsX := HF3.out.below HBO.out
          go_wp2_with fail
          refine (NO.out _).mono ?_
          rintro e w9 ⟨rfl, hb9⟩
          have HS9 := Lib.hid (hsX.below hb9)
          have HB9 := Lib.hid (HBWX.out.trans (below_le' hb9 HBWX.out.size))
          clear hb9 hsX
          go_wp2_with (refine wpList_store_row rfl 37 (.tmp 2) (.tmp 27) rfl G #[.int .i64 0, .bool false, .int .i64 0, .int .i64 0, .int .i64 0, .string ⟨#[]⟩, .slice none 0 0] rfl rfl _ _ HS9.out flt_info rfl (flt_one _ _ _) ?_
                       rename_i hKK
                       refine hKK _ _ (wp_ret ?_)
                       dsimp only
                       refine ret_cell7 Tryz.results9 G rfl rfl (stf_rowSet HS9.out _ _ _ _ _ _ _) ?_
                       exact ⟨.mk 0 rfl (fun _ => HOK.out), below_rowSet HB9.out hGle _⟩)

set_option maxRecDepth 100000 in
set_option maxHeartbeats 2000000 in
/-- Is it a program, of few nodes? Then there are few, and it is right. -/
theorem program_r (l : NL) (A : Option Addr) (c : Nat) (most : Int) (w : World) (hfit : l.fit) (hlen : l.len ≤ 140737488351232) (hc : l.len ≤ c) (hrep : RpN w (fun b => b < w.heap.size) l A) (h0 : 0 ≤ most) (h1 : most ≤ 1000000) :
    Calls Tryz.prog 5 #[.slice A l.len c, .int .i64 most] w fun e w' => RetB e ((l.tot : Int) ≤ most ∧ rightN l 7 = true) ∧ Below w.heap.size w w' := by
  have NC := Lib.hid (Nodes_c l A c most w hfit hlen hc hrep h0 h1)
  have VC := Lib.hid (fun w2 (hb2 : Below w.heap.size w w2) => valid_r l A c w2 hfit hlen hc (hrep.keep (w' := w2) (fun b hlt => hb2.block b hlt) (fun b hlt => Nat.lt_of_lt_of_le hlt hb2.size)))
  clear hrep
  go_enter Tryz.func5, Tryz.ntmps5
  go_wp2_with fail
  refine NC.out.mono ?_
  rintro e w2 ⟨⟨b, rfl, hb⟩, hb2⟩
  have HB2 := Lib.hid hb2
  have HM := Lib.hid hb
  clear hb hb2
  cases b
  · go_wp2_with fail
    go_ret
    exact ⟨.mk false rfl (fun h => by cases h), HB2.out⟩
  · have HM2 := Lib.hid (HM.out rfl)
    clear HM
    go_wp2_with fail
    refine (VC.out w2 HB2.out).mono ?_
    rintro e w3 ⟨⟨cf, fp, fq, rfl, hfin⟩, hb3⟩
    have HB3 := Lib.hid (HB2.out.trans (below_le' hb3 HB2.out.size))
    have HFI := Lib.hid hfin
    have hfld : ∀ W : World, (Instr.field 37 (.agg #[.int .i64 cf, .bool fp, .int .i64 fq, .int .i64 0, .int .i64 0, .string ⟨#[]⟩, .slice none 0 0]) 0).run Tryz.prog W = .ok (.int .i64 cf) W := fun W => by kernel_rfl
    clear hb3 hfin
    by_cases hc0 : cf = 0
    · have e1 : (cf == 0) = true := by rw [hc0]; rfl
      have HOK := Lib.hid (HFI.out hc0)
      clear hc0
      go_wp2_with fail
      go_ret
      exact ⟨.mk _ rfl (fun _ => ⟨HM2.out, HOK.out⟩), HB3.out⟩
    · have e1 := beq_no hc0
      clear hc0
      go_wp2_with fail
      go_ret
      exact ⟨.mk false rfl (fun h => by cases h), HB3.out⟩
end Go.Proofs.YtgmnbdfbbcpciaaGreatDoor
namespace Go.Proofs.YtgmnbdfbbcpciaaGreatDoor
open Go.RowKit Go.Lib
set_option linter.unusedVariables false

/-- The cells of a row of nodes. -/
def NRow (w : World) (S : Nat → Prop) : NL → List Value → Prop
  | .nil, xs => xs = []
  | .cons op ln s k n t v sub r, xs => ∃ (va : Option Addr) (vc : Nat) (sa : Option Addr) (sc : Nat) (ys : List Value), xs = [.int .i64 op, .int .i64 ln, .string s, .int .i64 k, .int .i64 n, .string t, .slice va v.len vc, .slice sa sub.len sc] ++ ys ∧
      v.len ≤ vc ∧ RpL w S v va ∧ sub.len ≤ sc ∧ RpN w S sub sa ∧ NRow w S r ys
theorem nrow_len {w : World} {S : Nat → Prop} : ∀ (l : NL) (xs : List Value), NRow w S l xs → xs.length = l.len * 8
  | .nil, xs, h => by rw [show xs = [] from h]; rfl
  | .cons _ _ _ _ _ _ _ _ r, xs, ⟨_, _, _, _, ys, h, _, _, _, _, hr⟩ => by
    rw [h, List.length_append, nrow_len r ys hr, NL.len]
    simp only [List.length_cons, List.length_nil]; omega
theorem nrow_one {w : World} {S : Nat → Prop} : ∀ (l : NL) (xs : List Value), NRow w S l xs → ∀ u ∈ xs, u.oneCell' = true
  | .nil, xs, h, u, hu => by rw [show xs = [] from h] at hu; cases hu
  | .cons _ _ _ _ _ _ _ _ r, xs, ⟨_, _, _, _, ys, h, _, _, _, _, hr⟩, u, hu => by
    rw [h, List.mem_append] at hu
    rcases hu with hu | hu
    · simp only [List.mem_cons, List.not_mem_nil, or_false] at hu
      rcases hu with rfl | rfl | rfl | rfl | rfl | rfl | rfl | rfl <;> rfl
    · exact nrow_one r ys hr u hu
theorem nrow_keep {w w' : World} {S S' : Nat → Prop} (hw : ∀ b, S b → w'.heap[b]? = w.heap[b]?) (hS : ∀ b, S b → S' b) : ∀ (l : NL) (xs : List Value), NRow w S l xs → NRow w' S' l xs
  | .nil, _, h => h
  | .cons _ _ _ _ _ _ _ _ r, xs, ⟨va, vc, sa, sc, ys, h, h1, h2, h3, h4, hr⟩ => ⟨va, vc, sa, sc, ys, h, h1, RpL.keep hw hS _ _ h2, h3, RpN.keep hw hS _ _ h4, nrow_keep hw hS r ys hr⟩
theorem nrow_app {w : World} {S : Nat → Prop} : ∀ (a b : NL) (xs ys : List Value), NRow w S a xs → NRow w S b ys → NRow w S (a.app b) (xs ++ ys)
  | .nil, b, xs, ys, h, hb => by rw [show xs = [] from h, NL.app]; exact hb
  | .cons _ _ _ _ _ _ _ _ r, b, xs, ys, ⟨va, vc, sa, sc, zs, h, h1, h2, h3, h4, hr⟩, hb => ⟨va, vc, sa, sc, zs ++ ys, by rw [h, List.append_assoc], h1, h2, h3, h4, nrow_app r b zs ys hr hb⟩
/-- A row in memory has such cells. -/
theorem nrow_of {w : World} {S : Nat → Prop} : ∀ (l : NL) (A : Option Addr), RpN w S l A → ∃ xs, NRow w S l xs ∧ ∀ b o, A = some ⟨b, o, none⟩ → ∀ (j : Nat) (u : Value), xs[j]? = some u → w.cell? ⟨b, o + j, none⟩ = some u
  | .nil, A, _ => ⟨[], rfl, fun b o _ j u h => by simp at h⟩
  | .cons op ln s k n t v sub r, A, ⟨b', o', va, vc, sa, sc, hA, hb, h0, h1, h2, h3, h4, h5, h6, hv, hvr, h7, hc, hs, hr⟩ => by
    obtain ⟨ys, hy, hc2⟩ := nrow_of r _ hr
    refine ⟨_, ⟨va, vc, sa, sc, ys, rfl, hv, hvr, hc, hs, hy⟩, fun b o e j u hu => ?_⟩
    rw [hA] at e
    injection e with e
    injection e with e1 e2
    subst e1; subst e2
    match j with
    | 0 => rw [← hu]; exact h0
    | 1 => rw [← hu]; exact h1
    | 2 => rw [← hu]; exact h2
    | 3 => rw [← hu]; exact h3
    | 4 => rw [← hu]; exact h4
    | 5 => rw [← hu]; exact h5
    | 6 => rw [← hu]; exact h6
    | 7 => rw [← hu]; exact h7
    | j + 8 =>
      have := hc2 b' (o' + 8) rfl j u (by simpa using hu)
      rw [show o' + (j + 8) = o' + 8 + j from by omega]; exact this
/-- Where such cells lie, there is the row. -/
theorem rpn_of {w : World} {S : Nat → Prop} {b : Nat} (hb : S b) : ∀ (l : NL) (xs : List Value) (o : Nat), NRow w S l xs → (∀ (j : Nat) (u : Value), xs[j]? = some u → w.cell? ⟨b, o + j, none⟩ = some u) → RpN w S l (some ⟨b, o, none⟩)
  | .nil, _, _, _, _ => trivial
  | .cons op ln s k n t v sub r, xs, o, ⟨va, vc, sa, sc, ys, h, h1, h2, h3, h4, hr⟩, hc => by
    subst h
    refine ⟨b, o, va, vc, sa, sc, rfl, hb, hc 0 _ rfl, hc 1 _ rfl, hc 2 _ rfl, hc 3 _ rfl, hc 4 _ rfl, hc 5 _ rfl, hc 6 _ rfl, h1, h2, hc 7 _ rfl, h3, h4, rpn_of hb r ys (o + 8) hr (fun j u hu => ?_)⟩
    have := hc (j + 8) u (by simpa using hu)
    rw [show o + 8 + j = o + (j + 8) from by omega]; exact this
/-- A node's line is where it is to be; set, the row is the one with that line. -/
theorem nrow_line {w : World} {S : Nat → Prop} {op ln : Int} {s : ByteArray} {k n : Int} {t : ByteArray} {v : VL} {sub r : NL} (ln' : Int) : ∀ (a : NL) (xs : List Value), NRow w S (a.app (.cons op ln s k n t v sub r)) xs →
    xs[a.len * 8 + 1]? = some (.int .i64 ln) ∧ NRow w S (a.app (.cons op ln' s k n t v sub r)) (xs.set (a.len * 8 + 1) (.int .i64 ln'))
  | .nil, xs, ⟨va, vc, sa, sc, ys, h, h1, h2, h3, h4, hr⟩ => by
    subst h
    exact ⟨rfl, va, vc, sa, sc, ys, rfl, h1, h2, h3, h4, hr⟩
  | .cons op0 ln0 s0 k0 n0 t0 v0 sub0 a, xs, ⟨va, vc, sa, sc, ys, h, h1, h2, h3, h4, hr⟩ => by
    obtain ⟨e1, e2⟩ := nrow_line ln' a ys hr
    subst h
    have hi : (NL.cons op0 ln0 s0 k0 n0 t0 v0 sub0 a).len * 8 + 1 = (a.len * 8 + 1) + 8 := by rw [NL.len]; omega
    rw [hi]
    exact ⟨by simpa using e1, va, vc, sa, sc, ys.set (a.len * 8 + 1) (.int .i64 ln'), by simp, h1, h2, h3, h4, e2⟩
theorem app_assoc1 {a r : NL} {op ln : Int} {s : ByteArray} {k n : Int} {t : ByteArray} {v : VL} {sub : NL} : (a.app (.cons op ln s k n t v sub .nil)).app r = a.app (.cons op ln s k n t v sub r) := by
  rw [NL.app_assoc]; rfl
theorem lines_app (f : Int → Int) : ∀ (a b : NL), (a.app b).lines f = (a.lines f).app (b.lines f)
  | .nil, _ => rfl
  | .cons _ _ _ _ _ _ _ _ r, b => by rw [NL.app, NL.lines, NL.lines, NL.app, lines_app f r b]
theorem lines_len (f : Int → Int) : ∀ a : NL, (a.lines f).len = a.len
  | .nil => rfl
  | .cons _ _ _ _ _ _ _ _ r => by rw [NL.lines, NL.len, NL.len, lines_len f r]
theorem lines_fit (f : Int → Int) : ∀ a : NL, a.fit → (a.lines f).fit
  | .nil, _ => trivial
  | .cons _ _ _ _ _ _ _ _ r, h => ⟨h.1, h.2.1, h.2.2.1, h.2.2.2.1, h.2.2.2.2.1, h.2.2.2.2.2.1, lines_fit f r h.2.2.2.2.2.2⟩
theorem lines_i64 (f : Int → Int) : ∀ a : NL, a.i64 → (a.lines f).i64
  | .nil, _ => trivial
  | .cons _ _ _ _ _ _ _ _ r, h => ⟨h.1, h.2.1, lines_i64 f r h.2.2⟩
theorem fit_app : ∀ a b : NL, a.fit → b.fit → (a.app b).fit
  | .nil, _, _, h => h
  | .cons _ _ _ _ _ _ _ _ r, b, h, hb => ⟨h.1, h.2.1, h.2.2.1, h.2.2.2.1, h.2.2.2.2.1, h.2.2.2.2.2.1, fit_app r b h.2.2.2.2.2.2 hb⟩
theorem i64_app : ∀ a b : NL, a.i64 → b.i64 → (a.app b).i64
  | .nil, _, _, h => h
  | .cons _ _ _ _ _ _ _ _ r, b, h, hb => ⟨h.1, h.2.1, i64_app r b h.2.2 hb⟩
end Go.Proofs.YtgmnbdfbbcpciaaGreatDoor
namespace Go.Proofs.YtgmnbdfbbcpciaaGreatDoor
open Go.RowKit Go.Lib
set_option linter.unusedVariables false

theorem node_info : (Tryz.prog.info? 33).map (fun i => (i.zero, i.size, i.bytes)) = some (some (.agg #[.int .i64 0, .int .i64 0, .string ⟨#[]⟩, .int .i64 0, .int .i64 0, .string ⟨#[]⟩, .slice none 0 0, .slice none 0 0]), 8, 112) := by kernel_rfl
/-- A row of the call's own, as nodes in memory. -/
theorem own_rpn {w : World} {base : Nat} {v : Value} {l : NL} {xs : List Value} {S : Nat → Prop} (ho : w.ownsRow base 33 8 v l.len xs) (hx : NRow w S l xs) (hS : ∀ k, S k → k < w.heap.size) :
    ∃ A c, v = .slice A l.len c ∧ l.len ≤ c ∧ RpN w (fun k => k < w.heap.size) l A := by
  have hx' := nrow_keep (w' := w) (S' := fun k => k < w.heap.size) (fun _ _ => rfl) hS l xs hx
  rcases ho.2 with ⟨rfl, h0⟩ | ⟨g, cap, cur, rfl, hbg, hg, hnc, hcm, hcs, ht⟩
  · have hl : l = .nil := by
      cases l with
      | nil => rfl
      | cons => simp [NL.len] at h0
    subst hl
    exact ⟨none, 0, rfl, Nat.le_refl _, trivial⟩
  · refine ⟨some ⟨g, 0, none⟩, cap, rfl, hnc, rpn_of (S := fun k => k < w.heap.size) (ho.lt g rfl).2 l xs 0 hx' (fun j u hu => ?_)⟩
    have h := ho.cells (g := g) rfl j u hu
    have e : (⟨g, 0, none⟩ : Addr).add j = ⟨g, 0 + j, none⟩ := by unfold Addr.add; split <;> simp_all
    rw [e] at h; exact h
theorem addr_add8 (b o k : Nat) : (⟨b, o, none⟩ : Addr).add k = ⟨b, o + k, none⟩ := by unfold Addr.add; split <;> simp_all
/-- Where a row's cells lie, whatever its address. -/
theorem news_of {w : World} {S : Nat → Prop} {l : NL} {ad : Addr} {xs : List Value} (hr : RpN w S l (some ad)) (hx : NRow w S l xs) (hc : ∀ b o, some ad = some ⟨b, o, none⟩ → ∀ (j : Nat) (u : Value), xs[j]? = some u → w.cell? ⟨b, o + j, none⟩ = some u) :
    ∀ (j : Nat) (u : Value), xs[j]? = some u → w.cell? (ad.add j) = some u ∧ ∃ b, S b ∧ (ad.add j).block = b := by
  intro j u hu
  cases l with
  | nil => rw [show xs = [] from hx] at hu; simp at hu
  | cons =>
    obtain ⟨b, o, _, _, _, _, hA, hb, _⟩ := hr
    injection hA with hA
    subst hA
    rw [addr_add8]
    exact ⟨hc b o rfl j u hu, b, hb, rfl⟩
theorem prog_len {l : NL} (h4 : l.tot ≤ 4096) (hfit : l.fit) (h64 : l.i64) (hr : rightN l 7 = true) : (progT l).length ≤ 10000000000 * l.tot := by
  simp only [rightN, Bool.and_eq_true, decide_eq_true_eq, Option.isNone_iff_eq_none] at hr
  exact stsT_len l false 0 (by omega) (by omega) hfit h64 hr.2

theorem last_nl {l : List UInt8} (h : EndsNl l) : (bs l).size = 0 ∨ ∃ h0 : (bs l).size - 1 < (bs l).size, (bs l)[(bs l).size - 1] = 10 := by
  rcases h with rfl | ⟨y, rfl⟩
  · exact .inl rfl
  · right
    have hz : (bs (y ++ [10])).size = y.length + 1 := by rw [bs_size, List.length_append]; rfl
    refine ⟨by omega, ?_⟩
    show (y ++ [10]).toArray[(bs (y ++ [10])).size - 1]'_ = 10
    simp [hz]
theorem lines_take (f : Int → Int) {a : NL} {i : Nat} {op ln : Int} {s : ByteArray} {k n : Int} {t : ByteArray} {v : VL} {sub : NL} (hd : a.drop i = .cons op ln s k n t v sub (a.drop (i + 1))) :
    ((a.take (i + 1)).lines f).app (a.drop (i + 1)) = ((a.take i).lines f).app (.cons op (f ln) s k n t v sub (a.drop (i + 1))) := by
  rw [NL.take_succ i a op ln s k n t v sub hd, lines_app]
  exact app_assoc1
theorem take_length : ∀ (i : Nat) (a : NL), i ≤ a.len → (a.take i).len = i
  | 0, a, _ => by cases a <;> rfl
  | i + 1, .nil, h => by simp [NL.len] at h
  | i + 1, .cons _ _ _ _ _ _ _ _ r, h => by rw [NL.take, NL.len, take_length i r (by rw [NL.len] at h; omega)]

set_option maxRecDepth 100000 in
set_option maxHeartbeats 8000000 in
theorem showLines_c (a b : NL) (A B : Option Addr) (ca cb : Nat) (by_ : Int) (ea : Nat → Addr) (w : World) (hsh : ShAt w ea) (hfa : a.fit) (hfb : b.fit) (h6a : a.i64) (h6b : b.i64) (hla : a.len ≤ 140737488351232) (hlb : b.len ≤ 140737488351232) (hca : a.len ≤ ca) (hcb : b.len ≤ cb) (hA0 : A = none → ca = 0) (hB0 : B = none → cb = 0)
    (hra : RpN w (fun k => k < w.heap.size) a A) (hrb : RpN w (fun k => k < w.heap.size) b B) :
    Calls Tryz.prog 3 #[.slice A a.len ca, .slice B b.len cb, .int .i64 by_] w fun e w' => e = .returned (.bool true) ∧ Below w.heap.size w w' := by
  obtain ⟨i0, hi0, hz0, hz1, hz2⟩ := info_parts node_info
  have FC := Lib.hid (first8_c ea w hsh)
  have HA := Lib.hid (fun W (hW : Below w.heap.size w W) => show RpN W (fun k => k < w.heap.size) a A from hra.keep (fun k hk => hW.block k hk) (fun k hk => hk))
  have HBn := Lib.hid (fun W (hW : Below w.heap.size w W) => show RpN W (fun k => k < w.heap.size) b B from hrb.keep (fun k hk => hW.block k hk) (fun k hk => hk))
  have PA := Lib.hid (fun W (hW : Below w.heap.size w W) => program_r a A ca 500 W hfa hla hca ((HA.out W hW).wide (fun k hk => Nat.lt_of_lt_of_le hk hW.size)) (by decide) (by decide))
  have PB := Lib.hid (fun W (hW : Below w.heap.size w W) => program_r b B cb 500 W hfb hlb hcb ((HBn.out W hW).wide (fun k hk => Nat.lt_of_lt_of_le hk hW.size)) (by decide) (by decide))
  have HSH := Lib.hid hsh
  clear hsh hra hrb
  go_enter Tryz.func3, Tryz.ntmps3
  go_wp2_with fail
  refine FC.out.mono ?_
  rintro e w1 ⟨rfl, hb1⟩
  have HB1 := Lib.hid hb1
  clear hb1 FC
  go_wp2_with fail
  refine (PA.out w1 HB1.out).mono ?_
  rintro e w2 ⟨⟨ra, rfl, hoka⟩, hb2⟩
  have HB2 := Lib.hid (HB1.out.trans (below_le' hb2 HB1.out.size))
  have HOKA := Lib.hid hoka
  clear hb2 hoka PA
  cases ra
  · go_wp2_with fail
    go_ret
    exact ⟨rfl, HB2.out⟩
  have hga := HOKA.out rfl
  clear HOKA
  go_wp2_with fail
  refine (PB.out w2 HB2.out).mono ?_
  rintro e w3 ⟨⟨rb, rfl, hokb⟩, hb3⟩
  have HB3 := Lib.hid (HB2.out.trans (below_le' hb3 HB2.out.size))
  have HOKB := Lib.hid hokb
  clear hb3 hokb PB
  cases rb
  · go_wp2_with fail
    go_ret
    exact ⟨rfl, HB3.out⟩
  have hgb := HOKB.out rfl
  clear HOKB
  have hta : a.tot ≤ 500 := by omega
  have htb : b.tot ≤ 500 := by omega
  have HRA := Lib.hid hga.2
  have HRB := Lib.hid hgb.2
  have hala := NL.len_tot a
  have halb := NL.len_tot b
  have hpa := prog_len (by omega) hfa h6a HRA.out
  have hpb := prog_len (by omega) hfb h6b HRB.out
  rw [← bs_size] at hpa hpb
  obtain ⟨X, hX⟩ : ∃ X, X = bs (progT a) := ⟨_, rfl⟩
  obtain ⟨Y, hY⟩ : ∃ Y, Y = bs (progT b) := ⟨_, rfl⟩
  have QA := Lib.hid (fun W (hW : Below w.heap.size w W) => program_c a A ca ea W (HSH.out.below hW) hfa h6a hla hca ((HA.out W hW).wide (fun k hk => Nat.lt_of_lt_of_le hk hW.size)) HRA.out)
  have QB := Lib.hid (fun W (hW : Below w.heap.size w W) => program_c b B cb ea W (HSH.out.below hW) hfb h6b hlb hcb ((HBn.out W hW).wide (fun k hk => Nat.lt_of_lt_of_le hk hW.size)) HRB.out)
  rw [← hX] at QA hpa
  rw [← hY] at QB hpb
  have HX := Lib.hid hX
  have HY := Lib.hid hY
  clear hga hgb hX hY
  go_wp2_with fail
  refine (QA.out w3 HB3.out).mono ?_
  rintro e w4 ⟨rfl, hb4⟩
  have HB4 := Lib.hid (HB3.out.trans (below_le' hb4 HB3.out.size))
  clear hb4 QA
  go_wp2_with fail
  refine (QB.out w4 HB4.out).mono ?_
  rintro e w5 ⟨rfl, hb5⟩
  have HB5 := Lib.hid (HB4.out.trans (below_le' hb5 HB4.out.size))
  clear hb5 QB
  have hz5 := HB5.out.size
  obtain ⟨xa, hxa, hxac⟩ := nrow_of a A (HA.out w5 HB5.out)
  obtain ⟨xb, hxb, hxbc⟩ := nrow_of b B (HBn.out w5 HB5.out)
  have HXA := Lib.hid hxa
  have HXB := Lib.hid hxb
  have HNA := Lib.hid (show ∀ ad, A = some ad → ∀ W, Below w5.heap.size w5 W → ∀ (j : Nat) (u : Value), xa[j]? = some u → W.cell? (ad.add j) = some u from fun ad h W hW j u hu => by
    have hr := HA.out w5 HB5.out
    subst h
    obtain ⟨h1, k, h2, h3⟩ := news_of hr hxa hxac j u hu
    rw [hW.cell (p := ad.add j) (by omega)]; exact h1)
  have HNB := Lib.hid (show ∀ ad, B = some ad → ∀ W, Below w5.heap.size w5 W → ∀ (j : Nat) (u : Value), xb[j]? = some u → W.cell? (ad.add j) = some u from fun ad h W hW j u hu => by
    have hr := HBn.out w5 HB5.out
    subst h
    obtain ⟨h1, k, h2, h3⟩ := news_of hr hxb hxbc j u hu
    rw [hW.cell (p := ad.add j) (by omega)]; exact h1)
  have HN0 := Lib.hid (show (A = none → a = .nil ∧ xa = []) ∧ (B = none → b = .nil ∧ xb = []) from
    And.intro (fun h => (by
      have hr := HA.out w5 HB5.out
      rw [h] at hr
      cases a with
      | nil => exact ⟨rfl, hxa⟩
      | cons => obtain ⟨_, _, _, _, _, _, h, _⟩ := hr; cases h)) (fun h => (by
      have hr := HBn.out w5 HB5.out
      rw [h] at hr
      cases b with
      | nil => exact ⟨rfl, hxb⟩
      | cons => obtain ⟨_, _, _, _, _, _, h, _⟩ := hr; cases h)))
  have HOA := Lib.hid (nrow_one a xa hxa)
  have HOB := Lib.hid (nrow_one b xb hxb)
  have HAB := Lib.hid (show ∀ W v, Below w5.heap.size w5 W → W.ownsRow w5.heap.size 33 8 v (a.len + b.len) (xa ++ xb) → Calls Tryz.prog 6 #[v] W fun e w' => e = .returned (.tuple #[.string (X ++ Y), .nilIface]) ∧ Below w5.heap.size w5 w' from fun W v hW ho => by
    have hap : (a.app b).len = a.len + b.len := NL.len_app a b
    obtain ⟨C, cc, rfl, hcc, hrc⟩ := own_rpn (l := a.app b) (S := fun k => k < w5.heap.size) (by rw [hap]; exact ho) (nrow_app a b xa xb (nrow_keep (fun k hk => hW.block k (by omega)) (fun k hk => by omega) a xa hxa) (nrow_keep (fun k hk => hW.block k (by omega)) (fun k hk => by omega) b xb hxb)) (fun k hk => Nat.lt_of_lt_of_le hk hW.size)
    have hWw : Below w.heap.size w W := HB5.out.trans (below_le' hW hz5)
    refine (program_c (a.app b) C cc ea W (HSH.out.below hWw) (fit_app a b hfa hfb) (i64_app a b h6a h6b) (by omega) hcc hrc (rightN_app a b 7 HRA.out HRB.out (by omega))).mono (fun e w' ⟨h1, h2⟩ => ⟨?_, hW.trans (below_le' h2 hW.size)⟩)
    rw [h1, progT_app, bs_app, ← HX.out, ← HY.out])
  have hal := nrow_len a xa hxa
  have hbl := nrow_len b xb hxb
  have eL : IntKind.i64.wrap ((a.len : Int) + (b.len : Int)) = (a.len : Int) + (b.len : Int) := IntWalk.i64_in _ (by omega)
  have HLC := Lib.hid (show (a.len : Int) + (b.len : Int) = ((a.len + b.len : Nat) : Int) by omega)
  clear hxa hxb hxac hxbc
  -- the two rows, one behind the other
  go_upto_region 8 with fail
  go_cut [12, 13] (fun tv nv wx => tv = .string (X ++ Y) ∧ nv = .nilIface ∧ Hid (Below w.heap.size w wx))
  case first =>
    rcases A with _ | ada
    · obtain ⟨ha0, hxa0⟩ := HN0.out.1 rfl
      have hca0 := hA0 rfl
      subst ha0
      subst hxa0
      subst hca0
      rcases B with _ | adb
      · obtain ⟨hb0, hxb0⟩ := HN0.out.2 rfl
        have hcb0 := hB0 rfl
        subst hb0
        subst hxb0
        subst hcb0
        clear HN0
        go_wp2_with (first
          | (refine wpList_make_own w5 rfl (.const (.int .i64 0)) (.tmp 49) 22 rfl w5.heap.size 33 i0 _ 8 Tryz.underlying22 hi0 hz0 hz1 .i64 .i64 _ (NL.nil.len + NL.nil.len) rfl rfl ?mm10 ?mm11 ?mm12 ?mm13 ?mm14
             case mm10 => first | exact HLC.out | (show (_ : Int) = ((0 + 0 : Nat) : Int); omega) | rfl
             case mm11 => rw [hz2]; omega
             case mm12 => unfold maxLen; omega
             case mm13 => exact Nat.le_refl _
             intro w6 hown hgrow
             have HO6 := Lib.hid hown
             have HB6 := Lib.hid (grown_belowN (Below.refl w5.heap.size w5) (Nat.le_refl _) hgrow (fun q hq => by cases hq))
             clear hown hgrow)
          | (at_builtin; refine wpList_append_own_none rfl (.tmp 50) (.tmp 51) 22 rfl w5.heap.size 33 i0 8 Tryz.underlying22 hi0 _ _ _ rfl HO6.out rfl ?_)
          | (at_builtin; refine wpList_append_own_none rfl (.tmp 52) (.tmp 53) 22 rfl w5.heap.size 33 i0 8 Tryz.underlying22 hi0 _ _ _ rfl HO6.out rfl ?_))
        refine (HAB.out _ _ HB6.out (by exact HO6.out)).mono ?_
        rintro e w10 ⟨rfl, hb10⟩
        have HB10 := Lib.hid (HB5.out.trans (below_le' hb10 hz5))
        clear hb10
        go_wp2_with fail
        go_meet
        exact ⟨rfl, rfl, HB10.out⟩
      · clear HN0
        go_wp2_with (first
          | (refine wpList_make_own w5 rfl (.const (.int .i64 0)) (.tmp 49) 22 rfl w5.heap.size 33 i0 _ 8 Tryz.underlying22 hi0 hz0 hz1 .i64 .i64 _ (NL.nil.len + b.len) rfl rfl ?mm20 ?mm21 ?mm22 ?mm23 ?mm24
             case mm20 => first | exact HLC.out | (show (_ : Int) = ((0 + b.len : Nat) : Int); omega) | rfl
             case mm21 => rw [hz2]; omega
             case mm22 => unfold maxLen; omega
             case mm23 => exact Nat.le_refl _
             intro w6 hown hgrow
             have HO6 := Lib.hid hown
             have HB6 := Lib.hid (grown_belowN (Below.refl w5.heap.size w5) (Nat.le_refl _) hgrow (fun q hq => by cases hq))
             clear hown hgrow)
          | (at_builtin; refine wpList_append_own_none rfl (.tmp 50) (.tmp 51) 22 rfl w5.heap.size 33 i0 8 Tryz.underlying22 hi0 _ _ _ rfl HO6.out rfl ?_)
          | (at_builtin; refine wpList_append_own_at _ rfl (.tmp 52) (.tmp 53) 22 rfl w5.heap.size 33 i0 _ 8 112 Tryz.underlying22 hi0 hz0 hz1 hz2 rfl (by decide) _ _ _ rfl HO6.out adb b.len cb xb rfl hbl (HNB.out _ rfl _ HB6.out) HOB.out ?cc221 ?cc222 ?cc223 ?_
             case cc221 => unfold maxLen; omega
             case cc222 => omega
             case cc223 => exact HB6.out.size
             intro v7 w7 hown hgrow _ _
             have HO7 := Lib.hid hown
             have HB7 := Lib.hid (grown_belowN HB6.out HB6.out.size hgrow (fun q hq => (HO6.out.lt q hq).1))
             clear hown hgrow))
        refine (HAB.out _ _ HB7.out (by have h := HO7.out; rw [List.nil_append] at h; exact h)).mono ?_
        rintro e w10 ⟨rfl, hb10⟩
        have HB10 := Lib.hid (HB5.out.trans (below_le' hb10 hz5))
        clear hb10
        go_wp2_with fail
        go_meet
        exact ⟨rfl, rfl, HB10.out⟩
    · rcases B with _ | adb
      · obtain ⟨hb0, hxb0⟩ := HN0.out.2 rfl
        have hcb0 := hB0 rfl
        subst hb0
        subst hxb0
        subst hcb0
        clear HN0
        go_wp2_with (first
          | (refine wpList_make_own w5 rfl (.const (.int .i64 0)) (.tmp 49) 22 rfl w5.heap.size 33 i0 _ 8 Tryz.underlying22 hi0 hz0 hz1 .i64 .i64 _ (a.len + NL.nil.len) rfl rfl ?mm30 ?mm31 ?mm32 ?mm33 ?mm34
             case mm30 => first | exact HLC.out | (show (_ : Int) = ((a.len + 0 : Nat) : Int); omega) | rfl
             case mm31 => rw [hz2]; omega
             case mm32 => unfold maxLen; omega
             case mm33 => exact Nat.le_refl _
             intro w6 hown hgrow
             have HO6 := Lib.hid hown
             have HB6 := Lib.hid (grown_belowN (Below.refl w5.heap.size w5) (Nat.le_refl _) hgrow (fun q hq => by cases hq))
             clear hown hgrow)
          | (at_builtin; refine wpList_append_own_at _ rfl (.tmp 50) (.tmp 51) 22 rfl w5.heap.size 33 i0 _ 8 112 Tryz.underlying22 hi0 hz0 hz1 hz2 rfl (by decide) _ _ _ rfl HO6.out ada a.len ca xa rfl hal (HNA.out _ rfl _ HB6.out) HOA.out ?cc311 ?cc312 ?cc313 ?_
             case cc311 => unfold maxLen; omega
             case cc312 => omega
             case cc313 => exact HB6.out.size
             intro v7 w7 hown hgrow _ _
             have HO7 := Lib.hid hown
             have HB7 := Lib.hid (grown_belowN HB6.out HB6.out.size hgrow (fun q hq => (HO6.out.lt q hq).1))
             clear hown hgrow)
          | (at_builtin; refine wpList_append_own_none rfl (.tmp 52) (.tmp 53) 22 rfl w5.heap.size 33 i0 8 Tryz.underlying22 hi0 _ _ _ rfl HO7.out rfl ?_))
        refine (HAB.out _ _ HB7.out (by have h := HO7.out; rw [Nat.zero_add, List.nil_append] at h; rw [List.append_nil]; exact h)).mono ?_
        rintro e w10 ⟨rfl, hb10⟩
        have HB10 := Lib.hid (HB5.out.trans (below_le' hb10 hz5))
        clear hb10
        go_wp2_with fail
        go_meet
        exact ⟨rfl, rfl, HB10.out⟩
      · clear HN0
        go_wp2_with (first
          | (refine wpList_make_own w5 rfl (.const (.int .i64 0)) (.tmp 49) 22 rfl w5.heap.size 33 i0 _ 8 Tryz.underlying22 hi0 hz0 hz1 .i64 .i64 _ (a.len + b.len) rfl rfl ?mm40 ?mm41 ?mm42 ?mm43 ?mm44
             case mm40 => exact HLC.out
             case mm41 => rw [hz2]; omega
             case mm42 => unfold maxLen; omega
             case mm43 => exact Nat.le_refl _
             intro w6 hown hgrow
             have HO6 := Lib.hid hown
             have HB6 := Lib.hid (grown_belowN (Below.refl w5.heap.size w5) (Nat.le_refl _) hgrow (fun q hq => by cases hq))
             clear hown hgrow)
          | (at_builtin; refine wpList_append_own_at _ rfl (.tmp 50) (.tmp 51) 22 rfl w5.heap.size 33 i0 _ 8 112 Tryz.underlying22 hi0 hz0 hz1 hz2 rfl (by decide) _ _ _ rfl HO6.out ada a.len ca xa rfl hal (HNA.out _ rfl _ HB6.out) HOA.out ?cc411 ?cc412 ?cc413 ?_
             case cc411 => unfold maxLen; omega
             case cc412 => omega
             case cc413 => exact HB6.out.size
             intro v7 w7 hown hgrow _ _
             have HO7 := Lib.hid hown
             have HB7 := Lib.hid (grown_belowN HB6.out HB6.out.size hgrow (fun q hq => (HO6.out.lt q hq).1))
             clear hown hgrow)
          | (at_builtin; refine wpList_append_own_at _ rfl (.tmp 52) (.tmp 53) 22 rfl w5.heap.size 33 i0 _ 8 112 Tryz.underlying22 hi0 hz0 hz1 hz2 rfl (by decide) _ _ _ rfl HO7.out adb b.len cb xb rfl hbl (HNB.out _ rfl _ HB7.out) HOB.out ?cc421 ?cc422 ?cc423 ?_
             case cc421 => unfold maxLen; omega
             case cc422 => omega
             case cc423 => exact HB7.out.size
             intro v8 w8 hown hgrow _ _
             have HO8 := Lib.hid hown
             have HB8 := Lib.hid (grown_belowN HB7.out HB7.out.size hgrow (fun q hq => (HO7.out.lt q hq).1))
             clear hown hgrow))
        refine (HAB.out _ _ HB8.out (by have h := HO8.out; rw [Nat.zero_add, List.nil_append] at h; exact h)).mono ?_
        rintro e w10 ⟨rfl, hb10⟩
        have HB10 := Lib.hid (HB5.out.trans (below_le' hb10 hz5))
        clear hb10
        go_wp2_with fail
        go_meet
        exact ⟨rfl, rfl, HB10.out⟩
  case rest =>
    obtain ⟨rfl, rfl, hb8⟩ := hcut
    obtain ⟨w8, rfl⟩ : ∃ w8, w8 = wc := ⟨_, rfl⟩
    have HB8 := Lib.hid hb8.out
    have hz8 := hb8.out.size
    clear hb8 HAB HN0 HNB HXB HOB eL HLC HNA
    have hxy : ¬ (9223372036854775807 < X.size + Y.size) := by omega
    have HXA8 := Lib.hid (show NRow w8 (fun k => k < w.heap.size) a xa from nrow_keep (fun k hk => by rw [HB8.out.block k hk, HB5.out.block k hk]) (fun k hk => hk) a xa HXA.out)
    obtain ⟨xa8, hxa8, hxc8⟩ := nrow_of a A (HA.out w8 HB8.out)
    have HX8 := Lib.hid hxa8
    have hal8 := nrow_len a xa8 hxa8
    have HO8a := Lib.hid (nrow_one a xa8 hxa8)
    have HNA8 := Lib.hid (show ∀ ad, A = some ad → ∀ W, Below w8.heap.size w8 W → ∀ (j : Nat) (u : Value), xa8[j]? = some u → W.cell? (ad.add j) = some u from fun ad h W hW j u hu => by
      have hr := HA.out w8 HB8.out
      subst h
      obtain ⟨h1, k, h2, h3⟩ := news_of hr hxa8 hxc8 j u hu
      rw [hW.cell (p := ad.add j) (by omega)]; exact h1)
    have HN8 := Lib.hid (show A = none → a = .nil ∧ xa8 = [] from fun h => (by
      have hr := HA.out w8 HB8.out
      rw [h] at hr
      cases a with
      | nil => exact ⟨rfl, hxa8⟩
      | cons => obtain ⟨_, _, _, _, _, _, h, _⟩ := hr; cases h))
    have OW := Lib.hid (World.ownsRow_lit (base := w8.heap.size) (e := 33) (size := 8) w8 #[] 0 (Nat.le_refl _) (by decide) rfl)
    have OWB := Lib.hid (show Below w8.heap.size w8 (w8.alloc (.cells #[] 33)) from (Below.refl _ _).alloc (Nat.le_refl _) _)
    clear hxa8 hxc8 HXA8 HXA HOA hal
    go_upto_region 11 with fail
    go_cut [14] (fun v wx => Hid (wx.ownsRow w8.heap.size 33 8 v a.len xa8) ∧ Hid (Below w8.heap.size w8 wx))
    case first =>
      rcases A with _ | ada
      · obtain ⟨ha0, hx0⟩ := HN8.out rfl
        have hca0 := hA0 rfl
        subst ha0
        subst hx0
        subst hca0
        go_wp2_with (at_builtin; refine wpList_append_own_none rfl (.tmp 75) (.tmp 76) 22 rfl w8.heap.size 33 i0 8 Tryz.underlying22 hi0 _ _ _ rfl OW.out rfl ?_)
        go_meet
        exact ⟨OW.out, OWB.out⟩
      · go_wp2_with (at_builtin; refine wpList_append_own_at _ rfl (.tmp 75) (.tmp 76) 22 rfl w8.heap.size 33 i0 _ 8 112 Tryz.underlying22 hi0 hz0 hz1 hz2 rfl (by decide) _ _ _ rfl OW.out ada a.len ca xa8 rfl hal8 (HNA8.out _ rfl _ OWB.out) HO8a.out ?p1 ?p2 ?p3 ?_
                     case p1 => unfold maxLen; omega
                     case p2 => omega
                     case p3 => exact OWB.out.size
                     intro v9 w9 hown hgrow _ _
                     have HO9 := Lib.hid (show w9.ownsRow w8.heap.size 33 8 v9 a.len xa8 by have h := hown; rw [Nat.zero_add, List.nil_append] at h; exact h)
                     have HB9 := Lib.hid (grown_belowN OWB.out OWB.out.size hgrow (fun q hq => (OW.out.lt q hq).1))
                     clear hown hgrow)
        go_meet
        exact ⟨HO9.out, HB9.out⟩
    case rest =>
      obtain ⟨hown, hb9⟩ := hcut
      obtain ⟨w9, rfl⟩ : ∃ w9, w9 = wc := ⟨_, rfl⟩
      have HO9 := Lib.hid hown.out
      have HB9 := Lib.hid hb9.out
      have hz9 := hb9.out.size
      clear hown hb9 OW OWB HNA8 HN8
      obtain ⟨CA, cc, hcv⟩ := own_form HO9.out
      obtain ⟨f, hf⟩ : ∃ f : Int → Int, f = fun ln => RowKit.wrap64 (ln + by_) := ⟨_, rfl⟩
      have HF := Lib.hid hf
      clear hf
      subst hcv
      go_wp2_with fail
      go_loopg [15] a.len (fun kk v wr => ∃ (i : Nat) (xs : List Value), v = .int .i64 (i : Int) ∧ i + kk = a.len ∧ Hid (wr.ownsRow w8.heap.size 33 8 (.slice CA a.len cc) a.len xs) ∧ Hid (NRow w8 (fun k => k < w.heap.size) (((a.take i).lines f).app (a.drop i)) xs) ∧ Hid (Below w8.heap.size w8 wr))
      case atStart => exact ⟨0, xa8, rfl, by omega, HO9.out, by
        show NRow w8 (fun k => k < w.heap.size) (((a.take 0).lines f).app (a.drop 0)) xa8
        rw [NL.take, NL.drop]; exact HX8.out, HB9.out⟩
      case round =>
        obtain ⟨i, xs, rfl, hik, hor, hnr, hbr⟩ := hrel
        by_cases hi : i < a.len
        · obtain ⟨g, rfl⟩ : ∃ g, gk = g + 1 := ⟨gk - 1, by omega⟩
          obtain ⟨gb, cap, hform, hgb, hgl⟩ := hor.out.form (by omega)
          simp only [Value.slice.injEq, true_and] at hform
          obtain ⟨hf1, hf2⟩ := hform
          subst hf1
          subst hf2
          obtain ⟨op, ln, s, k, n, t, v, sub, hd⟩ := NL.drop_of_lt i a hi
          have hnr' := hnr.out
          rw [hd] at hnr'
          obtain ⟨e1, e2⟩ := nrow_line (f ln) ((a.take i).lines f) xs hnr'
          rw [lines_len, take_length i a (by omega)] at e1 e2
          rw [← lines_take f hd] at e2
          have hcell : wr.cell? ⟨gb, i * 8 + 1, none⟩ = some (.int .i64 ln) := by
            have h := hor.out.cells (g := gb) rfl (i * 8 + 1) _ e1
            rw [addr_add8, Nat.zero_add] at h; exact h
          have hfr := hor.out.frozenAt (i * 8 + 1)
          have hfl : f ln = RowKit.wrap64 (ln + by_) := by rw [HF.out]
          have HO2 := Lib.hid ((hor.out.stored (i * 8 + 1) (.int .i64 (f ln))).1)
          have HB2' := Lib.hid (hbr.out.setCell (p := ⟨gb, i * 8 + 1, none⟩) hgb (.int .i64 (f ln)))
          have HNX := Lib.hid e2
          rw [hfl] at HO2 HB2' HNX
          have ij : (i : Int) < (a.len : Int) := by omega
          clear hor hnr hbr hnr' e1 e2 hd hfl
          go_wp2_with fail
          go_roundg g
          case measure => omega
          case rel => exact ⟨i + 1, _, by go_num, by omega, HO2.out, HNX.out, HB2'.out⟩
        · obtain rfl : i = a.len := by omega
          have hnr' := hnr.out
          rw [NL.take_len, NL.drop_len, NL.app_nil] at hnr'
          obtain ⟨C2, c2, hv2, hc2, hr2⟩ := own_rpn (l := a.lines f) (S := fun k => k < w.heap.size) (by rw [lines_len]; exact hor.out) (nrow_keep (fun k hk => hbr.out.block k (by omega)) (fun k hk => hk) _ xs hnr') (fun k hk => by have := hbr.out.size; omega)
          rw [lines_len] at hv2 hc2
          simp only [Value.slice.injEq, true_and] at hv2
          obtain ⟨hv3, hv4⟩ := hv2
          subst hv3
          subst hv4
          have hzr := hbr.out.size
          have HBR := Lib.hid (HB8.out.trans (below_le' hbr.out (by omega)))
          have PC := Lib.hid (program_c (a.lines f) CA cc ea wr (HSH.out.below HBR.out) (lines_fit f a hfa) (lines_i64 f a h6a) (by rw [lines_len]; exact hla) (by rw [lines_len]; exact hc2) hr2 (rightN_lines f a 7 HRA.out))
          rw [lines_len, progT_lines, ← HX.out] at PC
          have HLN := Lib.hid (ends_prog a)
          clear hor hnr hbr hnr' hr2 hc2
          go_wp2_with fail
          refine PC.out.mono ?_
          rintro e w10 ⟨rfl, hb10⟩
          have HB10 := Lib.hid (HBR.out.trans (below_le' hb10 HBR.out.size))
          clear hb10 PC
          have hlast := last_nl HLN.out
          rw [← HX.out] at hlast
          have es := empty_size X
          by_cases h0 : X.size = 0
          · obtain ⟨e1_, e2_⟩ : X.toList.isEmpty = true ∧ X.toList = [] := by rcases es with h | h; exact ⟨h.1, h.2.1⟩; exact absurd h0 h.2.2
            clear hlast es
            go_wp2_with fail
            go_ret
            exact ⟨rfl, HB10.out⟩
          · obtain ⟨e1_, e2_⟩ : X.toList.isEmpty = false ∧ ¬X.toList = [] := by rcases es with h | h; exact absurd h.2.2 h0; exact ⟨h.1, h.2.1⟩
            obtain ⟨hx1, hx2⟩ := hlast.resolve_left h0
            have g1 : IntKind.i64.wrap ((X.size : Int) - 1) = (X.size : Int) - 1 := IntWalk.i64_in _ (by omega)
            have g2 : (0 : Int) ≤ (X.size : Int) - 1 := by omega
            have g3 : ((X.size : Int) - 1).toNat = X.size - 1 := by omega
            have g4 : (X.size : Int) - 1 < (X.size : Int) := by omega
            clear es
            go_wp2_with fail
            go_ret
            exact ⟨rfl, HB10.out⟩

/-- The law, as the frame asks for it. -/
theorem showLines_f (a : NL) (A : Option Addr) (ca : Nat) (b : NL) (B : Option Addr) (cb : Nat) (by_ : Int) (ea : Nat → Addr) (w : World) (hfa : a.fit) (h6a : a.i64) (hla : a.len ≤ 140737488351232) (hca : a.len ≤ ca) (hA0 : A = none → ca = 0) (hra : RpN w (fun k => k < w.heap.size) a A)
    (hfb : b.fit) (h6b : b.i64) (hlb : b.len ≤ 140737488351232) (hcb : b.len ≤ cb) (hB0 : B = none → cb = 0) (hrb : RpN w (fun k => k < w.heap.size) b B) (h1 : -9223372036854775808 ≤ by_) (h2 : by_ ≤ 9223372036854775807) (he : ErrsAt w ea) (htx : TxAt w) :
    Calls Tryz.prog 3 #[.slice A a.len ca, .slice B b.len cb, .int .i64 by_] w fun e w' => e = .returned (.bool true) ∧ Below w.heap.size w w' :=
  showLines_c a b A B ca cb by_ ea w ⟨he, htx⟩ hfa hfb h6a h6b hla hlb hca hcb hA0 hB0 hra hrb
end Go.Proofs.YtgmnbdfbbcpciaaGreatDoor
namespace Go.Proofs.YtgmnbdfbbcpciaaGreatDoor
open Go.RowKit Go.Lib
set_option linter.unusedVariables false

theorem star_err : "*" ++ "errors.errorString" = "*errors.errorString" := by decide
theorem row_err (u : TypeId) (h : Tryz.prog.typeName? 3 u = some "*errors.errorString") : u = 148 :=
  typeName_ptr_named (nm := "errors.errorString") (by rw [star_err]; kernel_rfl) (by kernel_rfl) (by decide) u (by rw [star_err]; exact h)
/-- A sentinel that heads the list: its variable's cell. -/
theorem sent_at {n : String} {text : List UInt8} {r : List (String × DataW Unit)} {W : World} (g : Nat) (h : laidMet Tryz.prog ((n, .iface "*errors.errorString" (.ptr (.agg [.lit (.string text)]))) :: r) W)
    (hg : Tryz.prog.globalNamed n = some g) (ht : (Tryz.prog.globals[g]?).map (·.type) = some 26) : ∃ a : Addr, W.cell? ⟨g, 0, none⟩ = some (.iface 148 (.pointer (some a))) := by
  obtain ⟨a, s, hv, _⟩ := laid_sentinel h hg ht Tryz.underlying26 row_err Tryz.underlying148 Tryz.underlying162 rfl rfl Tryz.underlying9 (by kernel_rfl) (by kernel_rfl)
  exact ⟨a, by simpa using World.var?_cell hg hv 0⟩
end Go.Proofs.YtgmnbdfbbcpciaaGreatDoor
namespace Go.Proofs.YtgmnbdfbbcpciaaGreatDoor
open Go.ChangeShapes Go.WideShapes Go.ChangeAt Go.RowKit Go.Lib
open Go.ChangeMaps (open_string shut_string)
set_option linter.unusedVariables false

theorem own_knob : ownKnob Tryz.prog.godebug = none := by kernel_rfl

/-- The kit's wrap with a condition, the world's shape kept. -/
theorem handed_and_shaped {H : Type} {enc : TypeId × Value → H} {a : Assume} {C : Checked} {os : Os} {f : FuncId} {fn : Func} {s : ChangeSpec} {conds : List PathCond} {apart fresh handsOn again : Bool} {X : World → Array Value → Prop}
    (hX : ∀ (w w' : World) (args : Array Value), w.heap = w'.heap → X w args → X w' args)
    (own : ownKnob C.prog.godebug = none) (started : os.Started) (noInit : C.prog.inits.idxOf? f = none) (hfn : C.prog.funcs[f]? = some fn)
    (witness : ∃ (w : World) (tape : Tape) (i : Input), w.os = os ∧ (w.forCall tape i).Shaped C.prog ∧ i.vars = [] ∧ Input.okWide C.prog (w.forCall tape i) .any w.heap.size f i ∧
      ((s.pre enc C.prog fn conds apart (w.forCall tape i).memory i.args ∧ X (w.forCall tape i).memory i.args) ∧ sizedMet enc C.prog fn (OpenSpec.ofChange s) apart (w.forCall tape i).memory i.args) ∧ a.holds C.prog (lone (Frame.enter C.prog f i.args .normal) [] (w.forCall tape i)))
    (contract : ∀ (W : World) (base : Nat) (args : Array Value) (ds gs : List (DataW H)) (before : List MemPlace),
      (∀ (j : Nat) t v, fn.params[j]? = some t → args[j]? = some v → Value.okWide C.prog W .any base t v) →
      DataW.Whole enc C.prog fn.params.toList s.vars apart W args.toList ds gs before →
      (DataW.weightsEach C.prog (fn.params.toList ++ s.plain.varTypes C.prog) (ds ++ gs)).all (· ≤ reachBytes) = true → X W args → W.ShapedOpen C.prog →
      Calls C.prog f args W fun e W' => ∃ v, e = .returned v ∧ s.post enc C.prog fn apart fresh handsOn again W args v W') :
    ReturnsInHanded a C os f .any (fun w args => (s.pre enc C.prog fn conds apart w args ∧ X w args) ∧ sizedMet enc C.prog fn (OpenSpec.ofChange s) apart w args) (s.post enc C.prog fn apart fresh handsOn again) := by
  refine returnsInHanded_of_calls own started noInit witness ?_
  intro w tape i _ hsh _ hok hpre hholds
  obtain ⟨_, _, _, fn', hfn', _, _, _, _, hval⟩ := hok
  have e : fn' = fn := Option.some.inj (hfn'.symm.trans hfn)
  subst e
  obtain ⟨⟨⟨ds, gs, before, hw, hc⟩, hx⟩, hz⟩ := hpre
  have hw' := DataW.Whole.of_heap (w' := w.forCall tape i) (by rfl) hw
  refine (contract (w.forCall tape i) w.heap.size i.args ds gs before hval hw' (hz.weights hw) (hX _ _ _ (by rfl) hx) hsh).mono fun e W' ⟨v, he, hp⟩ => ?_
  subst he
  exact ChangeSpec.post_blind hp

theorem i64_range {a : Int} (h : (Lit.int .i64 a).wf = true) : -9223372036854775808 ≤ a ∧ a ≤ 9223372036854775807 := by
  have e1 : IntKind.i64.min = -9223372036854775808 := by decide
  have e2 : IntKind.i64.max = 9223372036854775807 := by decide
  simp [Lit.wf] at h
  omega
/-- The errors' addresses out of five of them. -/
def eaOf (a b c d e : Addr) (k : Nat) : Addr := if k = 111 then a else if k = 112 then b else if k = 104 then c else if k = 105 then d else e
theorem room_of {W : World} (h : W.ShapedOpen Tryz.prog) : 10 < W.heap.size := by
  have hsome : (((begin Tryz.prog (fun _ _ => 0) default).world.heap[10]?).bind Obj.row?).isSome = true := by kernel_rfl
  obtain ⟨⟨z, t⟩, hz⟩ := Option.isSome_iff_exists.1 hsome
  have hn : Tryz.prog.globals.size = 11 := by kernel_rfl
  obtain ⟨cs, hc, _⟩ := h.1 10 z t (by rw [hn]; decide) hz
  rcases Nat.lt_or_ge 10 W.heap.size with hlt | hge
  · exact hlt
  · rw [Array.getElem?_eq_none hge] at hc; cases hc

end Go.Proofs.YtgmnbdfbbcpciaaGreatDoor
namespace Go.Proofs.YtgmnbdfbbcpciaaGreatDoor
open Go.ChangeShapes Go.WideShapes Go.ChangeAt Go.RowKit Go.Lib
set_option linter.unusedVariables false

theorem reach_eq : reachBytes = 140737488351232 := by unfold reachBytes; decide
theorem list4 {α : Type} {l : List α} (h : l.length = 4) : ∃ a b c d, l = [a, b, c, d] := by
  match l, h with
  | [a, b, c, d], _ => exact ⟨a, b, c, d, rfl⟩
theorem cells_value : Tryz.prog.cellsOf 31 = 4 := by kernel_rfl
theorem cells_int : Tryz.prog.cellsOf 3 = 1 := by kernel_rfl
theorem cells_int64 : Tryz.prog.cellsOf 2 = 1 := by kernel_rfl
theorem cells_string : Tryz.prog.cellsOf 9 = 1 := by kernel_rfl
theorem cells_values : Tryz.prog.cellsOf 29 = 1 := by kernel_rfl
theorem bytes_value : Tryz.prog.bytesOf 31 = 56 := by kernel_rfl

section
variable {H : Type} {enc : TypeId × Value → H} {W : World} {sp : Nat → Bool} {held : Bool}

theorem trod_val {n : Nat} {cs : List Value} {x : DataW H × List MemPlace} (h : DataW.trod enc Tryz.prog W 0 sp held n 31 cs = some x) :
    ∃ (m : Nat) (k i : Int) (s : ByteArray) (sl : Value) (y : DataW H × List MemPlace), n = m + 1 ∧ cs = [.int .i64 k, .int .i64 i, .string s, sl] ∧ x.1 = .agg [.lit (.int .i64 k), .lit (.int .i64 i), .lit (.string s.data.toList), y.1] ∧
      (-9223372036854775808 ≤ i ∧ i ≤ 9223372036854775807) ∧ DataW.trod enc Tryz.prog W 0 sp held m 29 [sl] = some y := by
  obtain ⟨xs, m, rfl, rfl, hl, hlen, hf⟩ := DataW.trod_struct Tryz.underlying31 h
  rw [cells_value] at hl
  obtain ⟨c0, c1, c2, c3, rfl⟩ := list4 hl
  obtain ⟨y0, y1, y2, y3, rfl⟩ := list4 hlen
  have h0 : DataW.trod enc Tryz.prog W 0 sp held m 3 [c0] = some y0 := by simpa [cells_int] using hf 0 _ rfl
  have h1 : DataW.trod enc Tryz.prog W 0 sp held m 2 [c1] = some y1 := by simpa [cells_int64] using hf 1 _ rfl
  have h2 : DataW.trod enc Tryz.prog W 0 sp held m 9 [c2] = some y2 := by simpa [cells_string] using hf 2 _ rfl
  have h3 : DataW.trod enc Tryz.prog W 0 sp held m 29 [c3] = some y3 := by simpa [cells_values] using hf 3 _ rfl
  obtain ⟨k, e0, rfl, w0⟩ := DataW.trod_int Tryz.underlying3 h0
  obtain ⟨i, e1, rfl, w1⟩ := DataW.trod_int Tryz.underlying2 h1
  obtain ⟨s, e2, rfl, w2⟩ := DataW.trod_string Tryz.underlying9 h2
  injection e0 with e0 _
  injection e1 with e1 _
  injection e2 with e2 _
  subst e0; subst e1; subst e2
  exact ⟨m, k, i, s, c3, y3, rfl, rfl, rfl, i64_range w1, h3⟩

theorem weights_value (k i : Int) (l : List UInt8) (d : DataW H) : DataW.weights Tryz.prog 31 (.agg [.lit (.int .i64 k), .lit (.int .i64 i), .lit (.string l), d]) = l.length :: DataW.weights Tryz.prog 29 d := by
  conv => lhs; unfold DataW.weights
  rw [Tryz.underlying31]
  simp [DataW.weightsEach, DataW.weights]
theorem weights_values (es r : List (DataW H)) : DataW.weights Tryz.prog 29 (.slice es r) = (es.length + r.length) * 56 :: (DataW.weightsAll Tryz.prog 31 es ++ DataW.weightsAll Tryz.prog 31 r) := by
  conv => lhs; unfold DataW.weights
  rw [Tryz.underlying29]
  simp only [bytes_value]
theorem weightsAll_cons (d : DataW H) (r : List (DataW H)) (t : TypeId) : DataW.weightsAll Tryz.prog t (d :: r) = DataW.weights Tryz.prog t d ++ DataW.weightsAll Tryz.prog t r := by rw [DataW.weightsAll]

/-- What comes of a value's reading. -/
def OpenV (W : World) (cs : List Value) : Prop := ∃ (k i : Int) (s : ByteArray) (sub : VL) (sa : Option Addr) (sc : Nat), cs = [.int .i64 k, .int .i64 i, .string s, .slice sa sub.len sc] ∧ (val1 k i s sub).fit ∧ (val1 k i s sub).i64 ∧ sub.len ≤ sc ∧ RpL W (fun b => b < W.heap.size) sub sa
/-- What comes of a list's reading. -/
def OpenL (W : World) (v : Value) : Prop := ∃ (sub : VL) (sa : Option Addr) (sc : Nat), v = .slice sa sub.len sc ∧ sub.fit ∧ sub.i64 ∧ sub.len ≤ 140737488351232 ∧ sub.len ≤ sc ∧ RpL W (fun b => b < W.heap.size) sub sa

theorem open_items {W : World} {m : Nat} (ih : ∀ (cs : List Value) (x : DataW H × List MemPlace), DataW.trod enc Tryz.prog W 0 sp held m 31 cs = some x → (DataW.weights Tryz.prog 31 x.1).all (· ≤ reachBytes) = true → OpenV W cs) (b o : Nat) :
    ∀ (es : List (DataW H × List MemPlace)) (j : Nat), (∀ i, i < es.length → (W.cells? 0 ((⟨b, o, none⟩ : Addr).add ((j + i) * 4)) 4).bind (DataW.trod enc Tryz.prog W 0 sp held m 31) = es[i]?) → (DataW.weightsAll Tryz.prog 31 (es.map (·.1))).all (· ≤ reachBytes) = true →
      ∃ sub : VL, sub.len = es.length ∧ sub.fit ∧ sub.i64 ∧ RpL W (fun b => b < W.heap.size) sub (some ⟨b, o + 4 * j, none⟩)
  | [], j, _, _ => ⟨.nil, rfl, trivial, trivial, trivial⟩
  | e :: r, j, hel, hw => by
    have h0 := hel 0 (by simp)
    rw [Nat.add_zero, List.getElem?_cons_zero, Option.bind_eq_some_iff] at h0
    obtain ⟨cs, hcs, ht⟩ := h0
    rw [List.map_cons, weightsAll_cons, List.all_append, Bool.and_eq_true] at hw
    obtain ⟨k, i, s, sub, sa, sc, rfl, hfit, h64, hsc, hrep⟩ := ih cs e ht hw.1
    obtain ⟨rest, hrl, hrf, hr6, hrr⟩ := open_items ih b o r (j + 1) (fun i hi => by
      have := hel (i + 1) (by simp; omega)
      rw [List.getElem?_cons_succ, show j + (i + 1) = j + 1 + i by omega] at this
      exact this) hw.2
    obtain ⟨_, _, hcell⟩ := World.cells?_some hcs
    have ha : ∀ q, q < 4 → W.cell? ⟨b, o + 4 * j + q, none⟩ = ([.int .i64 k, .int .i64 i, .string s, .slice sa sub.len sc] : List Value)[q]? := fun q hq => by
      have := hcell q hq
      rw [show (((⟨b, o, none⟩ : Addr).add (j * 4)).add q) = ⟨b, o + 4 * j + q, none⟩ by
        rw [Lib.add_plain, Lib.add_plain, Nat.mul_comm]] at this
      exact this
    have hb : b < W.heap.size := by
      have h0 := ha 0 (by omega)
      unfold World.cell? at h0
      rcases Nat.lt_or_ge b W.heap.size with hlt | hge
      · exact hlt
      · simp only [Array.getElem?_eq_none hge] at h0; cases h0
    refine ⟨.cons k i s sub rest, by rw [VL.len, hrl, List.length_cons], ⟨hfit.1, hfit.2.1, hfit.2.2.1, hrf⟩, ⟨h64.1, h64.2.1, h64.2.2.1, hr6⟩, b, o + 4 * j, sa, sc, rfl, hb, ha 0 (by omega), ha 1 (by omega), ha 2 (by omega), ha 3 (by omega), hsc, hrep, ?_⟩
    rw [show o + 4 * j + 4 = o + 4 * (j + 1) by omega]
    exact hrr

set_option maxRecDepth 100000 in
theorem open_list {W : World} {m : Nat} (ih : ∀ m', m' < m → ∀ (cs : List Value) (x : DataW H × List MemPlace), DataW.trod enc Tryz.prog W 0 sp held m' 31 cs = some x → (DataW.weights Tryz.prog 31 x.1).all (· ≤ reachBytes) = true → OpenV W cs) {v : Value} {y : DataW H × List MemPlace}
    (h : DataW.trod enc Tryz.prog W 0 sp held m 29 [v] = some y) (hw : (DataW.weights Tryz.prog 29 y.1).all (· ≤ reachBytes) = true) : OpenL W v := by
  rcases DataW.trod_slice Tryz.underlying29 h with ⟨hcs, rfl⟩ | ⟨a, len, cap, elems, rest, n, rfl, hcs, rfl, _, hlc, _, hlen, hel, _, _⟩
  · injection hcs with hcs _
    exact ⟨.nil, none, 0, hcs, trivial, trivial, by decide, Nat.le_refl _, trivial⟩
  · injection hcs with hcs _
    subst hcs
    simp only [weights_values, List.all_cons, List.all_append, Bool.and_eq_true, decide_eq_true_eq, List.length_map] at hw
    obtain ⟨hw1, hw2, _⟩ := hw
    have hrb := reach_eq
    rw [hrb] at hw1
    by_cases h0 : len = 0
    · subst h0
      exact ⟨.nil, some a, cap, rfl, trivial, trivial, by decide, Nat.zero_le _, trivial⟩
    obtain ⟨b, o, spot⟩ := a
    have hspot : spot = none := by
      have e0 := hel 0 (by omega)
      have : ∃ y0, elems[0]? = some y0 := ⟨elems[0], List.getElem?_eq_getElem (by omega)⟩
      obtain ⟨y0, hy0⟩ := this
      rw [hy0, Option.bind_eq_some_iff] at e0
      obtain ⟨cs, hcs, _⟩ := e0
      rw [cells_value] at hcs
      obtain ⟨_, hl4, hcell⟩ := World.cells?_some hcs
      have g0 := hcell 0 (by omega)
      rw [List.getElem?_eq_getElem (by omega)] at g0
      simpa [Addr.add] using World.cell?_spot g0
    subst hspot
    obtain ⟨sub, hsl, hsf, hs6, hrep⟩ := open_items (ih n (by omega)) b o elems 0 (fun i hi => by
      have := hel i (by omega)
      rw [cells_value] at this
      rw [Nat.zero_add]; exact this) hw2
    rw [hlen] at hsl
    refine ⟨sub, some ⟨b, o, none⟩, cap, by rw [hsl], hsf, hs6, by omega, by omega, ?_⟩
    rw [show o = o + 4 * 0 by omega]; exact hrep

theorem open_val {W : World} : ∀ (n : Nat) (cs : List Value) (x : DataW H × List MemPlace), DataW.trod enc Tryz.prog W 0 sp held n 31 cs = some x → (DataW.weights Tryz.prog 31 x.1).all (· ≤ reachBytes) = true → OpenV W cs := by
  intro n
  induction n using Nat.strongRecOn with
  | _ n ih =>
    intro cs x h hw
    obtain ⟨m, k, i, s, sl, y, rfl, rfl, hx, hi, hy⟩ := trod_val h
    rw [hx, weights_value, List.all_cons, Bool.and_eq_true, decide_eq_true_eq] at hw
    have hrb := reach_eq
    rw [hrb] at hw
    have hs : s.data.toList.length = s.size := by rw [Array.length_toList]; rfl
    obtain ⟨sub, sa, sc, rfl, hsf, hs6, hsl, hsc, hrep⟩ := open_list (m := m) (fun m' hm' => ih m' (by omega)) hy (by rw [hrb]; exact hw.2)
    exact ⟨k, i, s, sub, sa, sc, rfl, ⟨by omega, hsl, hsf, trivial⟩, ⟨hi.1, hi.2, hs6, trivial⟩, hsc, hrep⟩
end

section
variable {H : Type} {enc : TypeId × Value → H} {W : World} {sp : Nat → Bool} {held : Bool}
set_option maxRecDepth 100000 in
/-- A value that was handed in. -/
theorem open_value {r : Reach} {b0 : Nat} {v : Value} {d : DataW H} {p : List MemPlace} (hv : Value.okWide Tryz.prog W r b0 31 v) (h : DataW.Trod enc Tryz.prog W 0 sp held 31 v d p)
    (hw : (DataW.weights Tryz.prog 31 d).all (· ≤ reachBytes) = true) :
    ∃ (k n : Int) (s : ByteArray) (sub : VL) (sa : Option Addr) (sc : Nat), v = .agg #[.int .i64 k, .int .i64 n, .string s, .slice sa sub.len sc] ∧ (val1 k n s sub).fit ∧ (val1 k n s sub).i64 ∧ sub.len ≤ sc ∧ RpL W (fun b => b < W.heap.size) sub sa := by
  obtain ⟨cs, rfl, _⟩ := okWide_struct Tryz.underlying31 hv
  obtain ⟨fuel, hf⟩ := h
  obtain ⟨k, n, s, sub, sa, sc, hcs, rest⟩ := open_val fuel _ _ hf hw
  refine ⟨k, n, s, sub, sa, sc, ?_, rest⟩
  rw [← Array.toArray_toList (xs := cs)]
  exact congrArg (fun l : List Value => Value.agg l.toArray) hcs
theorem open_values {d : DataW H} {v : Value} {p : List MemPlace} (hv : v.cells.toList = [v]) (h : DataW.Trod enc Tryz.prog W 0 sp held 29 v d p)
    (hw : (DataW.weights Tryz.prog 29 d).all (· ≤ reachBytes) = true) : OpenL W v := by
  obtain ⟨fuel, hf⟩ := h
  rw [hv] at hf
  exact open_list (m := fuel) (fun m' _ => open_val m') hf hw
end

set_option maxRecDepth 100000 in
theorem cells_slice {W : World} {r : Reach} {b0 : Nat} {t e : TypeId} {v : Value} (ht : Tryz.prog.underlying t = some (.slice e)) (h : Value.okWide Tryz.prog W r b0 t v) : v.cells.toList = [v] := by
  obtain ⟨a, len, cap, rfl⟩ := okWide_slice ht h
  rfl
theorem weights_head {H : Type} {t : TypeId} {ts : List TypeId} {d : DataW H} {r : List (DataW H)} {p : Nat → Bool} (h : (DataW.weightsEach Tryz.prog (t :: ts) (d :: r)).all p = true) : (DataW.weights Tryz.prog t d).all p = true ∧ (DataW.weightsEach Tryz.prog ts r).all p = true := by
  rw [DataW.weightsEach, List.all_append, Bool.and_eq_true] at h; exact h
theorem weight_string {H : Type} {s : ByteArray} (h : (DataW.weights Tryz.prog 9 (.lit (.string s.data.toList) : DataW H)).all (· ≤ reachBytes) = true) : s.size ≤ 140737488351232 := by
  rw [DataW.weights, List.all_cons, Bool.and_eq_true, decide_eq_true_eq, reach_eq, Array.length_toList] at h
  exact h.1
theorem laid_out : laidOutB Tryz.prog = true := by kernel_rfl
end Go.Proofs.YtgmnbdfbbcpciaaGreatDoor
namespace Go.Proofs.YtgmnbdfbbcpciaaGreatDoor
open Go.ChangeShapes Go.WideShapes Go.ChangeAt Go.RowKit Go.Lib
set_option linter.unusedVariables false

theorem list5 {α : Type} {l : List α} (h : l.length = 5) : ∃ a b c d e, l = [a, b, c, d, e] := by
  match l, h with
  | [a, b, c, d, e], _ => exact ⟨a, b, c, d, e, rfl⟩
theorem list8 {α : Type} {l : List α} (h : l.length = 8) : ∃ a b c d e f g i, l = [a, b, c, d, e, f, g, i] := by
  match l, h with
  | [a, b, c, d, e, f, g, i], _ => exact ⟨a, b, c, d, e, f, g, i, rfl⟩
theorem cells_node : Tryz.prog.cellsOf 33 = 8 := by kernel_rfl
theorem cells_nodes : Tryz.prog.cellsOf 22 = 1 := by kernel_rfl
theorem bytes_node : Tryz.prog.bytesOf 33 = 112 := by kernel_rfl

section
variable {H : Type} {enc : TypeId × Value → H} {W : World} {sp : Nat → Bool} {held : Bool}

theorem trod_node {n : Nat} {cs : List Value} {x : DataW H × List MemPlace} (h : DataW.trod enc Tryz.prog W 0 sp held n 33 cs = some x) :
    ∃ (m : Nat) (op ln : Int) (s : ByteArray) (c3 c4 c5 c6 sl : Value) (yv y : DataW H × List MemPlace), n = m + 1 ∧ cs = [.int .i64 op, .int .i64 ln, .string s, c3, c4, c5, c6, sl] ∧ x.1 = .agg [.lit (.int .i64 op), .lit (.int .i64 ln), .lit (.string s.data.toList), yv.1, y.1] ∧
      DataW.trod enc Tryz.prog W 0 sp held m 31 [c3, c4, c5, c6] = some yv ∧ DataW.trod enc Tryz.prog W 0 sp held m 22 [sl] = some y := by
  obtain ⟨xs, m, rfl, rfl, hl, hlen, hf⟩ := DataW.trod_struct Tryz.underlying33 h
  rw [cells_node] at hl
  obtain ⟨c0, c1, c2, c3, c4, c5, c6, c7, rfl⟩ := list8 hl
  obtain ⟨y0, y1, y2, y3, y4, rfl⟩ := list5 hlen
  have h0 : DataW.trod enc Tryz.prog W 0 sp held m 3 [c0] = some y0 := by simpa [cells_int] using hf 0 _ rfl
  have h1 : DataW.trod enc Tryz.prog W 0 sp held m 3 [c1] = some y1 := by simpa [cells_int] using hf 1 _ rfl
  have h2 : DataW.trod enc Tryz.prog W 0 sp held m 9 [c2] = some y2 := by simpa [cells_string] using hf 2 _ rfl
  have h3 : DataW.trod enc Tryz.prog W 0 sp held m 31 [c3, c4, c5, c6] = some y3 := by simpa [cells_value] using hf 3 _ rfl
  have h4 : DataW.trod enc Tryz.prog W 0 sp held m 22 [c7] = some y4 := by simpa [cells_nodes] using hf 4 _ rfl
  obtain ⟨k, e0, rfl, w0⟩ := DataW.trod_int Tryz.underlying3 h0
  obtain ⟨i, e1, rfl, w1⟩ := DataW.trod_int Tryz.underlying3 h1
  obtain ⟨s, e2, rfl, w2⟩ := DataW.trod_string Tryz.underlying9 h2
  injection e0 with e0 _
  injection e1 with e1 _
  injection e2 with e2 _
  subst e0; subst e1; subst e2
  exact ⟨m, k, i, s, c3, c4, c5, c6, c7, y3, y4, rfl, rfl, rfl, h3, h4⟩

theorem weights_node (k i : Int) (l : List UInt8) (d d' : DataW H) : DataW.weights Tryz.prog 33 (.agg [.lit (.int .i64 k), .lit (.int .i64 i), .lit (.string l), d, d']) = l.length :: (DataW.weights Tryz.prog 31 d ++ DataW.weights Tryz.prog 22 d') := by
  conv => lhs; unfold DataW.weights
  rw [Tryz.underlying33]
  simp [DataW.weightsEach, DataW.weights]
theorem weights_nodes (es r : List (DataW H)) : DataW.weights Tryz.prog 22 (.slice es r) = (es.length + r.length) * 112 :: (DataW.weightsAll Tryz.prog 33 es ++ DataW.weightsAll Tryz.prog 33 r) := by
  conv => lhs; unfold DataW.weights
  rw [Tryz.underlying22]
  simp only [bytes_node]

/-- What comes of a node's reading. -/
def OpenN (W : World) (cs : List Value) : Prop := ∃ (op ln : Int) (s : ByteArray) (k n : Int) (t : ByteArray) (v : VL) (va : Option Addr) (vc : Nat) (sub : NL) (sa : Option Addr) (sc : Nat), cs = [.int .i64 op, .int .i64 ln, .string s, .int .i64 k, .int .i64 n, .string t, .slice va v.len vc, .slice sa sub.len sc] ∧
  (NL.cons op ln s k n t v sub .nil).fit ∧ (NL.cons op ln s k n t v sub .nil).i64 ∧ v.len ≤ vc ∧ RpL W (fun b => b < W.heap.size) v va ∧ sub.len ≤ sc ∧ RpN W (fun b => b < W.heap.size) sub sa
/-- What comes of a row's reading. -/
def OpenR (W : World) (v : Value) : Prop := ∃ (sub : NL) (sa : Option Addr) (sc : Nat), v = .slice sa sub.len sc ∧ sub.fit ∧ sub.i64 ∧ sub.len ≤ 140737488351232 ∧ sub.len ≤ sc ∧ (sa = none → sc = 0) ∧ RpN W (fun b => b < W.heap.size) sub sa

theorem open_nitems {W : World} {m : Nat} (ih : ∀ (cs : List Value) (x : DataW H × List MemPlace), DataW.trod enc Tryz.prog W 0 sp held m 33 cs = some x → (DataW.weights Tryz.prog 33 x.1).all (· ≤ reachBytes) = true → OpenN W cs) (b o : Nat) :
    ∀ (es : List (DataW H × List MemPlace)) (j : Nat), (∀ i, i < es.length → (W.cells? 0 ((⟨b, o, none⟩ : Addr).add ((j + i) * 8)) 8).bind (DataW.trod enc Tryz.prog W 0 sp held m 33) = es[i]?) → (DataW.weightsAll Tryz.prog 33 (es.map (·.1))).all (· ≤ reachBytes) = true →
      ∃ sub : NL, sub.len = es.length ∧ sub.fit ∧ sub.i64 ∧ RpN W (fun b => b < W.heap.size) sub (some ⟨b, o + 8 * j, none⟩)
  | [], j, _, _ => ⟨.nil, rfl, trivial, trivial, trivial⟩
  | e :: r, j, hel, hw => by
    have h0 := hel 0 (by simp)
    rw [Nat.add_zero, List.getElem?_cons_zero, Option.bind_eq_some_iff] at h0
    obtain ⟨cs, hcs, ht⟩ := h0
    rw [List.map_cons, weightsAll_cons, List.all_append, Bool.and_eq_true] at hw
    obtain ⟨op, ln, s, k, i, t, v, va, vc, sub, sa, sc, rfl, hfit, h64, hvc, hvr, hsc, hrep⟩ := ih cs e ht hw.1
    obtain ⟨rest, hrl, hrf, hr6, hrr⟩ := open_nitems ih b o r (j + 1) (fun i hi => by
      have := hel (i + 1) (by simp; omega)
      rw [List.getElem?_cons_succ, show j + (i + 1) = j + 1 + i by omega] at this
      exact this) hw.2
    obtain ⟨_, _, hcell⟩ := World.cells?_some hcs
    have ha : ∀ q, q < 8 → W.cell? ⟨b, o + 8 * j + q, none⟩ = ([.int .i64 op, .int .i64 ln, .string s, .int .i64 k, .int .i64 i, .string t, .slice va v.len vc, .slice sa sub.len sc] : List Value)[q]? := fun q hq => by
      have := hcell q hq
      rw [show (((⟨b, o, none⟩ : Addr).add (j * 8)).add q) = ⟨b, o + 8 * j + q, none⟩ by
        rw [Lib.add_plain, Lib.add_plain, Nat.mul_comm]] at this
      exact this
    have hb : b < W.heap.size := by
      have h0 := ha 0 (by omega)
      unfold World.cell? at h0
      rcases Nat.lt_or_ge b W.heap.size with hlt | hge
      · exact hlt
      · simp only [Array.getElem?_eq_none hge] at h0; cases h0
    refine ⟨.cons op ln s k i t v sub rest, by rw [NL.len, hrl, List.length_cons], ⟨hfit.1, hfit.2.1, hfit.2.2.1, hfit.2.2.2.1, hfit.2.2.2.2.1, hfit.2.2.2.2.2.1, hrf⟩, ⟨h64.1, h64.2.1, hr6⟩, b, o + 8 * j, va, vc, sa, sc, rfl, hb, ha 0 (by omega), ha 1 (by omega), ha 2 (by omega), ha 3 (by omega), ha 4 (by omega), ha 5 (by omega), ha 6 (by omega), hvc, hvr, ha 7 (by omega), hsc, hrep, ?_⟩
    rw [show o + 8 * j + 8 = o + 8 * (j + 1) by omega]
    exact hrr

set_option maxRecDepth 100000 in
theorem open_row {W : World} {m : Nat} (ih : ∀ m', m' < m → ∀ (cs : List Value) (x : DataW H × List MemPlace), DataW.trod enc Tryz.prog W 0 sp held m' 33 cs = some x → (DataW.weights Tryz.prog 33 x.1).all (· ≤ reachBytes) = true → OpenN W cs) {v : Value} {y : DataW H × List MemPlace}
    (h : DataW.trod enc Tryz.prog W 0 sp held m 22 [v] = some y) (hw : (DataW.weights Tryz.prog 22 y.1).all (· ≤ reachBytes) = true) : OpenR W v := by
  rcases DataW.trod_slice Tryz.underlying22 h with ⟨hcs, rfl⟩ | ⟨a, len, cap, elems, rest, n, rfl, hcs, rfl, _, hlc, _, hlen, hel, _, _⟩
  · injection hcs with hcs _
    exact ⟨.nil, none, 0, hcs, trivial, trivial, by decide, Nat.le_refl _, fun _ => rfl, trivial⟩
  · injection hcs with hcs _
    subst hcs
    simp only [weights_nodes, List.all_cons, List.all_append, Bool.and_eq_true, decide_eq_true_eq, List.length_map] at hw
    obtain ⟨hw1, hw2, _⟩ := hw
    have hrb := reach_eq
    rw [hrb] at hw1
    by_cases h0 : len = 0
    · subst h0
      exact ⟨.nil, some a, cap, rfl, trivial, trivial, by decide, Nat.zero_le _, fun h => (by cases h), trivial⟩
    obtain ⟨b, o, spot⟩ := a
    have hspot : spot = none := by
      have e0 := hel 0 (by omega)
      have : ∃ y0, elems[0]? = some y0 := ⟨elems[0], List.getElem?_eq_getElem (by omega)⟩
      obtain ⟨y0, hy0⟩ := this
      rw [hy0, Option.bind_eq_some_iff] at e0
      obtain ⟨cs, hcs, _⟩ := e0
      rw [cells_node] at hcs
      obtain ⟨_, hl4, hcell⟩ := World.cells?_some hcs
      have g0 := hcell 0 (by omega)
      rw [List.getElem?_eq_getElem (by omega)] at g0
      simpa [Addr.add] using World.cell?_spot g0
    subst hspot
    obtain ⟨sub, hsl, hsf, hs6, hrep⟩ := open_nitems (ih n (by omega)) b o elems 0 (fun i hi => by
      have := hel i (by omega)
      rw [cells_node] at this
      rw [Nat.zero_add]; exact this) hw2
    rw [hlen] at hsl
    refine ⟨sub, some ⟨b, o, none⟩, cap, by rw [hsl], hsf, hs6, by omega, by omega, fun h => (by cases h), ?_⟩
    rw [show o = o + 8 * 0 by omega]; exact hrep

theorem open_node {W : World} : ∀ (n : Nat) (cs : List Value) (x : DataW H × List MemPlace), DataW.trod enc Tryz.prog W 0 sp held n 33 cs = some x → (DataW.weights Tryz.prog 33 x.1).all (· ≤ reachBytes) = true → OpenN W cs := by
  intro n
  induction n using Nat.strongRecOn with
  | _ n ih =>
    intro cs x h hw
    obtain ⟨m, op, ln, s, c3, c4, c5, c6, sl, yv, y, rfl, rfl, hx, hv, hy⟩ := trod_node h
    rw [hx, weights_node, List.all_cons, List.all_append, Bool.and_eq_true, Bool.and_eq_true, decide_eq_true_eq] at hw
    have hrb := reach_eq
    obtain ⟨k, i, t, v, va, vc, hcv, hfv, h6v, hvc, hvr⟩ := open_val m _ _ hv hw.2.1
    obtain ⟨sub, sa, sc, rfl, hsf, hs6, hsl, hsc, _, hrep⟩ := open_row (m := m) (fun m' hm' => ih m' (by omega)) hy hw.2.2
    have hs : s.data.toList.length = s.size := by rw [Array.length_toList]; rfl
    have h1 := hw.1
    rw [hrb] at h1
    refine ⟨op, ln, s, k, i, t, v, va, vc, sub, sa, sc, by rw [show [Value.int .i64 op, .int .i64 ln, .string s, c3, c4, c5, c6, .slice sa sub.len sc] = [Value.int .i64 op, .int .i64 ln, .string s] ++ [c3, c4, c5, c6] ++ [.slice sa sub.len sc] from rfl, hcv]; rfl, ⟨by omega, hfv.1, hfv.2.1, hfv.2.2.1, hsl, hsf, trivial⟩, ⟨h6v, hs6, trivial⟩, hvc, hvr, hsc, hrep⟩
theorem open_nodes {d : DataW H} {v : Value} {p : List MemPlace} (hv : v.cells.toList = [v]) (h : DataW.Trod enc Tryz.prog W 0 sp held 22 v d p)
    (hw : (DataW.weights Tryz.prog 22 d).all (· ≤ reachBytes) = true) : OpenR W v := by
  obtain ⟨fuel, hf⟩ := h
  rw [hv] at hf
  exact open_row (m := fuel) (fun m' _ => open_node m') hf hw
end
end Go.Proofs.YtgmnbdfbbcpciaaGreatDoor
