/- Contracts of the functions that the statement reaches, and the plain mathematics beneath: several texts joined. -/
import Derived.Maps.AppendAt
import Derived.Test.YtbalpfpcbckghaaGreatDoorFtkAF
import Derived.Test.YtbalpfpcbckghaaGreatDoorFtkAA
namespace Go.Proofs.YtbalpfpcbckghaaGreatDoor
open Go.RowKit Go.Lib Go.Sort
set_option linter.unusedVariables false

def allE : List (List UInt8 × List UInt8) := pureE ++ otherE
def allT : List UInt8 := puresT ++ 32 :: othersT
def namesB : List ByteArray := namesP.map fun l => ⟨l.toArray⟩
theorem all_ok : RowOk allT allE := ⟨all_fields, by decide +kernel, by decide +kernel, fun e he => by
  rcases List.mem_append.1 he with h | h
  · exact pures_ok.ct e h
  · exact others_ok.ct e h, by decide +kernel, by decide +kernel⟩
theorem allE_len : allE.length = 60 := by decide +kernel
theorem names_sorted : (allE.map (·.1)).mergeSort (fun x y => decide (x ≤ y)) = namesB.map (·.data.toList) := by
  have e : namesB.map (·.data.toList) = namesP := by
    unfold namesB
    rw [List.map_map]
    conv => rhs; rw [← List.map_id namesP]
    exact List.map_congr_left (fun l _ => by simp)
  rw [e]
  exact sort_const ((List.isPerm_iff.1 (show ((allE.map (·.1)).isPerm namesP) = true from names_perm)).symm) (by decide +kernel)

set_option maxRecDepth 100000 in
set_option maxHeartbeats 4000000 in
theorem fnames_c (w : World) (he : FnEnv w) : Calls Tryz.prog 23 #[] w fun e w' =>
    ∃ g cap, e = .returned (.slice (some ⟨g, 0, none⟩) 60 cap) ∧ 60 ≤ cap ∧ w.heap.size ≤ g ∧ g < w'.heap.size ∧ StrsAt w' g namesB ∧ Below w.heap.size w w' := by
  have hroom := he.room
  obtain ⟨j0, hj0, hy0, hy1, hy2⟩ := info_parts str_info
  have PC := Lib.hid pures_c
  have OC := Lib.hid others_c
  have FK : Hid (Calls Tryz.prog 37 #[.string ⟨allT.toArray⟩] w fun e w' => e = .returned (.slice (some ⟨w.heap.size, 0, none⟩) 60 60) ∧ w.alloc (.cells ((allE.map joinE).map fun l => Value.string ⟨l.toArray⟩).toArray 9) = w') := Lib.hid (by
    refine (Tryz.strings_Fields_laid ⟨allT.toArray⟩ w (by rw [ba_size]; have := all_ok.len; omega) (ascii_all (l := allT) all_ok.asc) he.spc).mono ?_
    rintro e w' ⟨rfl, rfl⟩
    rw [show (⟨allT.toArray⟩ : ByteArray).data.toList = allT from by simp, all_ok.fl, List.length_map, allE_len]
    exact ⟨rfl, rfl⟩)
  have hcat : (⟨puresT.toArray⟩ : ByteArray) ++ (⟨#[32]⟩ : ByteArray) ++ (⟨othersT.toArray⟩ : ByteArray) = ⟨allT.toArray⟩ := by
    apply ByteArray.ext
    rw [ByteArray.data_append, ByteArray.data_append]
    apply Array.ext'
    unfold allT
    simp
  obtain ⟨T1, hT1⟩ : ∃ T : ByteArray, T = ⟨puresT.toArray⟩ := ⟨_, rfl⟩
  obtain ⟨T2, hT2⟩ : ∃ T : ByteArray, T = ⟨othersT.toArray⟩ := ⟨_, rfl⟩
  obtain ⟨T3, hT3⟩ : ∃ T : ByteArray, T = ⟨allT.toArray⟩ := ⟨_, rfl⟩
  have hz1 : T1.size ≤ 100000 := by rw [hT1, ba_size]; have := pures_ok.len; omega
  have hz2 : T2.size ≤ 100000 := by rw [hT2, ba_size]; have := others_ok.len; omega
  rw [← hT1] at PC hcat
  rw [← hT2] at OC hcat
  rw [← hT3] at FK hcat
  rw [← hcat] at FK
  clear hT1 hT2 hT3 hcat
  obtain ⟨w1, hw1⟩ : ∃ w1, w1 = w.alloc (.cells ((allE.map joinE).map fun l => Value.string ⟨l.toArray⟩).toArray 9) := ⟨_, rfl⟩
  have hz : w1.heap.size = w.heap.size + 1 := by rw [hw1]; simp
  have HC := Lib.hid (show ∀ i e, allE[i]? = some e → w1.cell? ⟨w.heap.size, i, none⟩ = some (.string ⟨(joinE e).toArray⟩) by rw [hw1]; exact rowE_cell w allE)
  have hb : Below w.heap.size w w1 := by rw [hw1]; exact (Below.refl _ _).alloc (Nat.le_refl _) _
  rw [← hw1] at FK
  have HB := Lib.hid hb
  have HE := Lib.hid (fun W (hW : Below w.heap.size w W) => he.below hW (by omega))
  clear hw1 hb he
  go_enter Tryz.func23, Tryz.ntmps23
  go_wp2_with fail
  refine (PC.out _).mono ?_
  rintro e w2 ⟨rfl, rfl⟩
  go_wp2_with fail
  refine (OC.out _).mono ?_
  rintro e w3 ⟨rfl, rfl⟩
  go_wp2_with fail
  refine FK.out.mono ?_
  rintro e w4 ⟨rfl, rfl⟩
  go_wp2_with fail
  go_loopg [1, 13] 60 (fun kk ov iv wr => ∃ (i : Nat) (outs : List (List UInt8)), iv = .int .i64 (i : Int) ∧ i + kk = 60 ∧ outs.length = i ∧ Hid (outs = (allE.take i).map (·.1)) ∧ Hid (Below w1.heap.size w1 wr) ∧ Hid (wr.ownsRow w1.heap.size 9 1 ov outs.length (strs outs)))
  case atStart => exact ⟨0, [], rfl, by omega, rfl, Lib.hid rfl, Lib.hid (Below.refl _ _), Lib.hid (World.ownsRow_nil _ _ _ _)⟩
  case round =>
    obtain ⟨i, outs, rfl, hk, hol, HOU, HBW, HO⟩ := hrel
    obtain ⟨ov, hov⟩ : ∃ ov, ov = u1 := ⟨_, rfl⟩
    subst hov
    have hbz : w1.heap.size ≤ wr.heap.size := HBW.out.size
    by_cases hi : i < 60
    · obtain ⟨kk, rfl⟩ : ∃ kk, gk = kk + 1 := ⟨gk - 1, by omega⟩
      have hi' : i < allE.length := by rw [allE_len]; exact hi
      obtain ⟨e, hE⟩ : ∃ e, allE[i]? = some e := ⟨_, List.getElem?_eq_getElem hi'⟩
      have hem : e ∈ allE := List.mem_of_getElem? hE
      have hcx : wr.cell? ⟨w.heap.size, i, none⟩ = some (.string ⟨(joinE e).toArray⟩) := (HBW.out.cell (p := ⟨w.heap.size, i, none⟩) (by show w.heap.size < _; omega)).trans (HC.out i e hE)
      have hbW := HB.out.trans (below_le' HBW.out HB.out.size)
      obtain ⟨m, hm⟩ := (HE.out wr hbW).mx
      have CC := Lib.hid (Tryz.strings_Cut ⟨(joinE e).toArray⟩ ⟨#[58]⟩ m wr (by rw [ba_size]; have := all_ok.els e hem; omega) hm)
      rw [show (⟨(joinE e).toArray⟩ : ByteArray).data.toList = joinE e from by simp, show (⟨#[58]⟩ : ByteArray).data.toList = [58] from rfl, all_ok.ct e hem] at CC
      have HT := Lib.hid (show outs ++ [e.1] = (allE.take (i + 1)).map (·.1) by
        rw [HOU.out, List.take_succ_eq_append_getElem hi', List.map_append]
        rw [List.getElem?_eq_getElem hi'] at hE
        injection hE with hE
        rw [hE]; rfl)
      clear hbW hm hem hE
      go_wp2_with fail
      refine CC.out.mono ?_
      rintro e' w2 ⟨rfl, n, rfl⟩
      have HO2 := Lib.hid (own_below HO.out (below_drewN (Below.refl wr.heap.size wr) n))
      have HB2 := Lib.hid (below_drewN HBW.out n)
      clear CC HO
      go_wp2_with (at_builtin; refine wpList_append_own _ rfl _ _ 38 rfl w1.heap.size 9 j0 (.string ⟨#[]⟩) 1 16 Tryz.underlying38 hj0 hy0 hy1 hy2 rfl (by decide) ov outs.length (strs outs) rfl (HO2.out.alloc _) ⟨wr.heap.size, 0, none⟩ 1 1 [.string ⟨e.1.toArray⟩] rfl rfl ?c1 ?c2 ?c3 ?c4 ?c5 ?_
                   case c1 => exact cell_one_new _ _ _
                   case c2 => intro u hu; simp at hu; subst hu; rfl
                   case c3 => unfold maxLen; omega
                   case c4 => omega
                   case c5 => simp; omega
                   intro v' w5 hown hgrow _
                   have HB5 := Lib.hid (grown_below (HB2.out.alloc hbz _) (by simp; omega) hgrow (fun k hk => own_ge HO2.out k hk))
                   have HO5 := Lib.hid (strs_snoc hown)
                   clear hown hgrow)
      go_roundg kk
      case measure => omega
      case rel => exact ⟨i + 1, outs ++ [e.1], by go_num, by omega, by simp; omega, HT, HB5, HO5⟩
    · obtain rfl : i = 60 := by omega
      have HO6 := Lib.hid (show wr.ownsRow w1.heap.size 9 1 ov 60 (strs (allE.map (·.1))) by
        have h1 := HO.out
        have h2 := HOU.out
        rw [List.take_of_length_le (by rw [allE_len]; exact Nat.le_refl _)] at h2
        rw [hol, h2] at h1
        exact h1)
      obtain ⟨g, cap, hv, hbg, hlt⟩ := HO6.out.form (by decide)
      subst hv
      have hHs : Holds encStr wr g 0 (allE.map (·.1)).toArray := holds_own (ss := allE.map (·.1)) HO6.out
      have SC := Lib.hid (Tryz.slices_Sort_string g 0 cap (allE.map (·.1)) wr hHs hlt (by rw [List.length_map, allE_len]; decide))
      rw [List.length_map, allE_len] at SC
      have HH := Lib.hid hHs
      have hcap : 60 ≤ cap := by
        obtain ⟨_, h | ⟨g', cap', cur, e, _, hh, hc, _⟩⟩ := HO6.out
        · cases h.1
        · injection e with _ _ e; subst e; exact hc
      clear hHs HO HO6
      go_wp2_with fail
      refine SC.out.mono ?_
      rintro e w4 ⟨rfl, n, os, he⟩
      have SA := Lib.hid (sorted_at HH.out hlt names_sorted he)
      have hz4 : wr.heap.size ≤ w4.heap.size := SA.out.2.size
      clear he
      go_wp2_with fail
      go_ret
      exact ⟨g, cap, rfl, hcap, by omega, by omega, SA.out.1, HB.out.trans (below_le' (HBW.out.trans (below_le' SA.out.2 (by omega))) HB.out.size)⟩
end Go.Proofs.YtbalpfpcbckghaaGreatDoor
