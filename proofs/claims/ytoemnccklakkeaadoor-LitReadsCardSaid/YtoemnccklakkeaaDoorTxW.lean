/-
  lit's quote and text: the walks.
-/
import Derived.Test.YtoemnccklakkeaaDoorTxP
import Derived.Test.YtoemnccklakkeaaDoorVwD
namespace Go.Proofs.YtoemnccklakkeaaDoor
open Go.RowKit Go.Lib
set_option linter.unusedVariables false

/-- The variable of the strings' search. -/
def MaxAt (w : World) : Prop := ∃ m : Int, w.cell? ⟨22, 0, none⟩ = some (.int .i64 m)
theorem MaxAt.below {w w' : World} {B : Nat} (h : MaxAt w) (hb : Below B w w') (hB : 24 ≤ B) : MaxAt w' := by
  obtain ⟨m, hm⟩ := h
  exact ⟨m, (World.cell?_of_block (w := w) (hb.block _ (Nat.lt_of_lt_of_le (by decide) hB))).trans hm⟩
/-- What a value's text asks of the world. -/
structure TxAt (w : World) : Prop where
  tab : TabIs Tryd.prog w "internal/strconv.uint64pow10" .u64 pow10Tab
  room : 24 < w.heap.size
  mx : MaxAt w
theorem TxAt.below {w w' : World} {B : Nat} (h : TxAt w) (hb : Below B w w') (hB : w.heap.size ≤ B) : TxAt w' :=
  ⟨Joins.tab_stays (g := 5) rfl h.tab hb hB, by have := hb.size; have := h.room; omega, h.mx.below hb (by have := h.room; omega)⟩
theorem countB_sz (s old : ByteArray) (h : old.size = 1) : countB s old ≤ s.size := by
  have := countB_mul_le old (by omega) s.size s (Nat.le_refl _)
  rw [h] at this; omega

set_option maxHeartbeats 1000000 in
theorem quote_c (s : ByteArray) (w : World) (hs : s.size ≤ 1000000) (hr : 24 < w.heap.size) (hm : MaxAt w) :
    Calls Tryd.prog 73 #[.string s] w fun e w' => e = .returned (.string ⟨(quoL s.data.toList).toArray⟩) ∧ Below w.heap.size w w' := by
  obtain ⟨m, hmc⟩ := hm
  have hlen : s.data.toList.length = s.size := by rw [Array.length_toList]; rfl
  obtain ⟨t, ht⟩ : ∃ t : ByteArray, t = ⟨(repL 92 [92, 92] s.data.toList).toArray⟩ := ⟨_, rfl⟩
  have htl : t.data.toList = repL 92 [92, 92] s.data.toList := by rw [ht]
  have hts : t.size ≤ 2000000 := by
    have h1 : t.size = t.data.toList.length := by rw [Array.length_toList]; rfl
    have := rep92_len s.data.toList
    rw [h1, htl]; omega
  have A1 := Tryd.strings_ReplaceAll s ⟨#[92]⟩ ⟨#[92, 92]⟩ m w (by omega) hmc (by decide) (by
    have := countB_sz s ⟨#[92]⟩ rfl
    have : (⟨#[92, 92]⟩ : ByteArray).size = 2 := rfl
    rw [this]; omega)
  rw [show (⟨#[92]⟩ : ByteArray).data.toList = [92] from rfl, show (⟨#[92, 92]⟩ : ByteArray).data.toList = [92, 92] from rfl, replaceAll_one 92 [92, 92] _ (by decide), ← ht] at A1
  obtain ⟨u, hu⟩ : ∃ u : ByteArray, u = ⟨(escL s.data.toList).toArray⟩ := ⟨_, rfl⟩
  have A2 := fun W (hW : W.cell? ⟨22, 0, none⟩ = some (.int .i64 m)) => Tryd.strings_ReplaceAll t ⟨#[34]⟩ ⟨#[92, 34]⟩ m W (by omega) hW (by decide) (by
    have := countB_sz t ⟨#[34]⟩ rfl
    have : (⟨#[92, 34]⟩ : ByteArray).size = 2 := rfl
    rw [this]; omega)
  simp only [show (⟨#[34]⟩ : ByteArray).data.toList = [34] from rfl, show (⟨#[92, 34]⟩ : ByteArray).data.toList = [92, 34] from rfl, replaceAll_one 34 [92, 34] _ (show ([92, 34] : List UInt8) ≠ [34] by decide), htl, esc_rep, ← hu] at A2
  have HQ := Lib.hid (show (⟨(quoL s.data.toList).toArray⟩ : ByteArray) = ⟨#[34]⟩ ++ u ++ ⟨#[34]⟩ by
    rw [hu]; apply ByteArray.ext; simp [quoL])
  have hus : u.size ≤ 2000000 := by
    have h1 : u.size = u.data.toList.length := by rw [Array.length_toList]; rfl
    have h2 := escL_len s.data.toList
    rw [h1, hu]; simp only; omega
  rw [HQ.out]
  have H1 := Lib.hid A1
  have H2 := Lib.hid A2
  have HM := Lib.hid hmc
  clear A1 A2 hmc ht htl hu HQ
  go_enter Tryd.func73, Tryd.ntmps73
  go_wp2_with fail
  refine H1.out.mono ?_
  rintro e w2 ⟨rfl, hb2⟩
  have HB2 := Lib.hid hb2
  clear hb2
  go_wp2_with fail
  refine (H2.out _ ((World.cell?_of_block (w := w) (HB2.out.block _ (Nat.lt_trans (by decide) hr))).trans HM.out)).mono ?_
  rintro e w3 ⟨rfl, hb3⟩
  have HB3 := Lib.hid (HB2.out.trans (below_le' hb3 HB2.out.size))
  clear hb3
  go_wp2_with fail
  go_ret
  exact ⟨rfl, HB3.out⟩

theorem str_info : (Tryd.prog.info? 9).map (fun i => (i.zero, i.size, i.bytes)) = some (some (.string ⟨#[]⟩), 1, 16) := by kernel_rfl
def strs (l : List (List UInt8)) : List Value := l.map fun x => Value.string ⟨x.toArray⟩
theorem strs_snoc {W : World} {base : Nat} {v : Value} {l : List (List UInt8)} {y : List UInt8} (h : W.ownsRow base 9 1 v (l.length + 1) (strs l ++ [.string ⟨y.toArray⟩])) : W.ownsRow base 9 1 v (l ++ [y]).length (strs (l ++ [y])) := by
  have e1 : (l ++ [y]).length = l.length + 1 := by simp
  have e2 : strs (l ++ [y]) = strs l ++ [.string ⟨y.toArray⟩] := by simp [strs]
  rw [e1, e2]; exact h
theorem own_below {W W' : World} {base e size n : Nat} {v : Value} {xs : List Value} (h : W.ownsRow base e size v n xs) (hb : Below W.heap.size W W') : W'.ownsRow base e size v n xs := by
  refine ⟨h.1, ?_⟩
  rcases h.2 with h0 | ⟨g, cap, cur, hv, hb1, hh, r⟩
  · exact .inl h0
  · have hlt : g < W.heap.size := by
      rcases Nat.lt_or_ge g W.heap.size with hlt | hge
      · exact hlt
      · rw [Array.getElem?_eq_none hge] at hh; cases hh
    exact .inr ⟨g, cap, cur, hv, hb1, (hb.block g hlt).trans hh, r⟩
/-- What was joined out of a row of the call's own. -/
theorem join_own {W : World} {base : Nat} {v : Value} {l : List (List UInt8)} (h : W.ownsRow base 9 1 v l.length (strs l)) (hn : l.length ≤ 140737488355328) (hl : (join l [44, 32]).length ≤ 140737488355328) :
    Calls Tryd.prog 74 #[v, .string ⟨#[44, 32]⟩] W fun e w' => e = .returned (.string ⟨(join l [44, 32]).toArray⟩) ∧ Below W.heap.size W w' := by
  have hmap : (l.map fun x => (⟨x.toArray⟩ : ByteArray)).map (fun b => b.data.toList) = l := by
    rw [List.map_map]
    conv => rhs; rw [← List.map_id l]
    rfl
  rcases h.2 with ⟨rfl, hz⟩ | ⟨g, cap, cur, rfl, _, hh, hc, _, hsz, ht⟩
  · obtain rfl : l = [] := List.eq_nil_of_length_eq_zero hz
    exact (Tryd.strings_Join_none none 0 ⟨#[44, 32]⟩ W).mono fun e w' ⟨he, hw⟩ => ⟨he, by rw [hw]; exact Below.refl _ _⟩
  · have hg : g < W.heap.size := by
      rcases Nat.lt_or_ge g W.heap.size with hlt | hge
      · exact hlt
      · rw [Array.getElem?_eq_none hge] at hh; cases hh
    have J := Tryd.strings_Join g 0 cap (l.map fun x => (⟨x.toArray⟩ : ByteArray)) ⟨#[44, 32]⟩ W (fun j x hx => by
      rw [Nat.zero_add, cell_of_row W g j cur _ _ hh]
      have h1 : (cur.toList.take (l.length * 1))[j]? = (strs l)[j]? := by rw [ht]
      rw [List.getElem?_map] at hx
      have hj : j < l.length := by
        rcases Nat.lt_or_ge j l.length with hlt | hge
        · exact hlt
        · rw [List.getElem?_eq_none hge] at hx; cases hx
      rw [List.getElem?_take_of_lt (by omega)] at h1
      rw [← Array.getElem?_toList, h1]
      unfold strs
      rw [List.getElem?_map]
      cases hq : l[j]? with
      | none => rw [hq] at hx; cases hx
      | some y => rw [hq] at hx; injection hx with hx; rw [← hx]; rfl) hg (by rw [List.length_map]; exact hn) (by rw [List.length_map]; exact hc) (by rw [hmap]; exact hl)
    rw [List.length_map, hmap] at J
    exact J
end Go.Proofs.YtoemnccklakkeaaDoor
