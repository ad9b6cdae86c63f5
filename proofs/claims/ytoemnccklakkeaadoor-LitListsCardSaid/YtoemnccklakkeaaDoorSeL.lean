/-
  Out of the rows' condition 'laid': all of api's errors, each in a place of its own.
-/
import Derived.Test.YtoemnccklakkeaaDoorLaid
import Derived.Test.YtoemnccklakkeaaDoorSeA
namespace Go.Proofs.YtoemnccklakkeaaDoor
open Go.RowKit Go.Lib Go.ChangeShapes Go.WideShapes
set_option linter.unusedVariables false

/-- The variables that hold these errors. -/
def AllSent (W : World) : List (String × Nat) → List Addr → Prop
  | [], [] => True
  | x :: l, a :: bs => W.cell? ⟨x.2, 0, none⟩ = some (.iface 142 (.pointer (some a))) ∧ (∃ c t, W.heap[a.block]? = some (.cells c t (0, 0))) ∧ AllSent W l bs
  | [], _ :: _ => False
  | _ :: _, [] => False
theorem AllSent.len {W : World} : ∀ {l : List (String × Nat)} {bs : List Addr}, AllSent W l bs → bs.length = l.length
  | [], [], _ => rfl
  | x :: l, a :: bs, h => by rw [List.length_cons, List.length_cons, AllSent.len h.2.2]
  | [], _ :: _, h => h.elim
  | _ :: _, [], h => h.elim
theorem AllSent.get {W : World} : ∀ {l : List (String × Nat)} {bs : List Addr} (k : Nat), AllSent W l bs → k < l.length →
    W.cell? ⟨(l.getD k ("", 0)).2, 0, none⟩ = some (.iface 142 (.pointer (some (bs.getD k ⟨0, 0, none⟩)))) ∧ ∃ c t, W.heap[(bs.getD k ⟨0, 0, none⟩).block]? = some (.cells c t (0, 0))
  | [], [], k, _, hk => absurd hk (Nat.not_lt_zero _)
  | x :: l, a :: bs, 0, h, _ => ⟨h.1, h.2.1⟩
  | x :: l, a :: bs, k + 1, h, hk => by
    rw [List.getD_cons_succ, List.getD_cons_succ]
    exact AllSent.get k h.2.2 (by rw [List.length_cons] at hk; omega)
  | [], _ :: _, _, h, _ => h.elim
  | _ :: _, [], _, h, _ => h.elim

set_option maxRecDepth 100000 in
theorem sents_of {W : World} : ∀ (l : List (String × DataW Unit × Nat)) (rest : List (String × DataW Unit)) (ps : List MemPlace), DataW.LaidVars Tryd.prog W ((l.map fun x => (x.1, x.2.1)) ++ rest) ps →
    (∀ x ∈ l, (∃ t, x.2.1 = .iface "*errors.errorString" (.ptr (.agg [.lit (.string t)]))) ∧ Tryd.prog.globalNamed x.1 = some x.2.2 ∧ (Tryd.prog.globals[x.2.2]?).map (·.type) = some 33) →
    (∀ b off, MemPlace.cell b off ∈ ps → (∃ c t, W.heap[b]? = some (.cells c t (0, 0))) ∧ ∀ u v, W.cell? ⟨b, off, none⟩ = some (.iface u v) → Value.okWide Tryd.prog W .any 0 u v) →
    ∃ bs : List Addr, AllSent W (l.map fun x => (x.1, x.2.2)) bs ∧ List.Sublist (bs.map fun a => MemPlace.cell a.block a.off) ps
  | [], rest, ps, _, _, _ => ⟨[], trivial, List.nil_sublist _⟩
  | x :: l, rest, ps, h, hl, hrows => by
    obtain ⟨⟨text, hx⟩, hg, ht⟩ := hl x (by simp)
    obtain ⟨n, d, g⟩ := x
    simp only at hx hg ht
    subst hx
    obtain ⟨g0, t0, cs0, f0, p0, q0, hg0, ht0, hv0, hd0, hrest, e0⟩ := h
    obtain rfl := Option.some.inj (hg.symm.trans hg0)
    obtain rfl := Option.some.inj (ht.symm.trans ht0)
    subst e0
    obtain ⟨l0⟩ := cs0
    have ok0 : ∀ u v, l0 = [.iface u v] → Value.okWide Tryd.prog W .any 0 u v := fun u v e => by
      subst e
      exact (hrows g 0 (by simp [MemPlace.row])).2 u v (by simpa using World.var?_cell hg0 hv0 0)
    obtain ⟨a, s, rfl, hc0, hs0, hz0, rfl⟩ := errorString_of_trod Tryd.underlying33 row_err Tryd.underlying142 Tryd.underlying144 rfl rfl Tryd.underlying9 (by kernel_rfl) (by kernel_rfl) hd0 ok0
    obtain ⟨bs, has, hsub⟩ := sents_of l rest q0 hrest (fun x hx => hl x (by simp [hx])) (fun b off hb => hrows b off (by simp [hb]))
    refine ⟨a :: bs, ⟨by simpa using World.var?_cell hg0 hv0 0, (hrows a.block a.off (by simp [MemPlace.row])).1, has⟩, ?_⟩
    have e1 : MemPlace.row a 1 = [MemPlace.cell a.block a.off] := by simp [MemPlace.row]
    rw [e1, List.map_cons, List.append_assoc]
    exact (List.Sublist.cons_cons _ hsub).trans (List.sublist_append_right _ _)

/-- All of api's errors lie in places of their own. -/
theorem sees_of {W : World} (l : List (String × DataW Unit × Nat)) (rest : List (String × DataW Unit)) (h : laidMet Tryd.prog ((l.map fun x => (x.1, x.2.1)) ++ rest) W) (hG : l.map (fun x => x.2.2) = seeG)
    (hl : ∀ x ∈ l, (∃ t, x.2.1 = .iface "*errors.errorString" (.ptr (.agg [.lit (.string t)]))) ∧ Tryd.prog.globalNamed x.1 = some x.2.2 ∧ (Tryd.prog.globals[x.2.2]?).map (·.type) = some 33) (hr : 24 < W.heap.size) : ∃ ea, SeesAt W ea := by
  obtain ⟨ps, hv, hnd, hrows⟩ := h
  obtain ⟨bs, has, hsub⟩ := sents_of l rest ps hv hl hrows
  have hlen : l.length = 17 := by have := congrArg List.length hG; rw [List.length_map] at this; exact this
  have hal := has.len
  rw [List.length_map, hlen] at hal
  have hk : ∀ k, k < 17 → ((l.map fun x => (x.1, x.2.2)).getD k ("", 0)).2 = seeG.getD k 0 := by
    intro k hk
    rw [← hG]
    simp only [List.getD_eq_getElem?_getD, List.getElem?_map]
    rw [List.getElem?_eq_getElem (by omega)]; rfl
  have he : ∀ k, 101 + k - 101 = k := fun k => by omega
  refine ⟨fun k => bs.getD (k - 101) ⟨0, 0, none⟩, fun k h17 => ?_, fun k h17 => ?_, fun i j hi hj e => ?_, hr⟩
  · rw [← hk k h17]
    simp only [he]
    exact (has.get k (by rw [List.length_map, hlen]; exact h17)).1
  · simp only [he]
    exact (has.get k (by rw [List.length_map, hlen]; exact h17)).2
  · simp only [he] at e
    have hnd2 := hnd.sublist hsub
    rw [List.Nodup, List.pairwise_iff_getElem] at hnd2
    rw [List.getD_eq_getElem?_getD, List.getD_eq_getElem?_getD, List.getElem?_eq_getElem (by omega), List.getElem?_eq_getElem (by omega)] at e
    simp only [Option.getD_some] at e
    rcases Nat.lt_trichotomy i j with hij | hij | hij
    · exact absurd (by rw [List.getElem_map, List.getElem_map, e]) (hnd2 i j (by rw [List.length_map]; omega) (by rw [List.length_map]; omega) hij)
    · exact hij
    · exact absurd (by rw [List.getElem_map, List.getElem_map, e]) (hnd2 j i (by rw [List.length_map]; omega) (by rw [List.length_map]; omega) hij)
end Go.Proofs.YtoemnccklakkeaaDoor
