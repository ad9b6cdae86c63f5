/- Contracts of the functions that the statement reaches, and the plain mathematics beneath: several texts joined. -/
import Derived.Test.YtnphgcbknfmapaaGreatDoorProg
import Derived.OrdersHeld
import Derived.Lib.Hide
import Derived.Deep.RegionHeld
namespace Go.Proofs.YtnphgcbknfmapaaGreatDoor
open Go.RowKit Go.Lib
set_option linter.unusedVariables false
section
variable {P : Program} {ops : Array Oper} {Q : Exit → Act → World → Prop} {md : Region.Mode} {S : World → Prop} {last : Nat}

/-- Each operation but the last has one behind it that waits for it. -/
def succB (md : Region.Mode) (ops : Array Oper) (last : Nat) : Bool :=
  (List.range ops.size).all fun k => k == last || (List.range ops.size).any fun j => decide (k < j) && (match ops[j]? with
    | none => false
    | some o => o.after.any fun e => Region.binds md e && e.on == k)
/-- What has come up has come up behind what it waits for. -/
def invB (md : Region.Mode) (ops : Array Oper) (listed : Array Bool) : Bool :=
  (List.range ops.size).all fun j => match ops[j]? with
    | none => true
    | some o => !listed.getD j true || o.after.all fun e => !Region.binds md e || listed.getD e.on false
theorem succ_of (h : succB md ops last = true) {k : Nat} (hk : k < ops.size) (hl : k ≠ last) : ∃ (j : Nat) (o : Oper), ops[j]? = some o ∧ k < j ∧ ∃ e ∈ o.after, Region.binds md e = true ∧ e.on = k := by
  unfold succB at h
  rw [List.all_eq_true] at h
  have h1 := h k (List.mem_range.2 hk)
  rw [Bool.or_eq_true] at h1
  rcases h1 with h1 | h1
  · exact absurd (by simpa using h1) hl
  · rw [List.any_eq_true] at h1
    obtain ⟨j, hj, h2⟩ := h1
    rw [Bool.and_eq_true] at h2
    cases ho : ops[j]? with
    | none => rw [ho] at h2; cases h2.2
    | some o =>
      rw [ho] at h2
      have h3 := h2.2
      rw [Array.any_eq_true'] at h3
      obtain ⟨e, he, h4⟩ := h3
      rw [Bool.and_eq_true] at h4
      exact ⟨j, o, ho, by simpa using h2.1, e, he, h4.1, by simpa using h4.2⟩
def Inv (md : Region.Mode) (ops : Array Oper) (listed : Array Bool) : Prop := ∀ (j : Nat) (o : Oper), ops[j]? = some o → listed.getD j true = true → ∀ e ∈ o.after, Region.binds md e = true → listed.getD e.on false = true
theorem inv_of {listed : Array Bool} (h : invB md ops listed = true) : Inv md ops listed := by
  intro j o ho hl e he hb
  unfold invB at h
  rw [List.all_eq_true] at h
  have h1 := h j (List.mem_range.2 (Array.getElem?_eq_some_iff.1 ho).1)
  rw [ho] at h1
  simp only [hl, Bool.not_true, Bool.false_or] at h1
  rw [Array.all_eq_true'] at h1
  have h2 := h1 e he
  simpa [hb] using h2
theorem Inv.step {listed : Array Bool} (h : Inv md ops listed) {i : Nat} (hi : i ∈ Region.ready md ops listed) : Inv md ops (listed.setIfInBounds i true) := by
  intro j o ho hl e he hb
  by_cases hij : i = j
  · subst hij
    obtain ⟨_, o', ho', hall⟩ := mem_ready.1 hi
    rw [ho] at ho'
    injection ho' with ho'
    subst ho'
    exact getD_set_true (hall e he hb)
  · rw [getD_set_ne true hij] at hl
    exact getD_set_true (h j o ho hl e he hb)
/-- The last one comes up when all the others have. -/
theorem last_all {listed : Array Bool} (hs : succB md ops last = true) (hv : Inv md ops listed) (hl : last ∈ Region.ready md ops listed) : ∀ (m k : Nat), ops.size - k ≤ m → k < ops.size → k ≠ last → listed.getD k false = true
  | 0, k, h0, hk, _ => by omega
  | m + 1, k, h0, hk, hn => by
    obtain ⟨j, o, ho, hkj, e, he, hb, rfl⟩ := succ_of hs hk hn
    by_cases hj : j = last
    · subst hj
      obtain ⟨_, o', ho', hall⟩ := mem_ready.1 hl
      rw [ho] at ho'
      injection ho' with ho'
      subst ho'
      exact hall e he hb
    · have hjs := (Array.getElem?_eq_some_iff.1 ho).1
      have h1 := last_all hs hv hl m j (by omega) hjs hj
      have h2 : listed.getD j true = true := by
        rw [Array.getD_eq_getD_getElem?] at h1 ⊢
        cases hq : listed[j]? with
        | none => rfl
        | some b => rw [hq] at h1; exact h1
      exact hv j o ho h2 e he hb

/-- Whatever order is picked, S holds behind every operation but the last. -/
def heldTo (P : Program) (md : Region.Mode) (ops : Array Oper) (Q : Exit → Act → World → Prop) (S : World → Prop) (last : Nat) : Nat → Array Bool → Act → World → Prop
  | 0, listed, a, w => Region.ready md ops listed = [] ∧ Q .normal a w
  | fuel + 1, listed, a, w =>
    (Region.ready md ops listed = [] → Q .normal a w) ∧
    ∀ i ∈ Region.ready md ops listed, wpOp P ops Q i (fun a' w' => (i ≠ last → S w') ∧ heldTo P md ops Q S last fuel (listed.setIfInBounds i true) a' w') a w
theorem any_of_heldTo : ∀ (fuel : Nat) (listed : Array Bool) (a : Act) (w : World), heldTo P md ops Q S last fuel listed a w → wpAny P md ops Q fuel listed a w
  | 0, _, _, _, h => h
  | fuel + 1, _, _, _, h => ⟨h.1, fun i hi => wpOp_mono (fun a' w' h' => any_of_heldTo fuel _ a' w' h'.2) (h.2 i hi)⟩
theorem heldTo_first {i : Nat} {oi : Oper} {v : Value} (hi : ops[i]? = some oi) (hil : i ≠ last) (hs : succB md ops last = true) (hsel : ∀ (j : Nat) (o : Oper) cs b, ops[j]? = some o → o.op ≠ .select cs b)
    (hQ : ∀ c a w, Q (.panic c) (a.put oi.dst v) w → Q (.panic c) a w) :
    ∀ (fuel : Nat) (listed : Array Bool) (a : Act) (w : World),
      (∀ j oj, ops[j]? = some oj → j ≠ i → listed.getD j true = false → (∀ e ∈ oj.after, Region.binds md e = true → e.on ≠ i) → oi.apart ops oj = true) →
      Inv md ops listed → i ∈ Region.ready md ops listed → YieldsIf P ops S oi v a → S w →
      heldTo P md ops Q S last fuel (listed.setIfInBounds i true) (a.put oi.dst v) w → heldTo P md ops Q S last (fuel + 1) listed a w := by
  intro fuel
  induction fuel with
  | zero =>
    intro listed a w _ _ hr hy hS H
    refine ⟨fun h => (by rw [h] at hr; cases hr), fun j hj => ?_⟩
    by_cases hji : j = i
    · subst hji; exact hy.wpOp hi hS ⟨fun _ => hS, H⟩
    · have := ready_mono hj hji
      rw [H.1] at this
      cases this
  | succ fuel ih =>
    intro listed a w hfree hv hr hy hS H
    refine ⟨fun h => (by rw [h] at hr; cases hr), fun j hj => ?_⟩
    by_cases hji : j = i
    · subst hji; exact hy.wpOp hi hS ⟨fun _ => hS, H⟩
    · have hpend := (mem_ready.1 hr).1
      have hjl : j ≠ last := by
        rintro rfl
        have h1 := last_all hs hv hj (ops.size - i) i (Nat.le_refl _) (Array.getElem?_eq_some_iff.1 hi).1 hil
        rw [Array.getD_eq_getD_getElem?] at h1 hpend
        cases hq : listed[i]? with
        | none => rw [hq] at h1; cases h1
        | some b =>
          rw [hq] at h1 hpend
          simp only [Option.getD_some] at h1 hpend
          rw [h1] at hpend
          cases hpend
      have h1 := H.2 j (ready_mono hj hji)
      obtain ⟨hjun, oj, hoj, hall⟩ := mem_ready.1 hj
      have hnot : ∀ e ∈ oj.after, Region.binds md e = true → e.on ≠ i := fun e he hb heq => by
        have h3 := hall e he hb
        rw [heq, Array.getD_eq_getD_getElem?] at h3
        rw [Array.getD_eq_getD_getElem?] at hpend
        cases hq : listed[i]? with
        | none => rw [hq] at h3; cases h3
        | some b =>
          rw [hq] at h3 hpend
          simp only [Option.getD_some] at h3 hpend
          rw [h3] at hpend
          cases hpend
      have h2 := wpOp_putIf hoj (hfree j oj hoj hji hjun hnot) (fun cs b => hsel i oi cs b hi) (fun cs b => hsel j oj cs b hoj) hQ hy h1
      have hfree' : ∀ k ok, ops[k]? = some ok → k ≠ i → (listed.setIfInBounds j true).getD k true = false → (∀ e ∈ ok.after, Region.binds md e = true → e.on ≠ i) → oi.apart ops ok = true := fun k ok hk hki hun hno => by
        refine hfree k ok hk hki ?_ hno
        by_cases hjk : j = k
        · subst hjk; exact hjun
        · rw [getD_set_ne true hjk] at hun; exact hun
      refine wpOp_mono (fun a' w' h3 => ⟨h3.2.1, ih (listed.setIfInBounds j true) a' w' hfree' (hv.step hj) (ready_mono hr (Ne.symm hji)) h3.1 (h3.2.1 hjl) ?_⟩) h2
      rw [Array.setIfInBounds_comm _ _ hji]
      exact h3.2.2
/-- Take number i first. -/
theorem heldTo_take {i : Nat} {oi : Oper} {v : Value} {fuel : Nat} {listed : Array Bool} {a : Act} {w : World} (hn : Hid (succB md ops last = true)) (hi : ops[i]? = some oi)
    (hs : Region.noSelect ops = true) (hf : Region.free md ops listed i = true) (hr : (Region.ready md ops listed).contains i = true) (hv : invB md ops listed = true) (hl : (i == last) = false)
    (hQ : ∀ c a w, Q (.panic c) (a.put oi.dst v) w → Q (.panic c) a w) (hy : YieldsIf P ops S oi v a) (hS : S w)
    (h : heldTo P md ops Q S last fuel (listed.setIfInBounds i true) (a.put oi.dst v) w) : heldTo P md ops Q S last (fuel + 1) listed a w :=
  heldTo_first hi (by simpa using hl) hn.out (Region.noSelect_spec hs) hQ fuel listed a w (Region.free_spec hi hf) (inv_of hv) (by simpa using hr) hy hS h
/-- One alone may come up. -/
theorem heldTo_one {i : Nat} {o : Oper} {fuel : Nat} {listed : Array Bool} {a : Act} {w : World} (hr : Region.ready md ops listed = [i]) (ho : ops[i]? = some o)
    (h : ∀ K' : Act → World → Prop, Shut (∀ a w, S w → (S w → heldTo P md ops Q S last fuel (listed.setIfInBounds i true) a w) → K' a w) → if Region.wanted o (yielded ops a.tmps) = true then Oper.wp P o a w K' Q else K' (a.put o.dst undef) w) :
    heldTo P md ops Q S last (fuel + 1) listed a w := by
  refine ⟨fun h0 => (by rw [h0] at hr; cases hr), fun j hj => ?_⟩
  rw [hr, List.mem_singleton] at hj
  subst hj
  exact wpOp_step ho fun K' hK => h K' fun a w hS hW => hK a w ⟨fun _ => hS, hW hS⟩
/-- The last one. -/
theorem heldTo_last {o : Oper} {fuel : Nat} {listed : Array Bool} {a : Act} {w : World} (hr : Region.ready md ops listed = [last]) (ho : ops[last]? = some o)
    (h : ∀ K' : Act → World → Prop, Shut (∀ a w, heldTo P md ops Q S last fuel (listed.setIfInBounds last true) a w → K' a w) → if Region.wanted o (yielded ops a.tmps) = true then Oper.wp P o a w K' Q else K' (a.put o.dst undef) w) :
    heldTo P md ops Q S last (fuel + 1) listed a w := by
  refine ⟨fun h0 => (by rw [h0] at hr; cases hr), fun j hj => ?_⟩
  rw [hr, List.mem_singleton] at hj
  subst hj
  exact wpOp_step ho fun K' hK => h K' fun a w hW => hK a w ⟨fun e => absurd rfl e, hW⟩
theorem heldTo_done {listed : Array Bool} {a : Act} {w : World} (hr : Region.ready md ops listed = []) (h : Q .normal a w) : ∀ fuel, heldTo P md ops Q S last fuel listed a w
  | 0 => ⟨hr, h⟩
  | _ + 1 => ⟨fun _ => h, by rw [hr]; simp⟩
theorem wp_region_heldTo {id : Nat} {a : Act} {w : World} (last : Nat) (S : World → Prop) (hm : P.follows .mixedOrders = true) (hn : succB .any ops last = true) (hS : S w.drew)
    (h : Hid (succB .any ops last = true) → S w.drew → heldTo P .any ops Q S last ops.size (Array.replicate ops.size false) a w.drew) : (Code.region id ops true).wp P Q a w :=
  wp_region_any hm (any_of_heldTo _ _ _ _ (h (Lib.hid hn) hS))
end
end Go.Proofs.YtnphgcbknfmapaaGreatDoor
namespace Go.Proofs.YtnphgcbknfmapaaGreatDoor
open Go.RowKit Go.Lib
set_option linter.unusedVariables false
section
variable {P : Program} {ops : Array Oper} {Q : Exit → Act → World → Prop} {md : Region.Mode} {S : World → Prop} {last : Nat}
/-- One of two may come up. -/
theorem heldTo_two {i j : Nat} {o p : Oper} {fuel : Nat} {listed : Array Bool} {a : Act} {w : World} (hr : Region.ready md ops listed = [i, j]) (ho : ops[i]? = some o) (hp : ops[j]? = some p)
    (h1 : ∀ K' : Act → World → Prop, Shut (∀ a w, S w → (S w → heldTo P md ops Q S last fuel (listed.setIfInBounds i true) a w) → K' a w) → if Region.wanted o (yielded ops a.tmps) = true then Oper.wp P o a w K' Q else K' (a.put o.dst undef) w)
    (h2 : ∀ K' : Act → World → Prop, Shut (∀ a w, S w → (S w → heldTo P md ops Q S last fuel (listed.setIfInBounds j true) a w) → K' a w) → if Region.wanted p (yielded ops a.tmps) = true then Oper.wp P p a w K' Q else K' (a.put p.dst undef) w) :
    heldTo P md ops Q S last (fuel + 1) listed a w := by
  refine ⟨fun h0 => (by rw [h0] at hr; cases hr), fun k hk => ?_⟩
  rw [hr] at hk
  rcases List.mem_cons.1 hk with rfl | hk
  · exact wpOp_step ho fun K' hK => h1 K' fun a w hS hW => hK a w ⟨fun _ => hS, hW hS⟩
  · rw [List.mem_singleton] at hk
    subst hk
    exact wpOp_step hp fun K' hK => h2 K' fun a w hS hW => hK a w ⟨fun _ => hS, hW hS⟩
end
end Go.Proofs.YtnphgcbknfmapaaGreatDoor
