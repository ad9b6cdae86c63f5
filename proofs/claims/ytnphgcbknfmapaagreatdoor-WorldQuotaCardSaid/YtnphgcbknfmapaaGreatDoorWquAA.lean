/- Contracts of the functions that the statement reaches, and the plain mathematics beneath: several texts joined. -/
import Derived.Test.YtnphgcbknfmapaaGreatDoorProg
import Derived.Maps.OwnSet
import Derived.Lib.SlKeysI
import Derived.Laws.OwnMore
import Derived.Laws.Rows
import Derived.Below
import Derived.ProofKit
import Derived.Carry
import Derived.WalkSpells
import Derived.Lib.Hide
import Derived.Deep.QuietTactic
import Derived.BigQuiet
import Derived.Test.YtnphgcbknfmapaaGreatDoorRows
import Derived.Stop.LaidErr
import Derived.Lib.LaidTab
import Derived.Test.YtnphgcbknfmapaaGreatDoorTie
import Derived.Test.YtnphgcbknfmapaaGreatDoorCards
import Derived.SevenTiedAt
import Derived.LaidMore
import Derived.Stop.Joined
import Derived.HandedShaped
import Derived.OpenShut
import Derived.ShutString
import Derived.Lay
namespace Go.Proofs.YtnphgcbknfmapaaGreatDoor

/-- A property as an object has it: its name, owner, bits, whether it is as the parent's, its value (a kind, a number, a text; no items). -/
structure SL where
  name : ByteArray
  owner : Int
  bits : Int
  clear : Bool
  kind : Int
  num : Int
  text : ByteArray

/-- An object. -/
structure OB where
  id : Int
  parent : Int
  owner : Int
  place : Int
  flags : Int
  quota : Int
  name : ByteArray
  defs : List ByteArray
  slots : List SL

def getO (l : List OB) (o : Int) : Option OB := l.find? (fun x => x.id == o)
def hasO (l : List OB) (o : Int) : Bool := (getO l o).isSome
def idsO (l : List OB) : List Int := l.map OB.id
def kidsO (l : List OB) (o : Int) : List Int := if hasO l o = true then (l.filter (fun x => x.parent == o)).map OB.id else []
def contO (l : List OB) (o : Int) : List Int := if hasO l o = true then (l.filter (fun x => x.place == o)).map OB.id else []
/-- An object, its parent, and so on, n of them at the most. -/
def abvO (l : List OB) : Nat → Int → List Int
  | 0, _ => []
  | n + 1, o => match getO l o with
    | none => []
    | some x => x.id :: abvO l n x.parent
def aboveO (l : List OB) (o : Int) : List Int := abvO l (l.length + 1) o
/-- An object, otherwise. -/
def updO (l : List OB) (o : Int) (f : OB → OB) : List OB := l.map fun x => if x.id == o then f x else x
def freshO (s : SL) (owner : Int) : SL := ⟨s.name, if s.bits.toNat &&& 4 ≠ 0 then owner else s.owner, s.bits, true, 0, 0, ⟨#[]⟩⟩

/-- The numbers rise. -/
def SortO (l : List OB) : Prop := l.Pairwise fun x y => x.id < y.id

theorem getO_id {l : List OB} {o : Int} {x : OB} (h : getO l o = some x) : x.id = o := by
  have := List.find?_some h
  simpa using this
theorem getO_mem {l : List OB} {o : Int} {x : OB} (h : getO l o = some x) : x ∈ l := List.mem_of_find?_eq_some h
theorem getO_of_mem {l : List OB} (hs : SortO l) {x : OB} (h : x ∈ l) : getO l x.id = some x := by
  unfold SortO at hs
  unfold getO
  induction l with
  | nil => cases h
  | cons y r ih =>
    rw [List.pairwise_cons] at hs
    rw [List.find?_cons]
    rcases List.mem_cons.1 h with rfl | h
    · simp
    · have := hs.1 x h
      have e : (y.id == x.id) = false := by simp; omega
      rw [e]
      exact ih hs.2 h
theorem getO_none {l : List OB} {o : Int} : getO l o = none ↔ ∀ x ∈ l, x.id ≠ o := by
  unfold getO
  rw [List.find?_eq_none]
  simp
theorem hasO_iff {l : List OB} {o : Int} : hasO l o = true ↔ ∃ x ∈ l, x.id = o := by
  unfold hasO
  cases h : getO l o with
  | none => simp; rw [getO_none] at h; exact h
  | some x => simp; exact ⟨x, getO_mem h, getO_id h⟩
theorem hasO_of_get {l : List OB} {o : Int} {x : OB} (h : getO l o = some x) : hasO l o = true := by
  unfold hasO; rw [h]; rfl
/-! A change of one object. -/
theorem updO_ids (l : List OB) (o : Int) (f : OB → OB) (hf : ∀ x, (f x).id = x.id) : idsO (updO l o f) = idsO l := by
  unfold idsO updO
  rw [List.map_map]
  apply List.map_congr_left
  intro x _
  simp only [Function.comp]
  split
  · exact hf x
  · rfl
theorem sortO_ids {l : List OB} : SortO l ↔ (idsO l).Pairwise (· < ·) := by
  unfold SortO idsO
  rw [List.pairwise_map]
theorem SortO.upd {l : List OB} (h : SortO l) (o : Int) (f : OB → OB) (hf : ∀ x, (f x).id = x.id) : SortO (updO l o f) := by
  rw [sortO_ids, updO_ids l o f hf]
  exact sortO_ids.1 h
theorem getO_upd (l : List OB) (o : Int) (f : OB → OB) (hf : ∀ x, (f x).id = x.id) (k : Int) : getO (updO l o f) k = (getO l k).map fun x => if x.id == o then f x else x := by
  unfold getO updO
  rw [List.find?_map]
  congr 1
  congr 1
  funext x
  simp only [Function.comp]
  split
  · rw [hf x]
  · rfl
theorem hasO_upd (l : List OB) (o : Int) (f : OB → OB) (hf : ∀ x, (f x).id = x.id) (k : Int) : hasO (updO l o f) k = hasO l k := by
  unfold hasO
  rw [getO_upd l o f hf]
  cases getO l k <;> rfl

/-! Rows that come to an end: a rank that falls from each object to its parent (or to its place). -/
def AcyP (l : List OB) (next : OB → Int) : Prop := ∃ rk : Int → Nat, ∀ x ∈ l, ∀ p ∈ l, next x = p.id → rk p.id < rk x.id

/-- An object, the next one, and so on. -/
def runO (l : List OB) (next : OB → Int) : Nat → Int → List Int
  | 0, _ => []
  | n + 1, o => match getO l o with
    | none => []
    | some x => x.id :: runO l next n (next x)
/-- Along such a row the ranks fall. -/
theorem run_falls {l : List OB} {next : OB → Int} {rk : Int → Nat} (hr : ∀ x ∈ l, ∀ p ∈ l, next x = p.id → rk p.id < rk x.id) : ∀ (n : Nat) (o : Int), (runO l next n o).Pairwise (fun a b => rk b < rk a) ∧ ∀ a ∈ runO l next n o, rk a ≤ rk o ∧ hasO l a = true
  | 0, _ => by simp [runO]
  | n + 1, o => by
    rw [runO]
    cases h : getO l o with
    | none => simp
    | some x =>
      obtain ⟨ih1, ih2⟩ := run_falls hr n (next x)
      have hx := getO_id h
      simp only [List.pairwise_cons, List.mem_cons]
      have key : ∀ a ∈ runO l next n (next x), rk a < rk x.id := by
        intro a ha
        have h1 := (ih2 a ha).1
        cases hg : getO l (next x) with
        | none =>
          cases n with
          | zero => simp [runO] at ha
          | succ n => rw [runO, hg] at ha; cases ha
        | some p =>
          have := hr x (getO_mem h) p (getO_mem hg) (getO_id hg).symm
          rw [getO_id hg] at this
          omega
      refine ⟨⟨key, ih1⟩, ?_⟩
      rintro a (rfl | ha)
      · exact ⟨by rw [hx]; exact Nat.le_refl _, by rw [hx]; exact hasO_of_get h⟩
      · exact ⟨by have := key a ha; rw [hx] at this; omega, (ih2 a ha).2⟩

theorem nodup_le : ∀ (r s : List Int), r.Nodup → (∀ a ∈ r, a ∈ s) → r.length ≤ s.length
  | [], _, _, _ => Nat.zero_le _
  | a :: r, s, hn, h => by
    rw [List.nodup_cons] at hn
    have ha : a ∈ s := h a (List.mem_cons_self ..)
    have h1 := nodup_le r (s.erase a) hn.2 fun b hb => by
      rw [List.mem_erase_of_ne (fun e => hn.1 (by rw [← e]; exact hb))]
      exact h b (List.mem_cons_of_mem _ hb)
    have h2 := List.length_erase_of_mem ha
    have h3 : 0 < s.length := List.length_pos_of_mem ha
    rw [List.length_cons]
    omega
/-- A row of numbers each once, all of them there, is no longer than the table. -/
theorem nodup_len {l : List OB} {r : List Int} (hn : r.Nodup) (h : ∀ a ∈ r, hasO l a = true) : r.length ≤ l.length := by
  have h1 := nodup_le r (idsO l) hn fun a ha => by
    obtain ⟨x, hx, hxa⟩ := hasO_iff.1 (h a ha)
    rw [← hxa]
    exact List.mem_map_of_mem hx
  simpa [idsO] using h1

theorem run_nodup {l : List OB} {next : OB → Int} (ha : AcyP l next) (n : Nat) (o : Int) : (runO l next n o).Nodup := by
  obtain ⟨rk, hr⟩ := ha
  refine (run_falls hr n o).1.imp ?_
  intro a b h e
  rw [e] at h
  exact Nat.lt_irrefl _ h
theorem run_len {l : List OB} {next : OB → Int} (ha : AcyP l next) (n : Nat) (o : Int) : (runO l next n o).length ≤ l.length := by
  refine nodup_len (run_nodup ha n o) fun a h => ?_
  obtain ⟨rk, hr⟩ := ha
  exact ((run_falls hr n o).2 a h).2
/-- One more step finds nothing more. -/
theorem run_more {l : List OB} {next : OB → Int} : ∀ (n : Nat) (o : Int), (runO l next n o).length < n → ∀ m, n ≤ m → runO l next m o = runO l next n o
  | 0, _, h, _, _ => by simp at h
  | n + 1, o, h, m, hm => by
    obtain ⟨k, rfl⟩ : ∃ k, m = k + 1 := ⟨m - 1, by omega⟩
    rw [runO] at h ⊢
    rw [runO]
    cases hg : getO l o with
    | none => rfl
    | some x =>
      rw [hg] at h
      simp only [List.length_cons] at h
      simp only
      rw [run_more n (next x) (by omega) k (by omega)]
theorem run_enough {l : List OB} {next : OB → Int} (ha : AcyP l next) (o : Int) (n m : Nat) (hn : l.length < n) (hm : l.length < m) : runO l next m o = runO l next n o := by
  have h1 := run_len ha (l.length + 1) o
  rw [run_more (l.length + 1) o (by omega) m (by omega), run_more (l.length + 1) o (by omega) n (by omega)]
/-! What is below an object. -/
theorem mem_kids {l : List OB} {o c : Int} (h : c ∈ kidsO l o) : ∃ x ∈ l, x.id = c ∧ x.parent = o := by
  unfold kidsO at h
  split at h
  · rw [List.mem_map] at h
    obtain ⟨x, hx, rfl⟩ := h
    rw [List.mem_filter] at hx
    exact ⟨x, hx.1, rfl, by simpa using hx.2⟩
  · cases h
theorem kids_of {l : List OB} {o : Int} {x : OB} (hx : x ∈ l) (hp : x.parent = o) (ho : hasO l o = true) : x.id ∈ kidsO l o := by
  unfold kidsO
  rw [if_pos ho, List.mem_map]
  exact ⟨x, List.mem_filter.2 ⟨hx, by simpa using hp⟩, rfl⟩
theorem sortO_nodup {l : List OB} (hs : SortO l) : (idsO l).Nodup := by
  rw [sortO_ids] at hs
  exact hs.imp fun h e => by omega
theorem kids_nodup {l : List OB} (hs : SortO l) (o : Int) : (kidsO l o).Nodup := by
  unfold kidsO
  split
  · exact (sortO_nodup hs).sublist ((List.filter_sublist).map OB.id)
  · exact List.nodup_nil
theorem eq_of_id {l : List OB} (hs : SortO l) {x y : OB} (hx : x ∈ l) (hy : y ∈ l) (h : x.id = y.id) : x = y := by
  have h1 := getO_of_mem hs hx
  have h2 := getO_of_mem hs hy
  rw [h, h2] at h1
  exact (Option.some.inj h1).symm

theorem nodup_inj {r : List Int} (h : r.Nodup) {i j : Nat} {x : Int} (hi : r[i]? = some x) (hj : r[j]? = some x) : i = j := by
  obtain ⟨l1, e1⟩ := List.getElem?_eq_some_iff.1 hi
  obtain ⟨l2, e2⟩ := List.getElem?_eq_some_iff.1 hj
  have hp := List.pairwise_iff_getElem.1 h
  rcases Nat.lt_trichotomy i j with hlt | rfl | hlt
  · exact absurd (e1.trans e2.symm) (hp i j l1 l2 hlt)
  · rfl
  · exact absurd (e2.trans e1.symm) (hp j i l2 l1 hlt)
/-- What holds while the row below an object is made. -/
structure BlInv (l : List OB) (rk : Int → Nat) (o : Int) (i : Nat) (out : List Int) : Prop where
  nod : out.Nodup
  le : i ≤ out.length
  all : ∀ a ∈ out, hasO l a = true ∧ rk o ≤ rk a
  up : ∀ a ∈ out, a = o ∨ ∃ j x, j < i ∧ out[j]? = some x ∧ a ∈ kidsO l x
  down : ∀ (j : Nat) (x c : Int), j < i → out[j]? = some x → c ∈ kidsO l x → c ∈ out
  top : o ∈ out

theorem BlInv.step {l : List OB} {rk : Int → Nat} (hs : SortO l) (hr : ∀ x ∈ l, ∀ p ∈ l, x.parent = p.id → rk p.id < rk x.id) {o : Int} {i : Nat} {out : List Int} (h : BlInv l rk o i out) {x : Int} (hx : out[i]? = some x) : BlInv l rk o (i + 1) (out ++ kidsO l x) := by
  have hi : i < out.length := (List.getElem?_eq_some_iff.1 hx).1
  have hxm : x ∈ out := List.mem_of_getElem? hx
  have hxa := h.all x hxm
  have hkid : ∀ c ∈ kidsO l x, hasO l c = true ∧ rk x < rk c := by
    intro c hc
    obtain ⟨y, hy, rfl, hp⟩ := mem_kids hc
    obtain ⟨z, hz, hzx⟩ := hasO_iff.1 hxa.1
    have := hr y hy z hz (by rw [hp, hzx])
    rw [hzx] at this
    exact ⟨hasO_iff.2 ⟨y, hy, rfl⟩, this⟩
  refine ⟨?_, by rw [List.length_append]; omega, ?_, ?_, ?_, List.mem_append_left _ h.top⟩
  · rw [List.nodup_append]
    refine ⟨h.nod, kids_nodup hs x, ?_⟩
    intro a ha b hb e
    subst e
    have hk := hkid a hb
    rcases h.up a ha with rfl | ⟨j, y, hj, hy, hay⟩
    · have := hxa.2; omega
    · obtain ⟨u, hu, hua, hup⟩ := mem_kids hay
      obtain ⟨v, hv, hva, hvp⟩ := mem_kids hb
      have huv := eq_of_id hs hu hv (by rw [hua, hva])
      rw [huv, hvp] at hup
      rw [← hup] at hy
      have := nodup_inj h.nod hx hy
      omega
  · intro a ha
    rcases List.mem_append.1 ha with ha | ha
    · exact h.all a ha
    · have := hkid a ha
      exact ⟨this.1, by have := hxa.2; omega⟩
  · intro a ha
    rcases List.mem_append.1 ha with ha | ha
    · rcases h.up a ha with e | ⟨j, y, hj, hy, hay⟩
      · exact .inl e
      · exact .inr ⟨j, y, by omega, by rw [List.getElem?_append_left (by omega)]; exact hy, hay⟩
    · exact .inr ⟨i, x, by omega, by rw [List.getElem?_append_left hi]; exact hx, ha⟩
  · intro j y c hj hy hc
    by_cases hji : j < i
    · rw [List.getElem?_append_left (by omega)] at hy
      exact List.mem_append_left _ (h.down j y c hji hy hc)
    · have : j = i := by omega
      subst this
      rw [List.getElem?_append_left hi, hx] at hy
      injection hy with hy
      subst hy
      exact List.mem_append_right _ hc
theorem BlInv.len {l : List OB} {rk : Int → Nat} {o : Int} {i : Nat} {out : List Int} (h : BlInv l rk o i out) : out.length ≤ l.length := nodup_len h.nod fun a ha => (h.all a ha).1

/-! Changes keep rows coming to an end. -/
def rowO (l : List OB) (next : OB → Int) (o : Int) : List Int := runO l next (l.length + 1) o
theorem row_eq {l : List OB} {next : OB → Int} (ha : AcyP l next) {o : Int} {x : OB} (h : getO l o = some x) : rowO l next o = x.id :: rowO l next (next x) := by
  unfold rowO
  rw [← run_enough ha o (l.length + 1) (l.length + 2) (by omega) (by omega), runO, h]
theorem row_none {l : List OB} {next : OB → Int} {o : Int} (h : getO l o = none) : rowO l next o = [] := by
  unfold rowO
  rw [runO, h]
theorem mem_updO {l : List OB} {o : Int} {f : OB → OB} {y : OB} (h : y ∈ updO l o f) : ∃ x ∈ l, (x.id = o ∧ y = f x) ∨ (x.id ≠ o ∧ y = x) := by
  unfold updO at h
  rw [List.mem_map] at h
  obtain ⟨x, hx, hy⟩ := h
  by_cases e : x.id = o
  · rw [if_pos (by simpa using e)] at hy
    exact ⟨x, hx, .inl ⟨e, hy.symm⟩⟩
  · rw [if_neg (by simpa using e)] at hy
    exact ⟨x, hx, .inr ⟨e, hy.symm⟩⟩
theorem acy_set {l : List OB} (hs : SortO l) {next : OB → Int} (ha : AcyP l next) {o p : Int} (f : OB → OB) (hf : ∀ x, (f x).id = x.id) (hn : ∀ x, next (f x) = p) (hp : o ∉ rowO l next p) : AcyP (updO l o f) next := by
  obtain ⟨rk, hr⟩ := ha
  have ha : AcyP l next := ⟨rk, hr⟩
  refine ⟨fun a => if o ∈ rowO l next a then rk a + (rk p + 1) else rk a, ?_⟩
  intro y hy z hz hyz
  obtain ⟨x, hx, hxy⟩ := mem_updO hy
  obtain ⟨u, hu, huz⟩ := mem_updO hz
  have hzid : z.id = u.id := by rcases huz with ⟨_, rfl⟩ | ⟨_, rfl⟩; exact hf u; rfl
  rcases hxy with ⟨hxo, rfl⟩ | ⟨hxo, rfl⟩
  · rw [hn] at hyz
    rw [hf, ← hyz, hxo]
    have ho : o ∈ rowO l next o := by
      rw [← hxo, row_eq ha (getO_of_mem hs hx)]
      exact List.mem_cons_self ..
    simp only [hp, if_false, ho, if_true]
    omega
  · have e := row_eq ha (getO_of_mem hs hx)
    rw [hzid] at hyz ⊢
    have hlt := hr y hx u hu hyz
    simp only [e]
    rw [hyz]
    by_cases hb : o ∈ rowO l next u.id
    · simp only [hb, if_true, List.mem_cons_of_mem]
      omega
    · have : ¬ (o ∈ y.id :: rowO l next u.id) := by
        rw [List.mem_cons]
        rintro (e | e)
        · exact hxo e.symm
        · exact hb e
      simp only [hb, this, if_false]
      exact hlt
/-- Changes that leave the next ones as they are. -/
theorem acy_keep {l : List OB} {next : OB → Int} (ha : AcyP l next) (o : Int) (f : OB → OB) (hf : ∀ x, (f x).id = x.id) (hn : ∀ x, next (f x) = next x) : AcyP (updO l o f) next := by
  obtain ⟨rk, hr⟩ := ha
  refine ⟨rk, ?_⟩
  intro y hy z hz hyz
  obtain ⟨x, hx, hxy⟩ := mem_updO hy
  obtain ⟨u, hu, huz⟩ := mem_updO hz
  have hzid : z.id = u.id := by rcases huz with ⟨_, rfl⟩ | ⟨_, rfl⟩; exact hf u; rfl
  have hyid : y.id = x.id := by rcases hxy with ⟨_, rfl⟩ | ⟨_, rfl⟩; exact hf x; rfl
  have hyn : next y = next x := by rcases hxy with ⟨_, rfl⟩ | ⟨_, rfl⟩; exact hn x; rfl
  rw [hyid, hzid]
  exact hr x hx u hu (by rw [← hyn, hyz, hzid])
/-- Numbers that are new stand behind. -/
theorem acy_snoc {l : List OB} {next : OB → Int} (ha : AcyP l next) {x : OB} (hx : ∀ y ∈ l, y.id ≠ x.id) (hl : ∀ y ∈ l, next y ≠ x.id) (hxx : next x ≠ x.id) : AcyP (l ++ [x]) next := by
  obtain ⟨rk, hr⟩ := ha
  refine ⟨fun a => if a = x.id then rk (next x) + 1 else rk a, ?_⟩
  intro y hy z hz hyz
  simp only [List.mem_append, List.mem_singleton] at hy hz
  rcases hy with hy | rfl
  · rcases hz with hz | rfl
    · simp only [hx y hy, hx z hz, if_false]
      exact hr y hy z hz hyz
    · exact absurd hyz (hl y hy)
  · rcases hz with hz | rfl
    · simp only [hx z hz, if_false, if_true]
      rw [hyz]
      omega
    · exact absurd hyz hxx

/-! A row of changes. -/
end Go.Proofs.YtnphgcbknfmapaaGreatDoor
namespace Go.Proofs.YtnphgcbknfmapaaGreatDoor
open Go.RowKit
set_option linter.unusedVariables false

/-! ### what a change leaves as it was -/
/-- All but blocks of a sort is as it was. -/
structure Chg (S : Nat → Prop) (w w' : World) : Prop where
  os : w'.os = w.os
  tape : w'.tape = w.tape
  output : w'.output = w.output
  size : w.heap.size ≤ w'.heap.size
  block : ∀ k, k < w.heap.size → ¬ S k → w'.heap[k]? = w.heap[k]?
theorem Chg.refl (S : Nat → Prop) (w : World) : Chg S w w := ⟨rfl, rfl, rfl, Nat.le_refl _, fun _ _ _ => rfl⟩
theorem Chg.trans {S : Nat → Prop} {a b c : World} (h : Chg S a b) (k : Chg S b c) : Chg S a c :=
  ⟨k.os.trans h.os, k.tape.trans h.tape, k.output.trans h.output, Nat.le_trans h.size k.size, fun i hi hs => (k.block i (Nat.lt_of_lt_of_le hi h.size) hs).trans (h.block i hi hs)⟩
/-- The later change's sort speaks of blocks that are there at first alone. -/
theorem Chg.trans' {S S' : Nat → Prop} {a b c : World} (h : Chg S a b) (k : Chg S' b c) (hs : ∀ i, i < a.heap.size → S' i → S i) : Chg S a c :=
  ⟨k.os.trans h.os, k.tape.trans h.tape, k.output.trans h.output, Nat.le_trans h.size k.size, fun i hi hn => (k.block i (Nat.lt_of_lt_of_le hi h.size) (fun e => hn (hs i hi e))).trans (h.block i hi hn)⟩
theorem Chg.mono {S S' : Nat → Prop} {a b : World} (h : Chg S a b) (hs : ∀ i, i < a.heap.size → S i → S' i) : Chg S' a b :=
  ⟨h.os, h.tape, h.output, h.size, fun i hi hn => h.block i hi fun e => hn (hs i hi e)⟩
theorem Chg.of_below {S : Nat → Prop} {a b : World} (h : Below a.heap.size a b) : Chg S a b := ⟨h.os, h.tape, h.output, h.size, fun i hi _ => h.block i hi⟩
theorem Chg.below {S : Nat → Prop} {a b : World} (h : Chg S a b) {B : Nat} (hB : B ≤ a.heap.size) (hs : ∀ i, S i → B ≤ i) : Below B a b := ⟨h.os, h.tape, h.output, h.size, fun i hi => h.block i (Nat.lt_of_lt_of_le hi hB) fun e => by have := hs i e; omega⟩
theorem Chg.of_grown {a b : World} {g : Nat} (h : a.grownBy b (some g)) : Chg (fun k => k = g) a b := ⟨h.os, h.tape, h.output, h.size, fun i hi hn => h.block i hi fun e => hn (by injection e)⟩
theorem Chg.set {S : Nat → Prop} (w : World) {p : Addr} (hp : S p.block) (u : Value) : Chg S w (w.setCell p u) := ⟨rfl, rfl, rfl, by simp [World.setCell], fun i _ hn => Below.heap_setCell _ _ _ _ fun e => hn (by rw [e]; exact hp)⟩
theorem Chg.new {S : Nat → Prop} (w : World) (o : Obj) : Chg S w (w.alloc o) := .of_below ((Below.refl _ _).alloc (Nat.le_refl _) _)
theorem Chg.drew {S : Nat → Prop} {a b : World} (h : Chg S a b) : Chg S a b.drew := ⟨h.os, h.tape, h.output, h.size, h.block⟩

/-! ### an object -/
/-- An object and where it lies: its block, its rows of names and properties. -/
structure OM where
  o : OB
  g : Nat
  dv : Value
  sv : Value

def SL.cells (s : SL) : List Value := [.string s.name, .int .i64 s.owner, .int .i64 s.bits, .bool s.clear, .int .i64 s.kind, .int .i64 s.num, .string s.text, .slice none 0 0]
def OM.cells (x : OM) : Array Value := #[.int .i64 x.o.id, .int .i64 x.o.parent, .int .i64 x.o.owner, .int .i64 x.o.place, .int .i64 x.o.flags, .int .i64 x.o.quota, .string x.o.name, x.dv, x.sv, .slice none 0 0]
def OM.blocks (x : OM) : List Nat := x.g :: (x.dv.ownBlock.toList ++ x.sv.ownBlock.toList)
/-- Such an object lies in memory. -/
structure ObjAt (w : World) (B : Nat) (x : OM) : Prop where
  blk : w.heap[x.g]? = some (.cells x.cells 29 (0, 0))
  defs : w.ownsRow B 9 1 x.dv x.o.defs.length (x.o.defs.map Value.string)
  slots : w.ownsRow B 35 8 x.sv x.o.slots.length (x.o.slots.flatMap SL.cells)

theorem OM.mem_blocks {x : OM} {b : Nat} : b ∈ x.blocks ↔ b = x.g ∨ x.dv.ownBlock = some b ∨ x.sv.ownBlock = some b := by
  unfold OM.blocks
  simp [Option.mem_toList]
theorem ownsRow_same {w w' : World} {B : Nat} {e : TypeId} {size : Nat} {v : Value} {n : Nat} {xs : List Value} (h : w.ownsRow B e size v n xs) (hk : ∀ b, v.ownBlock = some b → w'.heap[b]? = w.heap[b]?) : w'.ownsRow B e size v n xs := by
  obtain ⟨h1, h2⟩ := h
  refine ⟨h1, ?_⟩
  rcases h2 with h2 | ⟨g, cap, cur, hv, hg0, hh, r⟩
  · exact .inl h2
  · exact .inr ⟨g, cap, cur, hv, hg0, (hk g (by rw [hv]; rfl)).trans hh, r⟩
theorem ObjAt.keep {w w' : World} {B : Nat} {x : OM} (h : ObjAt w B x) (hk : ∀ b ∈ x.blocks, w'.heap[b]? = w.heap[b]?) : ObjAt w' B x :=
  ⟨(hk _ (OM.mem_blocks.2 (.inl rfl))).trans h.blk, ownsRow_same h.defs fun b hb => hk b (OM.mem_blocks.2 (.inr (.inl hb))), ownsRow_same h.slots fun b hb => hk b (OM.mem_blocks.2 (.inr (.inr hb)))⟩
theorem ObjAt.lt {w : World} {B : Nat} {x : OM} (h : ObjAt w B x) : ∀ b ∈ x.blocks, b < w.heap.size := by
  intro b hb
  rcases OM.mem_blocks.1 hb with rfl | hb | hb
  · exact (Array.getElem?_eq_some_iff.1 h.blk).1
  · exact (h.defs.lt b hb).2
  · exact (h.slots.lt b hb).2
theorem ObjAt.cell {w : World} {B : Nat} {x : OM} (h : ObjAt w B x) (j : Nat) : w.cell? ⟨x.g, j, none⟩ = x.cells[j]? := cell_of_row w x.g j _ _ _ h.blk
theorem ObjAt.free {w : World} {B : Nat} {x : OM} (h : ObjAt w B x) (j : Nat) : w.frozen? ⟨x.g, j, none⟩ = false := frozen_of_row w x.g j _ _ h.blk

/-! ### the map of a table -/
/-- How an element reads: a pointer to an object by its block. -/
def ptrR : Value → Option (DataW Unit × List MemPlace)
  | .pointer none => some (.lit (.int .i64 (-1)), [])
  | .pointer (some ⟨g, 0, none⟩) => some (.lit (.int .i64 (g : Int)), [])
  | _ => none
theorem ptrR_inv {v : Value} {n : Int} {ps : List MemPlace} (h : ptrR v = some (.lit (.int .i64 n), ps)) : (n = -1 ∧ v = .pointer none) ∨ ∃ g : Nat, n = g ∧ v = .pointer (some ⟨g, 0, none⟩) := by
  unfold ptrR at h
  split at h
  · simp at h; exact .inl ⟨h.1.symm, rfl⟩
  · rename_i g
    simp at h; exact .inr ⟨g, h.1.symm, rfl⟩
  · cases h
def datT (T : List OM) : List (Lit × DataW Unit) := T.map fun x => (.int .i64 x.o.id, .lit (.int .i64 (x.g : Int)))
def findT (T : List OM) (o : Int) : Option OM := T.find? fun x => x.o.id == o
def ptrT (T : List OM) (o : Int) : Value := match findT T o with
  | none => .pointer none
  | some x => .pointer (some ⟨x.g, 0, none⟩)
theorem datT_at (T : List OM) (o : Int) : (DataW.map (datT T)).atKey (.int .i64 o) (.lit (.int .i64 (-1))) = .lit (.int .i64 (match findT T o with | none => -1 | some x => (x.g : Int))) := by
  unfold DataW.atKey datT findT
  simp only
  induction T with
  | nil => rfl
  | cons y r ih =>
    rw [List.map_cons, List.find?_cons, List.find?_cons]
    by_cases e : y.o.id = o
    · have e1 : Lit.sameKey (.int .i64 y.o.id) (.int .i64 o) = true := by simp [Lit.sameKey, e]
      have e2 : (y.o.id == o) = true := by simpa using e
      simp only [e1, e2]
    · have e1 : Lit.sameKey (.int .i64 y.o.id) (.int .i64 o) = false := by simp [Lit.sameKey, e]
      have e2 : (y.o.id == o) = false := by simpa using e
      simp only [e1, e2]
      exact ih
theorem insert_end {k : Int} {d : DataW Unit} : ∀ (es : List (Lit × DataW Unit)), (∀ p ∈ es, ∃ a, p.1 = .int .i64 a ∧ a < k) → DataW.insert (.int .i64 k, d) es = es ++ [(.int .i64 k, d)]
  | [], _ => rfl
  | p :: r, h => by
    obtain ⟨a, ha, hlt⟩ := h p (List.mem_cons_self ..)
    have e : (Lit.int .i64 k).before p.1 = false := by rw [ha]; simp [Lit.before]; omega
    rw [DataW.insert, if_neg (by simp [e]), insert_end r fun q hq => h q (List.mem_cons_of_mem _ hq)]
    rfl
theorem datT_put (T : List OM) (x : OM) (h : ∀ y ∈ T, y.o.id < x.o.id) : (DataW.map (datT T)).put (.int .i64 x.o.id) (.lit (.int .i64 (x.g : Int))) = .map (datT (T ++ [x])) := by
  rw [DataW.put_eq]
  unfold ChangeMaps.putKey
  have hm : ∀ p ∈ datT T, ∃ a, p.1 = .int .i64 a ∧ a < x.o.id := by
    intro p hp
    unfold datT at hp
    obtain ⟨y, hy, rfl⟩ := List.mem_map.1 hp
    exact ⟨y.o.id, rfl, h y hy⟩
  have hf : (datT T).filter (ChangeMaps.notKey (.int .i64 x.o.id)) = datT T := by
    rw [List.filter_eq_self]
    intro p hp
    obtain ⟨a, ha, hlt⟩ := hm p hp
    unfold ChangeMaps.notKey
    rw [ha]
    simp [Lit.sameKey]
    omega
  rw [hf, insert_end _ hm]
  simp [datT]
theorem datT_del (T : List OM) (o : Int) : (DataW.map (datT T)).del (.int .i64 o) = .map (datT (T.filter fun x => !(x.o.id == o))) := by
  rw [DataW.del_eq]
  unfold ChangeMaps.delKey datT
  rw [List.filter_map]
  congr 2
  apply List.filter_congr
  intro x _
  by_cases h : x.o.id = o <;> simp [Function.comp, ChangeMaps.notKey, Lit.sameKey, h]
theorem datT_keys (T : List OM) : intKeys (DataW.map (datT T)) = T.map fun x => x.o.id := by
  simp [intKeys, datT, Go.intOf, Function.comp_def]
theorem datT_size (T : List OM) : Maps.size (DataW.map (datT T)) = T.length := by
  simp [Maps.size, datT]
/-! ### the table -/
def obT (T : List OM) : List OB := T.map OM.o
theorem getO_obT (T : List OM) (o : Int) : getO (obT T) o = (findT T o).map OM.o := by
  unfold getO obT findT
  rw [List.find?_map]
  rfl
theorem findT_some {T : List OM} {o : Int} {x : OM} (h : findT T o = some x) : x ∈ T ∧ x.o.id = o := by
  refine ⟨List.mem_of_find?_eq_some h, ?_⟩
  have := List.find?_some h
  simpa using this
theorem findT_has {T : List OM} {o : Int} {x : OM} (h : findT T o = some x) : hasO (obT T) o = true := by
  unfold hasO; rw [getO_obT, h]; rfl
theorem findT_none {T : List OM} {o : Int} (h : findT T o = none) : hasO (obT T) o = false := by
  unfold hasO; rw [getO_obT, h]; rfl

def blkT (T : List OM) : List Nat := T.flatMap OM.blocks
/-- A table lies in memory: its struct at a, its map at m, its objects; no block serves twice. -/
structure Tab (w : World) (B a m : Nat) (T : List OM) (mx : Int) : Prop where
  tab : w.heap[a]? = some (.cells #[.map (some m), .int .i64 mx] 84 (0, 0))
  map : w.ownsMap Tryz.prog 3 ptrR m T.length (.map (datT T))
  objs : ∀ x ∈ T, ObjAt w B x
  sep : (a :: m :: blkT T).Nodup
  base : ∀ b ∈ a :: m :: blkT T, B ≤ b
  sort : SortO (obT T)
  few : T.length ≤ 512
  mxr : -1 ≤ mx ∧ mx < 1073741824
  rng : ∀ x ∈ T, 0 ≤ x.o.id ∧ x.o.id ≤ mx

theorem Tab.lt {w : World} {B a m : Nat} {T : List OM} {mx : Int} (h : Tab w B a m T mx) : ∀ b ∈ a :: m :: blkT T, b < w.heap.size := by
  intro b hb
  rcases List.mem_cons.1 hb with rfl | hb
  · exact (Array.getElem?_eq_some_iff.1 h.tab).1
  rcases List.mem_cons.1 hb with rfl | hb
  · exact h.map.lt
  obtain ⟨x, hx, hb⟩ := List.mem_flatMap.1 hb
  exact (h.objs x hx).lt b hb
theorem ownsMap_same {w w' : World} {P : Program} {k : TypeId} {R : Value → Option (DataW Unit × List MemPlace)} {b n : Nat} {D : DataW Unit} (h : w.ownsMap P k R b n D) (hb : w'.heap[b]? = w.heap[b]?) : w'.ownsMap P k R b n D := by
  obtain ⟨es, clock, h1, r⟩ := h
  exact ⟨es, clock, hb.trans h1, r⟩
theorem ownsMap_size {w : World} {P : Program} {k : TypeId} {R : Value → Option (DataW Unit × List MemPlace)} {b n : Nat} {D : DataW Unit} (h : w.ownsMap P k R b n D) : w.ownsMap P k R b (Maps.size D) D := by
  obtain ⟨es, clock, h1, h2, h3, h4⟩ := h
  refine ⟨es, clock, h1, h2, ?_, h4⟩
  rw [h4]
  simp [Maps.size, length_sorted]
/-- Kept, where its blocks are as they were. -/
theorem Tab.keep {w w' : World} {B a m : Nat} {T : List OM} {mx : Int} (h : Tab w B a m T mx) (hk : ∀ b ∈ a :: m :: blkT T, w'.heap[b]? = w.heap[b]?) : Tab w' B a m T mx :=
  ⟨(hk a (List.mem_cons_self ..)).trans h.tab, ownsMap_same h.map (hk m (List.mem_cons_of_mem _ (List.mem_cons_self ..))), fun x hx => (h.objs x hx).keep fun b hb => hk b (List.mem_cons_of_mem _ (List.mem_cons_of_mem _ (List.mem_flatMap.2 ⟨x, hx, hb⟩))), h.sep, h.base, h.sort, h.few, h.mxr, h.rng⟩
theorem Tab.chg {w w' : World} {B a m : Nat} {T : List OM} {mx : Int} {S : Nat → Prop} (h : Tab w B a m T mx) (hc : Chg S w w') (hs : ∀ b ∈ a :: m :: blkT T, ¬ S b) : Tab w' B a m T mx :=
  h.keep fun b hb => hc.block b (h.lt b hb) (hs b hb)
theorem Tab.below {w w' : World} {B a m : Nat} {T : List OM} {mx : Int} (h : Tab w B a m T mx) (hb : Below w.heap.size w w') : Tab w' B a m T mx :=
  h.keep fun b hk => hb.block b (h.lt b hk)
theorem Tab.alloc {w : World} {B a m : Nat} {T : List OM} {mx : Int} (h : Tab w B a m T mx) (o : Obj) : Tab (w.alloc o) B a m T mx := h.below ((Below.refl _ _).alloc (Nat.le_refl _) _)
theorem Tab.c0 {w : World} {B a m : Nat} {T : List OM} {mx : Int} (h : Tab w B a m T mx) : w.cell? ⟨a, 0, none⟩ = some (.map (some m)) := cell_of_row w a 0 _ _ _ h.tab
theorem Tab.c1 {w : World} {B a m : Nat} {T : List OM} {mx : Int} (h : Tab w B a m T mx) : w.cell? ⟨a, 1, none⟩ = some (.int .i64 mx) := cell_of_row w a 1 _ _ _ h.tab
theorem Tab.fr {w : World} {B a m : Nat} {T : List OM} {mx : Int} (h : Tab w B a m T mx) (j : Nat) : w.frozen? ⟨a, j, none⟩ = false := frozen_of_row w a j _ _ h.tab
theorem Tab.neg {w : World} {B a m : Nat} {T : List OM} {mx : Int} (h : Tab w B a m T mx) : findT T (-1) = none := by
  cases hf : findT T (-1) with
  | none => rfl
  | some x =>
    obtain ⟨hx, e⟩ := findT_some hf
    have := h.rng x hx
    omega

/-- A number of 64 bits. -/
def I64 (o : Int) : Prop := -9223372036854775808 ≤ o ∧ o ≤ 9223372036854775807
theorem I64.wf {o : Int} (h : I64 o) : (Lit.int .i64 o).wf = true := by
  unfold I64 at h
  simp only [Lit.wf, Bool.and_eq_true, decide_eq_true_eq]
  exact h
theorem tkey : Tryz.prog.underlying 3 = some (.int .i64) := by kernel_rfl
theorem tmap : Tryz.prog.underlying 82 = some (.map 3 81) := by kernel_rfl
theorem tzero (w : World) : (zeroValue 81).run Tryz.prog w = .ok (.pointer none) w := by kernel_rfl
theorem tkeyed : Maps.Keyed Tryz.prog 3 := Maps.int_keyed tkey
theorem tkey_of {o : Int} (h : I64 o) : keyOf Tryz.prog 3 (.int .i64 o) = some (.int .i64 o) := Maps.keyOf_int_mk tkey h.wf
/-- What is at a number. -/
theorem Tab.look {w : World} {B a m : Nat} {T : List OM} {mx : Int} (h : Tab w B a m T mx) {o : Int} (ho : I64 o) : (Instr.lookup 82 (.map (some m)) (.int .i64 o) false).run Tryz.prog w = .ok (ptrT T o) w := by
  obtain ⟨v, ps, hrun, hv⟩ := h.map.lookup tkeyed tmap (tzero w) (zd := .lit (.int .i64 (-1))) (zp := []) rfl (tkey_of ho)
  rw [hrun]
  rw [datT_at] at hv
  unfold ptrT
  cases hf : findT T o with
  | none =>
    rw [hf] at hv
    rcases ptrR_inv hv with ⟨_, rfl⟩ | ⟨g, e, rfl⟩
    · rfl
    · simp at e
  | some x =>
    rw [hf] at hv
    rcases ptrR_inv hv with ⟨e, rfl⟩ | ⟨g, e, rfl⟩
    · simp at e
    · simp at e
      show _ = Result.ok (Value.pointer (some ⟨x.g, 0, none⟩)) w
      have e' : x.g = g := by omega
      rw [e']
theorem Tab.len {w : World} {B a m : Nat} {T : List OM} {mx : Int} (h : Tab w B a m T mx) (ty : TypeId) : (Builtin.len_ #[82] ty #[.map (some m)]).run Tryz.prog w = .ok (.int .i64 (T.length : Int)) w := by
  have := h.map.len (ty := ty) tmap
  rw [datT_size] at this
  exact this
end Go.Proofs.YtnphgcbknfmapaaGreatDoor
namespace Go.Proofs.YtnphgcbknfmapaaGreatDoor
open Go.RowKit Go.Lib
set_option linter.unusedVariables false

theorem has_c {w : World} {B a m : Nat} {T : List OM} {mx o : Int} (h : Tab w B a m T mx) (ho : I64 o) :
    Calls Tryz.prog 45 #[.pointer (some ⟨a, 0, none⟩), .int .i64 o] w fun e w' => e = .returned (.bool (hasO (obT T) o)) ∧ w = w' := by
  have c0 := h.c0
  have hl := h.look ho
  cases hf : findT T o with
  | none =>
    rw [findT_none hf]
    unfold ptrT at hl
    rw [hf] at hl
    clear h hf
    go_enter Tryz.func45, Tryz.ntmps45
    go_wp2
    go_ret
    exact ⟨rfl, rfl⟩
  | some x =>
    rw [findT_has hf]
    unfold ptrT at hl
    rw [hf] at hl
    clear h hf
    go_enter Tryz.func45, Tryz.ntmps45
    go_wp2
    go_ret
    exact ⟨rfl, rfl⟩
theorem new_c (w : World) :
    Calls Tryz.prog 17 #[] w fun e w' => e = .returned (.pointer (some ⟨w.heap.size + 1, 0, none⟩)) ∧ Tab w' w.heap.size (w.heap.size + 1) w.heap.size [] (-1) ∧ Below w.heap.size w w' := by
  have hmm := @run_makeMap Tryz.prog
  go_enter Tryz.func17, Tryz.ntmps17
  go_wp2
  go_ret
  refine ⟨rfl, ?_, ((Below.refl _ _).alloc (Nat.le_refl _) _).alloc (by simp) _⟩
  refine ⟨?_, ?_, by simp, by simp [blkT], by simp [blkT], .nil, by simp, by omega, by simp⟩
  · have := heap_alloc_new (w.alloc (.map #[] 0)) (.cells #[.map (some w.heap.size), .int .i64 (-1)] 84)
    simpa using this
  · exact (World.ownsMap_made w _ _ _).alloc _
end Go.Proofs.YtnphgcbknfmapaaGreatDoor
namespace Go.Proofs.YtnphgcbknfmapaaGreatDoor

/-- A table without properties, whose rows come to an end. -/
structure OkT (l : List OB) (mx : Int) : Prop where
  sort : SortO l
  rng : ∀ x ∈ l, 0 ≤ x.id ∧ x.id ≤ mx
  bare : ∀ x ∈ l, x.defs = [] ∧ x.slots = []
  acyP : AcyP l OB.parent
  acyL : AcyP l OB.place
  par : ∀ x ∈ l, x.parent = -1 ∨ hasO l x.parent = true
  plc : ∀ x ∈ l, x.place = -1 ∨ hasO l x.place = true
  mx : -1 ≤ mx

theorem OkT.nil : OkT [] (-1) := ⟨.nil, by simp, by simp, ⟨fun _ => 0, by simp⟩, ⟨fun _ => 0, by simp⟩, by simp, by simp, by omega⟩
theorem OkT.neg {l : List OB} {mx : Int} (h : OkT l mx) : hasO l (-1) = false := by
  cases hh : hasO l (-1) with
  | false => rfl
  | true =>
    obtain ⟨x, hx, e⟩ := hasO_iff.1 hh
    have := h.rng x hx
    omega
theorem hasO_snoc {l : List OB} {x : OB} {o : Int} : hasO (l ++ [x]) o = true ↔ hasO l o = true ∨ x.id = o := by
  simp only [hasO_iff, List.mem_append, List.mem_singleton]
  constructor
  · rintro ⟨y, hy | rfl, e⟩
    · exact .inl ⟨y, hy, e⟩
    · exact .inr e
  · rintro (⟨y, hy, e⟩ | e)
    · exact ⟨y, .inl hy, e⟩
    · exact ⟨x, .inr rfl, e⟩

/-- An object that is new. -/
def newO (mx p ow : Int) (ss : List SL) : OB := ⟨mx + 1, p, if ow = -1 then mx + 1 else ow, -1, 0, 0, ⟨#[]⟩, [], ss⟩
theorem OkT.create {l : List OB} {mx : Int} (h : OkT l mx) (p ow : Int) (hp : p = -1 ∨ hasO l p = true) : OkT (l ++ [newO mx p ow []]) (mx + 1) := by
  have hm := h.mx
  have hid : (newO mx p ow []).id = mx + 1 := rfl
  have hne : ∀ y ∈ l, y.id ≠ (newO mx p ow []).id := fun y hy e => by have := h.rng y hy; rw [hid] at e; omega
  have hno : hasO l (mx + 1) = false := by
    cases hh : hasO l (mx + 1) with
    | false => rfl
    | true =>
      obtain ⟨x, hx, e⟩ := hasO_iff.1 hh
      exact absurd e (hne x hx)
  have hpn : p ≠ mx + 1 := by
    rcases hp with rfl | hp
    · omega
    · intro e; rw [e, hno] at hp; cases hp
  refine ⟨?_, ?_, ?_, acy_snoc h.acyP hne ?_ hpn, acy_snoc h.acyL hne ?_ ?_, ?_, ?_, by omega⟩
  · unfold SortO
    rw [List.pairwise_append]
    refine ⟨h.sort, List.pairwise_singleton _ _, ?_⟩
    intro x hx y hy
    rw [List.mem_singleton] at hy
    subst hy
    have := (h.rng x hx).2
    rw [hid]
    omega
  · intro x hx
    rcases List.mem_append.1 hx with hx | hx
    · have := h.rng x hx; omega
    · rw [List.mem_singleton] at hx
      subst hx
      rw [hid]
      omega
  · intro x hx
    rcases List.mem_append.1 hx with hx | hx
    · exact h.bare x hx
    · rw [List.mem_singleton] at hx
      subst hx
      exact ⟨rfl, rfl⟩
  · intro y hy e
    rw [hid] at e
    rcases h.par y hy with h1 | h1
    · omega
    · rw [e, hno] at h1; cases h1
  · intro y hy e
    rw [hid] at e
    rcases h.plc y hy with h1 | h1
    · omega
    · rw [e, hno] at h1; cases h1
  · show (-1 : Int) ≠ mx + 1
    omega
  · intro x hx
    rcases List.mem_append.1 hx with hx | hx
    · exact (h.par x hx).imp id fun h1 => hasO_snoc.2 (.inl h1)
    · rw [List.mem_singleton] at hx
      subst hx
      exact hp.imp id fun h1 => hasO_snoc.2 (.inl h1)
  · intro x hx
    rcases List.mem_append.1 hx with hx | hx
    · exact (h.plc x hx).imp id fun h1 => hasO_snoc.2 (.inl h1)
    · rw [List.mem_singleton] at hx
      subst hx
      exact .inl rfl

/-! Another parent, another place. -/
def setP (p : Int) (x : OB) : OB := { x with parent := p }
def setL (p : Int) (x : OB) : OB := { x with place := p }
theorem OkT.chparent {l : List OB} {mx : Int} (h : OkT l mx) {o p : Int} (hp : p = -1 ∨ hasO l p = true) (hi : o ∉ rowO l OB.parent p) : OkT (updO l o (setP p)) mx := by
  have hid : ∀ x, (setP p x).id = x.id := fun _ => rfl
  refine ⟨h.sort.upd o _ hid, ?_, ?_, acy_set h.sort h.acyP _ hid (fun _ => rfl) hi, acy_keep h.acyL o _ hid (fun _ => rfl), ?_, ?_, h.mx⟩
  · intro y hy
    obtain ⟨x, hx, ⟨_, rfl⟩ | ⟨_, rfl⟩⟩ := mem_updO hy
    · exact h.rng x hx
    · exact h.rng y hx
  · intro y hy
    obtain ⟨x, hx, ⟨_, rfl⟩ | ⟨_, rfl⟩⟩ := mem_updO hy
    · exact h.bare x hx
    · exact h.bare y hx
  · intro y hy
    rw [hasO_upd l o _ hid]
    obtain ⟨x, hx, ⟨_, rfl⟩ | ⟨_, rfl⟩⟩ := mem_updO hy
    · exact hp
    · exact h.par y hx
  · intro y hy
    rw [hasO_upd l o _ hid]
    obtain ⟨x, hx, ⟨_, rfl⟩ | ⟨_, rfl⟩⟩ := mem_updO hy
    · exact h.plc x hx
    · exact h.plc y hx
theorem OkT.move {l : List OB} {mx : Int} (h : OkT l mx) {o p : Int} (hp : p = -1 ∨ hasO l p = true) (hi : o ∉ rowO l OB.place p) : OkT (updO l o (setL p)) mx := by
  have hid : ∀ x, (setL p x).id = x.id := fun _ => rfl
  refine ⟨h.sort.upd o _ hid, ?_, ?_, acy_keep h.acyP o _ hid (fun _ => rfl), acy_set h.sort h.acyL _ hid (fun _ => rfl) hi, ?_, ?_, h.mx⟩
  · intro y hy
    obtain ⟨x, hx, ⟨_, rfl⟩ | ⟨_, rfl⟩⟩ := mem_updO hy
    · exact h.rng x hx
    · exact h.rng y hx
  · intro y hy
    obtain ⟨x, hx, ⟨_, rfl⟩ | ⟨_, rfl⟩⟩ := mem_updO hy
    · exact h.bare x hx
    · exact h.bare y hx
  · intro y hy
    rw [hasO_upd l o _ hid]
    obtain ⟨x, hx, ⟨_, rfl⟩ | ⟨_, rfl⟩⟩ := mem_updO hy
    · exact h.par x hx
    · exact h.par y hx
  · intro y hy
    rw [hasO_upd l o _ hid]
    obtain ⟨x, hx, ⟨_, rfl⟩ | ⟨_, rfl⟩⟩ := mem_updO hy
    · exact hp
    · exact h.plc y hx

/-! An object gone. -/
def delO (l : List OB) (o : Int) : List OB := l.filter fun x => !(x.id == o)
/-- What is told of the others. -/
def gone (o p : Int) (x : OB) : OB := { x with parent := if x.parent = o then p else x.parent, place := if x.place = o then -1 else x.place }
theorem cont_of {l : List OB} {o : Int} {x : OB} (hx : x ∈ l) (hp : x.place = o) (ho : hasO l o = true) : x.id ∈ contO l o := by
  unfold contO
  rw [if_pos ho, List.mem_map]
  exact ⟨x, List.mem_filter.2 ⟨hx, by simpa using hp⟩, rfl⟩
theorem mem_delO {l : List OB} {o : Int} {x : OB} : x ∈ delO l o ↔ x ∈ l ∧ x.id ≠ o := by
  unfold delO
  rw [List.mem_filter]
  simp
theorem hasO_del {l : List OB} {o k : Int} : hasO (delO l o) k = true ↔ hasO l k = true ∧ k ≠ o := by
  simp only [hasO_iff, mem_delO]
  constructor
  · rintro ⟨x, ⟨hx, hn⟩, rfl⟩
    exact ⟨⟨x, hx, rfl⟩, hn⟩
  · rintro ⟨⟨x, hx, rfl⟩, hn⟩
    exact ⟨x, ⟨hx, hn⟩, rfl⟩
end Go.Proofs.YtnphgcbknfmapaaGreatDoor
namespace Go.Proofs.YtnphgcbknfmapaaGreatDoor

end Go.Proofs.YtnphgcbknfmapaaGreatDoor
namespace Go.Proofs.YtnphgcbknfmapaaGreatDoor
open Go.ChangeShapes Go.WideShapes Go.ChangeAt Go.RowKit Go.Lib
open Go.ChangeMaps (open_string shut_string)
set_option linter.unusedVariables false

theorem own_knob : ownKnob Tryz.prog.godebug = none := by kernel_rfl

/-- The kit's wrap with a condition, the world's shape kept. -/
theorem handed_and_shaped {H : Type} {enc : TypeId × Value → H} {a : Assume} {C : Checked} {os : Os} {f : FuncId} {fn : Func} {s : ChangeSpec} {conds : List PathCond} {apart fresh handsOn again : Bool} {X : World → Array Value → Prop}
    (hX : ∀ (w w' : World) (args : Array Value), w.heap = w'.heap → X w args → X w' args)
    (own : ownKnob C.prog.godebug = none) (started : os.Started) (noInit : C.prog.inits.idxOf? f = none) (hfn : C.prog.funcs[f]? = some fn)
    (witness : ∃ (w : World) (tape : Tape) (i : Input), w.os = os ∧ (w.forCall tape i).Shaped C.prog ∧ i.vars = [] ∧ Input.okWide C.prog (w.forCall tape i) .any w.heap.size f i ∧
      ((s.pre enc C.prog fn conds apart (w.forCall tape i).memory i.args ∧ X (w.forCall tape i).memory i.args) ∧ sizedMet enc C.prog fn (OpenSpec.ofChange s) apart (w.forCall tape i).memory i.args) ∧ a.holds C.prog (lone (Frame.enter C.prog f i.args .normal) [] (w.forCall tape i)))
    (contract : ∀ (W : World) (base : Nat) (args : Array Value) (ds gs : List (DataW H)) (before : List MemPlace),
      (∀ (j : Nat) t v, fn.params[j]? = some t → args[j]? = some v → Value.okWide C.prog W .any base t v) →
      DataW.Whole enc C.prog fn.params.toList s.vars apart W args.toList ds gs before →
      (DataW.weightsEach C.prog (fn.params.toList ++ s.plain.varTypes C.prog) (ds ++ gs)).all (· ≤ reachBytes) = true → X W args → W.ShapedOpen C.prog →
      Calls C.prog f args W fun e W' => ∃ v, e = .returned v ∧ s.post enc C.prog fn apart fresh handsOn again W args v W') :
    ReturnsInHanded a C os f .any (fun w args => (s.pre enc C.prog fn conds apart w args ∧ X w args) ∧ sizedMet enc C.prog fn (OpenSpec.ofChange s) apart w args) (s.post enc C.prog fn apart fresh handsOn again) := by
  refine returnsInHanded_of_calls own started noInit witness ?_
  intro w tape i _ hsh _ hok hpre hholds
  obtain ⟨_, _, _, fn', hfn', _, _, _, _, hval⟩ := hok
  have e : fn' = fn := Option.some.inj (hfn'.symm.trans hfn)
  subst e
  obtain ⟨⟨⟨ds, gs, before, hw, hc⟩, hx⟩, hz⟩ := hpre
  have hw' := DataW.Whole.of_heap (w' := w.forCall tape i) (by rfl) hw
  refine (contract (w.forCall tape i) w.heap.size i.args ds gs before hval hw' (hz.weights hw) (hX _ _ _ (by rfl) hx) hsh).mono fun e W' ⟨v, he, hp⟩ => ?_
  subst he
  exact ChangeSpec.post_blind hp

end Go.Proofs.YtnphgcbknfmapaaGreatDoor
