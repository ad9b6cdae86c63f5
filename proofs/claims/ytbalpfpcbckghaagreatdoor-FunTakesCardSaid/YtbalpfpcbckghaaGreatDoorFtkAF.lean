/- Contracts of the functions that the statement reaches, and the plain mathematics beneath: several texts joined. -/
import Derived.Lib.SmallJoins
import Derived.Lib.AppendIntMem
import Derived.Lib.ReplaceLaws
import Derived.Lib.Join
import Derived.Deep.RegionLaw
import Derived.Deep.AppendLies
import Derived.Shelf.GgClosure.Gives
import Derived.Sort.Grow
import Derived.Sort.Row
import Derived.Maps.AppendAt
import Derived.Deep.RegionHeld3
import Derived.StillTailTactics
import Derived.IntWalk
import Derived.Test.YtbalpfpcbckghaaGreatDoorFtkAD
import Derived.Test.YtbalpfpcbckghaaGreatDoorShelf
import Derived.Test.YtbalpfpcbckghaaGreatDoorFtkAB
import Derived.Test.YtbalpfpcbckghaaGreatDoorFtkAC
import Derived.Test.YtbalpfpcbckghaaGreatDoorFtkAA
import Derived.Test.YtbalpfpcbckghaaGreatDoorFtkAE
namespace Go.Proofs.YtbalpfpcbckghaaGreatDoor
open Go.RowKit Go.Lib
set_option linter.unusedVariables false

end Go.Proofs.YtbalpfpcbckghaaGreatDoor
namespace Go.Proofs.YtbalpfpcbckghaaGreatDoor
open Go.RowKit Go.Lib
set_option linter.unusedVariables false

/-- What strconv's package-level variables hold. -/
structure StrcAt (w : World) : Prop where
  syn : ∃ te pe, w.cell? ⟨10, 0, none⟩ = some (.iface te pe)
  rng : ∃ te pe, w.cell? ⟨11, 0, none⟩ = some (.iface te pe)
  tab : TabIs Tryz.prog w "internal/strconv.uint64pow10" .u64 pow10Tab
  room : 14 < w.heap.size
theorem StrcAt.below {w w' : World} {B : Nat} (h : StrcAt w) (hb : Below B w w') (hB : w.heap.size ≤ B) : StrcAt w' := by
  have hk : ∀ p : Addr, p.block < w.heap.size → w'.cell? p = w.cell? p := fun p hp => World.cell?_of_block (w := w) (hb.block p.block (by omega))
  have hr := h.room
  obtain ⟨t1, p1, h1⟩ := h.syn
  obtain ⟨t2, p2, h2⟩ := h.rng
  exact ⟨⟨t1, p1, (hk ⟨10, 0, none⟩ (Nat.lt_trans (by decide) hr)).trans h1⟩, ⟨t2, p2, (hk ⟨11, 0, none⟩ (Nat.lt_trans (by decide) hr)).trans h2⟩, Joins.tab_stays (g := 7) rfl h.tab hb hB, by have := hb.size; omega⟩

end Go.Proofs.YtbalpfpcbckghaaGreatDoor
namespace Go.Proofs.YtbalpfpcbckghaaGreatDoor
open Go.RowKit Go.Lib
set_option linter.unusedVariables false

end Go.Proofs.YtbalpfpcbckghaaGreatDoor
namespace Go.Proofs.YtbalpfpcbckghaaGreatDoor
open Go.RowKit Go.Lib
set_option linter.unusedVariables false

end Go.Proofs.YtbalpfpcbckghaaGreatDoor
namespace Go.Proofs.YtbalpfpcbckghaaGreatDoor
open Go.RowKit Go.Lib
set_option linter.unusedVariables false

/-- How much values take. -/
def cost : VL → Int
  | .nil => 0
  | .cons k n s sub rest => 1 + mOf k s + cost sub + cost rest
theorem cost_ge : ∀ l : VL, 0 ≤ cost l
  | .nil => Int.le_refl _
  | .cons k n s sub rest => by have := cost_ge sub; have := cost_ge rest; have := mOf_ge k s; rw [cost]; omega
/-- All numbers are of 64 bits. -/
def VL.i64 : VL → Prop
  | .nil => True
  | .cons _ n _ sub rest => -9223372036854775808 ≤ n ∧ n ≤ 9223372036854775807 ∧ sub.i64 ∧ rest.i64
end Go.Proofs.YtbalpfpcbckghaaGreatDoor
namespace Go.Proofs.YtbalpfpcbckghaaGreatDoor
open Go.RowKit Go.Lib
set_option linter.unusedVariables false

end Go.Proofs.YtbalpfpcbckghaaGreatDoor
namespace Go.Proofs.YtbalpfpcbckghaaGreatDoor
open Go.RowKit Go.Lib
set_option linter.unusedVariables false

end Go.Proofs.YtbalpfpcbckghaaGreatDoor
namespace Go.Proofs.YtbalpfpcbckghaaGreatDoor
open Go.RowKit Go.Lib
set_option linter.unusedVariables false

end Go.Proofs.YtbalpfpcbckghaaGreatDoor
namespace Go.Proofs.YtbalpfpcbckghaaGreatDoor
open Go.RowKit Go.Lib
set_option linter.unusedVariables false

/-- How many bytes from a place on are of a sort; with fuel. -/
def runN (s : ByteArray) (p : UInt8 → Bool) : Nat → Nat → Nat
  | 0, _ => 0
  | f + 1, i => if i < s.size ∧ p (pk s i) = true then runN s p f (i + 1) + 1 else 0
def run (s : ByteArray) (p : UInt8 → Bool) (i : Nat) : Nat := runN s p (s.size + 1) i
/-- What one word is: an error, or a word of so many bytes. -/
inductive WR where
  | bad (c : Nat)
  | word (n : Nat) (t : Tok)

end Go.Proofs.YtbalpfpcbckghaaGreatDoor
namespace Go.Proofs.YtbalpfpcbckghaaGreatDoor
open Go.RowKit Go.Lib
set_option linter.unusedVariables false

section
variable {w w' : World} {R : Nat} {s : ByteArray} {i : Nat} {line : Int} {v : Value}
end

end Go.Proofs.YtbalpfpcbckghaaGreatDoor
namespace Go.Proofs.YtbalpfpcbckghaaGreatDoor
open Go.RowKit Go.Lib
set_option linter.unusedVariables false

end Go.Proofs.YtbalpfpcbckghaaGreatDoor
namespace Go.Proofs.YtbalpfpcbckghaaGreatDoor
open Go.RowKit Go.Lib Go.Sort
set_option linter.unusedVariables false

theorem sort_const {a b : List (List UInt8)} (hp : b.Perm a) (hs : b.Pairwise (fun x y => decide (x ≤ y) = true)) : a.mergeSort (fun x y => decide (x ≤ y)) = b := by
  have h1 : (a.mergeSort (fun x y => decide (x ≤ y))).Perm b := (List.mergeSort_perm a _).trans hp.symm
  refine List.Perm.eq_of_pairwise (le := fun x y : List UInt8 => decide (x ≤ y) = true) ?_ ?_ hs h1
  · intro x y _ _ h1 h2
    exact List.le_antisymm (of_decide_eq_true h1) (of_decide_eq_true h2)
  · refine List.pairwise_mergeSort ?_ ?_ a
    · intro x y z h1 h2; exact decide_eq_true (List.le_trans (of_decide_eq_true h1) (of_decide_eq_true h2))
    · intro x y
      rw [Bool.or_eq_true]
      rcases List.le_total x y with h | h
      · exact .inl (decide_eq_true h)
      · exact .inr (decide_eq_true h)

/-- Texts that lie in a row. -/
def StrsAt (w : World) (g : Nat) (l : List ByteArray) : Prop := ∀ j, j < l.length → w.cell? ⟨g, 0 + j, none⟩ = some (.string (l.getD j ByteArray.empty))
theorem StrsAt.below {w w' : World} {g : Nat} {l : List ByteArray} {B : Nat} (h : StrsAt w g l) (hb : Below B w w') (hg : g < B) : StrsAt w' g l := fun j hj => (hb.cell (p := ⟨g, 0 + j, none⟩) hg).trans (h j hj)

/-- What sorting leaves. -/
theorem sorted_at {w w' : World} {g n : Nat} {os : Array Obj} {ss : List (List UInt8)} {l : List ByteArray} (hH : Holds encStr w g 0 ss.toArray) (hg : g < w.heap.size)
    (hl : ss.mergeSort (fun x y => decide (x ≤ y)) = l.map (·.data.toList)) (he : w' = grow (putRow encStr (Sort.ahead w n) g 0 (ss.mergeSort fun x y => decide (x ≤ y)).toArray) os) :
    StrsAt w' g l ∧ Below g w w' := by
  have hsz : (ss.mergeSort fun x y => decide (x ≤ y)).toArray.size = ss.toArray.size := by simp
  have hh := holds_putRow encStr (Sort.ahead w n) g 0 ss.toArray (ss.mergeSort fun x y => decide (x ≤ y)).toArray (holds_ahead _ _ _ _ _ _ hH) hsz
  have hlt : g < (putRow encStr (Sort.ahead w n) g 0 (ss.mergeSort fun x y => decide (x ≤ y)).toArray).heap.size := by
    have : (putRow encStr (Sort.ahead w n) g 0 (ss.mergeSort fun x y => decide (x ≤ y)).toArray).heap.size = w.heap.size := by unfold putRow mapBlock Sort.ahead; simp
    omega
  have hg' := holds_grow encStr _ os g 0 _ hlt hh
  rw [← he] at hg'
  refine ⟨fun j hj => ?_, ?_⟩
  · have := (hg' j (by rw [hl]; simpa using hj)).1
    rw [this, hl]
    congr 1
    unfold encStr
    congr 1
    rw [List.getElem!_toArray]
    rw [getElem!_pos _ _ (by simpa using hj), List.getElem_map, List.getD_eq_getElem?_getD, List.getElem?_eq_getElem hj]
    rfl
  · rw [he]
    refine ⟨rfl, rfl, rfl, ?_, fun k hk => ?_⟩
    · unfold grow putRow mapBlock Sort.ahead; simp
    · unfold grow putRow mapBlock Sort.ahead
      simp only
      rw [Array.getElem?_append_left (by simp; omega), Array.getElem?_modify, if_neg (by omega)]

theorem ascii_all {l : List UInt8} (h : l.all (fun b => decide (b.toNat < 128)) = true) : ∀ (j : Nat) b, l[j]? = some b → b.toNat < 128 := fun j b hb =>
  of_decide_eq_true (List.all_eq_true.1 h b (List.mem_of_getElem? hb))
abbrev SpaceAt (w : World) : Prop := Lib.TabIs Tryz.prog w "strings.asciiSpace" .u8 Lib.asciiSpaceTab

/-- A row of texts that the call owns, as sorting asks for it. -/
theorem holds_own {w : World} {base g n cap : Nat} {ss : List (List UInt8)} (h : w.ownsRow base 9 1 (.slice (some ⟨g, 0, none⟩) n cap) n (ss.map fun l => Value.string ⟨l.toArray⟩)) : Holds encStr w g 0 ss.toArray := by
  intro j hj
  have hj' : j < ss.length := by simpa using hj
  have hc := h.cells (g := g) rfl j (.string ⟨(ss[j]).toArray⟩) (by simp [hj'])
  have hadd : (⟨g, 0, none⟩ : Addr).add j = ⟨g, j, none⟩ := by unfold Addr.add; split <;> simp_all
  rw [hadd] at hc
  refine ⟨by rw [Nat.zero_add, hc]; simp [hj', encStr], ?_⟩
  rcases h.2 with ⟨e, _⟩ | ⟨g', cap', cur, e, _, hh, _⟩
  · cases e
  · injection e with e _ _; injection e with e; injection e with e _ _; subst e
    unfold World.frozen?; rw [hh]; simp
end Go.Proofs.YtbalpfpcbckghaaGreatDoor
namespace Go.Proofs.YtbalpfpcbckghaaGreatDoor
open Go.RowKit Go.Lib
set_option linter.unusedVariables false

/-- The variable of the strings' search. -/
def MaxAt (w : World) : Prop := ∃ m : Int, w.cell? ⟨4, 0, none⟩ = some (.int .i64 m)
theorem MaxAt.below {w w' : World} {B : Nat} (h : MaxAt w) (hb : Below B w w') (hB : 14 ≤ B) : MaxAt w' := by
  obtain ⟨m, hm⟩ := h
  exact ⟨m, (World.cell?_of_block (w := w) (hb.block _ (Nat.lt_of_lt_of_le (by decide) hB))).trans hm⟩
/-- What a value's text asks of the world. -/
structure TxAt (w : World) : Prop where
  tab : TabIs Tryz.prog w "internal/strconv.uint64pow10" .u64 pow10Tab
  room : 14 < w.heap.size
  mx : MaxAt w
theorem TxAt.below {w w' : World} {B : Nat} (h : TxAt w) (hb : Below B w w') (hB : w.heap.size ≤ B) : TxAt w' :=
  ⟨Joins.tab_stays (g := 7) rfl h.tab hb hB, by have := hb.size; have := h.room; omega, h.mx.below hb (by have := h.room; omega)⟩
theorem str_info : (Tryz.prog.info? 9).map (fun i => (i.zero, i.size, i.bytes)) = some (some (.string ⟨#[]⟩), 1, 16) := by kernel_rfl
def strs (l : List (List UInt8)) : List Value := l.map fun x => Value.string ⟨x.toArray⟩
theorem strs_snoc {W : World} {base : Nat} {v : Value} {l : List (List UInt8)} {y : List UInt8} (h : W.ownsRow base 9 1 v (l.length + 1) (strs l ++ [.string ⟨y.toArray⟩])) : W.ownsRow base 9 1 v (l ++ [y]).length (strs (l ++ [y])) := by
  have e1 : (l ++ [y]).length = l.length + 1 := by simp
  have e2 : strs (l ++ [y]) = strs l ++ [.string ⟨y.toArray⟩] := by simp [strs]
  rw [e1, e2]; exact h
theorem own_below {W W' : World} {base e size n : Nat} {v : Value} {xs : List Value} (h : W.ownsRow base e size v n xs) (hb : Below W.heap.size W W') : W'.ownsRow base e size v n xs := by
  refine ⟨h.1, ?_⟩
  rcases h.2 with h0 | ⟨g, cap, cur, hv, hb1, hh, r⟩
  · exact .inl h0
  · have hlt : g < W.heap.size := by
      rcases Nat.lt_or_ge g W.heap.size with hlt | hge
      · exact hlt
      · rw [Array.getElem?_eq_none hge] at hh; cases hh
    exact .inr ⟨g, cap, cur, hv, hb1, (hb.block g hlt).trans hh, r⟩
end Go.Proofs.YtbalpfpcbckghaaGreatDoor
namespace Go.Proofs.YtbalpfpcbckghaaGreatDoor
open Go.RowKit Go.Lib
set_option linter.unusedVariables false

theorem tab_keep {P : Program} {w w' : World} {n : String} {g : Nat} {k : IntKind} {zs : List Int} (hg : P.globalNamed n = some g) (h : TabIs P w n k zs) (e : w'.heap[g]? = w.heap[g]?) : TabIs P w' n k zs := by
  unfold TabIs World.var? at *
  rw [hg] at h ⊢
  simp only [Option.bind_some] at h ⊢
  rw [e]; exact h
/-- What lex asks of the variables. -/
structure LxEnv (w : World) (ea : Nat → Addr) : Prop where
  err : ErrsAt w ea
  spc : SpaceAt w
  str : StrcAt w
theorem LxEnv.below {w w' : World} {ea : Nat → Addr} {B : Nat} (h : LxEnv w ea) (hb : Below B w w') (hB : 14 ≤ B) : LxEnv w' ea := by
  have hk : ∀ p : Addr, p.block < 14 → w'.cell? p = w.cell? p := fun p hp => World.cell?_of_block (w := w) (hb.block p.block (by omega))
  obtain ⟨t1, p1, h1⟩ := h.str.syn
  obtain ⟨t2, p2, h2⟩ := h.str.rng
  refine ⟨h.err.below hb hB, tab_keep (g := 1) rfl h.spc (hb.block _ (Nat.lt_of_lt_of_le (by decide) hB)), ⟨⟨t1, p1, (hk ⟨10, 0, none⟩ (by decide)).trans h1⟩, ⟨t2, p2, (hk ⟨11, 0, none⟩ (by decide)).trans h2⟩, tab_keep (g := 7) rfl h.str.tab (hb.block _ (Nat.lt_of_lt_of_le (by decide) hB)), ?_⟩⟩
  have := h.str.room; have := hb.size; omega

theorem below_drewN {B : Nat} {w w' : World} (h : Below B w w') (n : Nat) : Below B w (w'.drewN n) := ⟨h.os, h.tape, h.output, h.size, h.block⟩
section
variable {w w' : World} {g : Nat} {a b c d e f h : Value}
end
end Go.Proofs.YtbalpfpcbckghaaGreatDoor
namespace Go.Proofs.YtbalpfpcbckghaaGreatDoor
open Go.RowKit Go.Lib
set_option linter.unusedVariables false

/-- What fun's functions lean on in memory. -/
structure FnEnv (w : World) : Prop where
  spc : SpaceAt w
  mx : MaxAt w
  room : 14 < w.heap.size
theorem FnEnv.below {w w' : World} {B : Nat} (h : FnEnv w) (hb : Below B w w') (hB : 14 ≤ B) : FnEnv w' :=
  ⟨tab_keep (g := 1) rfl h.spc (hb.block _ (Nat.lt_of_lt_of_le (by decide) hB)), h.mx.below hb hB, by have := h.room; have := hb.size; omega⟩
/-- A row of functions, as text and as data. -/
structure RowOk (T : List UInt8) (E : List (List UInt8 × List UInt8)) : Prop where
  fl : Lib.fields T = E.map joinE
  asc : T.all (fun b => decide (b.toNat < 128)) = true
  len : T.length < 100000
  ct : ∀ e ∈ E, Lib.cut (joinE e) [58] = (e.1, e.2, true)
  els : ∀ e ∈ E, (joinE e).length < 1000
  en : E.length < 1000
theorem pures_ok : RowOk puresT pureE := ⟨pures_fields, by decide +kernel, by decide +kernel, List.map_inj_left.1 pures_cut, by decide +kernel, by decide +kernel⟩
theorem others_ok : RowOk othersT otherE := ⟨others_fields, by decide +kernel, by decide +kernel, List.map_inj_left.1 others_cut, by decide +kernel, by decide +kernel⟩
theorem ba_size (l : List UInt8) : (⟨l.toArray⟩ : ByteArray).size = l.length := by show l.toArray.size = _; simp
theorem name_eqL {l : List UInt8} {s : ByteArray} (h : l = s.data.toList) : (l == s.toList) = true := by rw [Lib.toList_data, h, beq_iff_eq]
theorem name_neL {l : List UInt8} {s : ByteArray} (h : ¬ l = s.data.toList) : (l == s.toList) = false := by rw [Lib.toList_data, beq_eq_false_iff_ne]; exact h
theorem findP_cons (e : List UInt8 × List UInt8) (r : List (List UInt8 × List UInt8)) (nm : List UInt8) : findP (e :: r) nm = if e.1 = nm then (e.2, true) else findP r nm := rfl
/-- A row of texts, just made. -/
theorem rowE_cell (w : World) (E : List (List UInt8 × List UInt8)) (i : Nat) (e : List UInt8 × List UInt8) (h : E[i]? = some e) :
    (w.alloc (.cells ((E.map joinE).map fun l => Value.string ⟨l.toArray⟩).toArray 9)).cell? ⟨w.heap.size, i, none⟩ = some (.string ⟨(joinE e).toArray⟩) := by
  rw [cell_of_row _ _ i _ _ _ (heap_alloc_new w _)]
  simp [h]

set_option maxRecDepth 100000 in
set_option maxHeartbeats 2000000 in
theorem find_c {T : List UInt8} {E : List (List UInt8 × List UInt8)} (hr : RowOk T E) (name : ByteArray) (w : World) (he : FnEnv w) :
    Calls Tryz.prog 47 #[.string ⟨T.toArray⟩, .string name] w fun e w' => e = .returned (.tuple #[.string ⟨(findP E name.data.toList).1.toArray⟩, .bool (findP E name.data.toList).2]) ∧ Below w.heap.size w w' := by
  have hroom := he.room
  have FK : Hid (Calls Tryz.prog 37 #[.string ⟨T.toArray⟩] w fun e w' => e = .returned (.slice (some ⟨w.heap.size, 0, none⟩) E.length E.length) ∧ w.alloc (.cells ((E.map joinE).map fun l => Value.string ⟨l.toArray⟩).toArray 9) = w') := Lib.hid (by
    refine (Tryz.strings_Fields_laid ⟨T.toArray⟩ w (by rw [ba_size]; have := hr.len; omega) (ascii_all (l := T) hr.asc) he.spc).mono ?_
    rintro e w' ⟨rfl, rfl⟩
    rw [show (⟨T.toArray⟩ : ByteArray).data.toList = T from by simp, hr.fl, List.length_map]
    exact ⟨rfl, rfl⟩)
  obtain ⟨w1, hw1⟩ : ∃ w1, w1 = w.alloc (.cells ((E.map joinE).map fun l => Value.string ⟨l.toArray⟩).toArray 9) := ⟨_, rfl⟩
  have hz : w1.heap.size = w.heap.size + 1 := by rw [hw1]; simp
  have hb : Below w.heap.size w w1 := by rw [hw1]; exact (Below.refl _ _).alloc (Nat.le_refl _) _
  have HC := Lib.hid (show ∀ i e, E[i]? = some e → w1.cell? ⟨w.heap.size, i, none⟩ = some (.string ⟨(joinE e).toArray⟩) by rw [hw1]; exact rowE_cell w E)
  rw [← hw1] at FK
  obtain ⟨res, hres⟩ : ∃ res, res = findP E name.data.toList := ⟨_, rfl⟩
  rw [← hres]
  have HR := Lib.hid hres
  have HRO := Lib.hid hr
  have HB := Lib.hid hb
  have HE := Lib.hid (fun W (hW : Below w.heap.size w W) => he.below hW (by omega))
  have hen := hr.en
  clear hw1 hb hres hr he
  go_enter Tryz.func47, Tryz.ntmps47
  go_wp2_with fail
  refine FK.out.mono ?_
  rintro e w2 ⟨rfl, rfl⟩
  go_wp2_with fail
  go_loopg [14] E.length (fun kk iv wr => ∃ i : Nat, iv = .int .i64 (i : Int) ∧ i + kk = E.length ∧ Hid (Below w1.heap.size w1 wr) ∧ Hid (findP (E.drop i) name.data.toList = res))
  case atStart => exact ⟨0, rfl, by omega, Below.refl _ _, by rw [HR.out]; rfl⟩
  case round =>
    obtain ⟨i, rfl, hk, hbw, hq⟩ := hrel
    by_cases hi : i < E.length
    · obtain ⟨kk, rfl⟩ : ∃ kk, gk = kk + 1 := ⟨gk - 1, by omega⟩
      obtain ⟨e, hE⟩ : ∃ e, E[i]? = some e := ⟨_, List.getElem?_eq_getElem hi⟩
      have hem : e ∈ E := List.mem_of_getElem? hE
      have hcx : wr.cell? ⟨w.heap.size, i, none⟩ = some (.string ⟨(joinE e).toArray⟩) := (hbw.out.cell (p := ⟨w.heap.size, i, none⟩) (by show w.heap.size < _; omega)).trans (HC.out i e hE)
      have hqq := hq.out
      rw [show E.drop i = e :: E.drop (i + 1) from by rw [List.drop_eq_getElem_cons hi]; rw [List.getElem?_eq_getElem hi] at hE; injection hE with hE; rw [hE], findP_cons] at hqq
      have hbW := HB.out.trans (below_le' hbw.out HB.out.size)
      obtain ⟨m, hm⟩ := (HE.out wr hbW).mx
      have CC := Lib.hid (Tryz.strings_Cut ⟨(joinE e).toArray⟩ ⟨#[58]⟩ m wr (by rw [ba_size]; have := HRO.out.els e hem; omega) hm)
      rw [show (⟨(joinE e).toArray⟩ : ByteArray).data.toList = joinE e from by simp, show (⟨#[58]⟩ : ByteArray).data.toList = [58] from rfl, HRO.out.ct e hem] at CC
      have HBW := Lib.hid hbw.out
      by_cases hn : e.1 = name.data.toList
      · have hb1 := name_eqL hn
        rw [if_pos hn] at hqq
        have HQ := Lib.hid hqq
        clear hq hqq hbw hbW hm hn
        go_wp2_with fail
        refine CC.out.mono ?_
        rintro e' w2 ⟨rfl, n, rfl⟩
        go_wp2_with fail
        go_returns
        refine ⟨by rw [← HQ.out]; rfl, ?_⟩
        exact HB.out.trans (below_le' (below_drewN HBW.out _) HB.out.size)
      · have hb1 := name_neL hn
        rw [if_neg hn] at hqq
        have HQ := Lib.hid hqq
        clear hq hqq hbw hbW hm hn
        go_wp2_with fail
        refine CC.out.mono ?_
        rintro e' w2 ⟨rfl, n, rfl⟩
        go_wp2_with fail
        go_roundg kk
        case measure => omega
        case rel => exact ⟨i + 1, by go_num, by omega, Lib.hid (below_drewN HBW.out _), HQ⟩
    · have hiE : i = E.length := by omega
      have hqq := hq.out
      rw [List.drop_eq_nil_of_le (by omega)] at hqq
      have HQ := Lib.hid (show res = ([], false) from hqq.symm)
      have HBW := Lib.hid hbw.out
      clear hq hqq hbw
      go_wp2_with fail
      go_returns
      refine ⟨by rw [HQ.out]; rfl, HB.out.trans (below_le' HBW.out HB.out.size)⟩

set_option maxRecDepth 100000 in
theorem pures_c (w : World) : Calls Tryz.prog 38 #[] w fun e w' => e = .returned (.string ⟨puresT.toArray⟩) ∧ w = w' := by
  go_enter Tryz.func38, Tryz.ntmps38
  go_wp2_with fail
  go_ret
  exact ⟨rfl, rfl⟩
set_option maxRecDepth 100000 in
theorem others_c (w : World) : Calls Tryz.prog 39 #[] w fun e w' => e = .returned (.string ⟨othersT.toArray⟩) ∧ w = w' := by
  go_enter Tryz.func39, Tryz.ntmps39
  go_wp2_with fail
  go_ret
  exact ⟨rfl, rfl⟩

set_option maxHeartbeats 1000000 in
theorem pure_c (name : ByteArray) (w : World) (he : FnEnv w) :
    Calls Tryz.prog 26 #[.string name] w fun e w' => e = .returned (.bool (pureP name.data.toList)) ∧ Below w.heap.size w w' := by
  have FC := Lib.hid (find_c pures_ok name w he)
  have PC := Lib.hid (pures_c w)
  obtain ⟨T, hT⟩ : ∃ T : ByteArray, T = ⟨puresT.toArray⟩ := ⟨_, rfl⟩
  rw [← hT] at FC PC
  obtain ⟨a, ha⟩ : ∃ a : ByteArray, a = ⟨(findP pureE name.data.toList).1.toArray⟩ := ⟨_, rfl⟩
  rw [← ha] at FC
  have e : pureP name.data.toList = (findP pureE name.data.toList).2 := rfl
  rw [e]
  obtain ⟨b, hb⟩ : ∃ b, b = (findP pureE name.data.toList).2 := ⟨_, rfl⟩
  rw [← hb] at FC ⊢
  clear hT ha hb he e
  go_enter Tryz.func26, Tryz.ntmps26
  go_wp2_with fail
  refine PC.out.mono ?_
  rintro e w1 ⟨rfl, rfl⟩
  go_wp2_with fail
  refine FC.out.mono ?_
  rintro e w2 ⟨rfl, hb2⟩
  have HB2 := Lib.hid hb2
  clear hb2
  go_wp2_with fail
  go_ret
  exact ⟨rfl, HB2.out⟩

set_option maxHeartbeats 2000000 in
theorem args_c (name : ByteArray) (w : World) (he : FnEnv w) :
    Calls Tryz.prog 42 #[.string name] w fun e w' => e = .returned (.tuple #[.string ⟨(argsP name.data.toList).1.toArray⟩, .bool (argsP name.data.toList).2]) ∧ Below w.heap.size w w' := by
  have hroom := he.room
  have FC := Lib.hid (find_c pures_ok name w he)
  have GC := Lib.hid (fun W (hW : Below w.heap.size w W) => find_c others_ok name W (he.below hW (by omega)))
  have PC := Lib.hid (pures_c w)
  have OC := Lib.hid others_c
  obtain ⟨T, hT⟩ : ∃ T : ByteArray, T = ⟨puresT.toArray⟩ := ⟨_, rfl⟩
  rw [← hT] at FC PC
  obtain ⟨T2, hT2⟩ : ∃ T : ByteArray, T = ⟨othersT.toArray⟩ := ⟨_, rfl⟩
  rw [← hT2] at GC OC
  have e : argsP name.data.toList = if (findP pureE name.data.toList).2 then findP pureE name.data.toList else findP otherE name.data.toList := rfl
  rw [e]
  obtain ⟨p, hp⟩ : ∃ p, p = findP pureE name.data.toList := ⟨_, rfl⟩
  obtain ⟨q, hq⟩ : ∃ q, q = findP otherE name.data.toList := ⟨_, rfl⟩
  rw [← hp] at FC ⊢
  rw [← hq] at GC ⊢
  clear hT hT2 hp hq he e
  obtain ⟨p1, p2⟩ := p
  obtain ⟨q1, q2⟩ := q
  cases p2 with
  | true =>
    go_enter Tryz.func42, Tryz.ntmps42
    go_wp2_with fail
    refine PC.out.mono ?_
    rintro e w1 ⟨rfl, rfl⟩
    go_wp2_with fail
    refine FC.out.mono ?_
    rintro e w2 ⟨rfl, hb2⟩
    have HB2 := Lib.hid hb2
    clear hb2
    go_wp2_with fail
    go_returns
    exact ⟨rfl, HB2.out⟩
  | false =>
    go_enter Tryz.func42, Tryz.ntmps42
    go_wp2_with fail
    refine PC.out.mono ?_
    rintro e w1 ⟨rfl, rfl⟩
    go_wp2_with fail
    refine FC.out.mono ?_
    rintro e w2 ⟨rfl, hb2⟩
    have HB2 := Lib.hid hb2
    have GC2 := Lib.hid (GC.out w2 hb2)
    clear hb2 GC
    go_wp2_with fail
    refine (OC.out _).mono ?_
    rintro e w3 ⟨rfl, rfl⟩
    go_wp2_with fail
    refine GC2.out.mono ?_
    rintro e w4 ⟨rfl, hb4⟩
    have HB4 := Lib.hid (HB2.out.trans (below_le' hb4 HB2.out.size))
    clear hb4 GC2
    go_wp2_with fail
    go_returns
    exact ⟨rfl, HB4.out⟩
end Go.Proofs.YtbalpfpcbckghaaGreatDoor
namespace Go.Proofs.YtbalpfpcbckghaaGreatDoor
open Go.RowKit Go.Lib
set_option linter.unusedVariables false

end Go.Proofs.YtbalpfpcbckghaaGreatDoor
namespace Go.Proofs.YtbalpfpcbckghaaGreatDoor
open Go.RowKit Go.Lib
set_option linter.unusedVariables false

theorem grown_below {B : Nat} {w w1 w2 : World} {row : Option Nat} (h : Below B w w1) (hz : B ≤ w1.heap.size) (hg : w1.grownBy w2 row) (hr : ∀ k, row = some k → B ≤ k) : Below B w w2 :=
  ⟨hg.os.trans h.os, hg.tape.trans h.tape, hg.output.trans h.output, Nat.le_trans h.size hg.size,
   fun k hk => (hg.block k (by omega) (fun e => by have := hr k e.symm; omega)).trans (h.block k hk)⟩
theorem cost_drop : ∀ (i : Nat) (l : VL), cost (l.drop i) ≤ cost l
  | 0, l => by rw [VL.drop]; exact Int.le_refl _
  | i + 1, .nil => Int.le_refl _
  | i + 1, .cons k n s sub r => by have := cost_drop i r; have := cost_ge sub; have := mOf_ge k s; rw [VL.drop, cost]; omega
theorem len_cost : ∀ l : VL, (l.len : Int) ≤ cost l
  | .nil => Int.le_refl _
  | .cons k n s sub r => by have := len_cost r; have := cost_ge sub; have := mOf_ge k s; rw [VL.len, cost]; omega

end Go.Proofs.YtbalpfpcbckghaaGreatDoor
namespace Go.Proofs.YtbalpfpcbckghaaGreatDoor
open Go.RowKit Go.Lib
set_option linter.unusedVariables false

theorem rp_at {w : World} {l : VL} {A : Option Addr} {S : Nat → Prop} {i : Nat} (h : RpL w S l A) (hi : i < l.len) : ∃ (b o : Nat) (k n : Int) (s : ByteArray) (sub : VL) (sa : Option Addr) (sc : Nat), A = some ⟨b, o, none⟩ ∧ l.drop i = .cons k n s sub (l.drop (i + 1)) ∧ S b ∧
    w.cell? ⟨b, o + i * 4, none⟩ = some (.int .i64 k) ∧ w.cell? ⟨b, o + i * 4 + 1, none⟩ = some (.int .i64 n) ∧ w.cell? ⟨b, o + i * 4 + 2, none⟩ = some (.string s) ∧ w.cell? ⟨b, o + i * 4 + 3, none⟩ = some (.slice sa sub.len sc) ∧ sub.len ≤ sc ∧ RpL w S sub sa ∧ sub.size < l.size := by
  obtain ⟨k, n, s, sub, hd⟩ := VL.drop_of_lt i l hi
  obtain ⟨b, o, hA⟩ : ∃ b o, A = some ⟨b, o, none⟩ := by
    cases l with
    | nil => simp [VL.len] at hi
    | cons _ _ _ _ _ => obtain ⟨b, o, _, _, h, _⟩ := h; exact ⟨b, o, h⟩
  subst hA
  have hdr := RpL.drop i l b o h
  rw [hd] at hdr
  obtain ⟨b', o', sa', sc', hA, hSb, c0, c1, c2, c3, hcl, hrs, _⟩ := hdr
  injection hA with hA
  injection hA with hA1 hA2
  subst hA1
  subst hA2
  have hszd := VL.size_drop i l
  rw [hd] at hszd
  simp only [VL.size] at hszd
  rw [Nat.mul_comm 4 i] at c0 c1 c2 c3
  exact ⟨b, o, k, n, s, sub, sa', sc', rfl, hd, hSb, c0, c1, c2, c3, hcl, hrs, by omega⟩

end Go.Proofs.YtbalpfpcbckghaaGreatDoor
namespace Go.Proofs.YtbalpfpcbckghaaGreatDoor
open Go.RowKit Go.Lib
set_option linter.unusedVariables false

/-- A row of values of the call's own. -/
structure CInv (base : Nat) (w0 wr : World) (V : Value) (acc : VL) (xs : List Value) : Prop where
  own : wr.ownsRow base 24 4 V acc.len xs
  cells : CellsOf wr (fun b => base ≤ b ∧ b < wr.heap.size ∧ V.ownBlock ≠ some b) acc xs
  below : Below base w0 wr
  size : base ≤ wr.heap.size
theorem CInv.nil (w : World) : CInv w.heap.size w w (.slice none 0 0) .nil [] := ⟨World.ownsRow_nil _ _ _ _, rfl, Below.refl _ _, Nat.le_refl _⟩
theorem CInv.move {base : Nat} {w0 wr w' : World} {V : Value} {acc : VL} {xs : List Value} (h : CInv base w0 wr V acc xs) (hb : Below wr.heap.size wr w') : CInv base w0 w' V acc xs :=
  ⟨own_below h.own hb, h.cells.keep (fun b hb' => hb.block b hb'.2.1) (fun b hb' => ⟨hb'.1, Nat.lt_of_lt_of_le hb'.2.1 hb.size, hb'.2.2⟩), h.below.trans (below_le' hb h.size), Nat.le_trans h.size hb.size⟩
theorem CInv.step {base : Nat} {w0 wr w3 w5 : World} {V V' : Value} {acc : VL} {xs : List Value} (h : CInv base w0 wr V acc xs) (hb : Below wr.heap.size wr w3)
    {k n : Int} {t : ByteArray} {sub : VL} {sa : Option Addr} {sc : Nat} (hsc : sub.len ≤ sc) (hrep : RpL w3 (fun b => wr.heap.size ≤ b ∧ b < w3.heap.size) sub sa) {o1 : Obj}
    (hown : w5.ownsRow base 24 4 V' (acc.len + 1) (xs ++ [.int .i64 k, .int .i64 n, .string t, .slice sa sub.len sc])) (hg : (w3.alloc o1).grownBy w5 V.ownBlock)
    (hob : V'.ownBlock = V.ownBlock ∨ V'.ownBlock = some (w3.alloc o1).heap.size) :
    CInv base w0 w5 V' (acc.app (val1 k n t sub)) (xs ++ [.int .i64 k, .int .i64 n, .string t, .slice sa sub.len sc]) := by
  have h3 := h.move hb
  have hVg : ∀ g, V.ownBlock = some g → base ≤ g ∧ g < wr.heap.size := fun g hg => ⟨own_ge h.own g hg, own_lt h.own g hg⟩
  have hsz : (w3.alloc o1).heap.size = w3.heap.size + 1 := by simp
  have hz5 : w3.heap.size + 1 ≤ w5.heap.size := by have := hg.size; omega
  have hz3 := hb.size
  have hz0 := h.size
  have blk : ∀ b, b < w3.heap.size → V.ownBlock ≠ some b → w5.heap[b]? = w3.heap[b]? := fun b hb hne => by
    have h1 := hg.block b (by omega) (fun e => hne e.symm)
    rw [h1, Below.heap_alloc _ _ _ hb]
  have hV'b : ∀ b, b < w3.heap.size → V.ownBlock ≠ some b → V'.ownBlock ≠ some b := fun b hb hne e => by
    rcases hob with e2 | e2
    · exact hne (e2.symm.trans e)
    · rw [e] at e2
      injection e2 with e2
      omega
  refine ⟨by rw [VL.len_app]; exact hown, ?_, ?_, by omega⟩
  · refine CellsOf.app _ _ _ _ ?_ ⟨sa, sc, [], rfl, hsc, ?_, rfl⟩
    · exact h3.cells.keep (fun b hb => blk b hb.2.1 hb.2.2) (fun b hb => ⟨hb.1, by have := hb.2.1; omega, hV'b b hb.2.1 hb.2.2⟩)
    · have hne : ∀ b, wr.heap.size ≤ b → V.ownBlock ≠ some b := fun b hb e => by have := (hVg b e).2; omega
      exact hrep.keep (fun b hb => blk b hb.2 (hne b hb.1)) (fun b hb => ⟨by have := hb.1; omega, by have := hb.2; omega, hV'b b hb.2 (hne b hb.1)⟩)
  · exact grown_below (h3.below.alloc h3.size o1) (by simp; omega) hg (fun k hk => (hVg k hk).1)
/-- What the row reads as. -/
theorem CInv.rep {base : Nat} {w0 wr : World} {V : Value} {acc : VL} {xs : List Value} (h : CInv base w0 wr V acc xs) : ∃ (sa : Option Addr) (sc : Nat), V = .slice sa acc.len sc ∧ acc.len ≤ sc ∧ RpL wr (fun b => base ≤ b ∧ b < wr.heap.size) acc sa :=
  own_rep h.own (h.cells.keep (fun _ _ => rfl) (fun b hb => ⟨hb.1, hb.2.1⟩)) (fun g hg => ⟨own_ge h.own g hg, own_lt h.own g hg⟩)

/-- A copy comes out. -/
def PCopy (w : World) (k n : Int) (s : ByteArray) (sub : VL) (e : Ending) (w' : World) : Prop :=
  ∃ (sa : Option Addr) (sc : Nat), e = .returned (.agg #[.int .i64 k, .int .i64 n, .string s, .slice sa sub.len sc]) ∧ sub.len ≤ sc ∧ RpL w' (fun b => w.heap.size ≤ b ∧ b < w'.heap.size) sub sa ∧ Below w.heap.size w w'

theorem clone_end {w wr : World} {k n : Int} {s : ByteArray} {sub : VL} {bv : Value} {sb : Option Addr} {cb : Nat} (hb : Below w.heap.size w wr) (hz : w.heap.size + 2 ≤ wr.heap.size) (hr : StB wr (w.heap.size + 1) (.int .i64 0) (.int .i64 0) (.string ⟨#[]⟩) (.slice none 0 0))
    (hbv : bv = .slice sb sub.len cb) (hcb : sub.len ≤ cb) (hrb : RpL wr (fun b => w.heap.size + 2 ≤ b ∧ b < wr.heap.size) sub sb) :
    StB (((((wr.setCell ⟨w.heap.size, 3, none⟩ bv).setCell ⟨w.heap.size + 1, 0, none⟩ (.int .i64 k)).setCell ⟨w.heap.size + 1, 1, none⟩ (.int .i64 n)).setCell ⟨w.heap.size + 1, 2, none⟩ (.string s)).setCell ⟨w.heap.size + 1, 3, none⟩ bv) (w.heap.size + 1) (.int .i64 k) (.int .i64 n) (.string s) bv ∧
    PCopy w k n s sub (.returned (.agg #[.int .i64 k, .int .i64 n, .string s, bv])) (((((wr.setCell ⟨w.heap.size, 3, none⟩ bv).setCell ⟨w.heap.size + 1, 0, none⟩ (.int .i64 k)).setCell ⟨w.heap.size + 1, 1, none⟩ (.int .i64 n)).setCell ⟨w.heap.size + 1, 2, none⟩ (.string s)).setCell ⟨w.heap.size + 1, 3, none⟩ bv) := by
  have hr' : StB (wr.setCell ⟨w.heap.size, 3, none⟩ bv) (w.heap.size + 1) (.int .i64 0) (.int .i64 0) (.string ⟨#[]⟩) (.slice none 0 0) := hr.far (by show w.heap.size + 1 ≠ w.heap.size; omega) _
  have hz1 : (wr.setCell ⟨w.heap.size, 3, none⟩ bv).heap.size = wr.heap.size := by simp [World.setCell]
  have hb1 : Below w.heap.size w (wr.setCell ⟨w.heap.size, 3, none⟩ bv) := Below.setCell hb (show w.heap.size ≤ (⟨w.heap.size, 3, none⟩ : Addr).block from Nat.le_refl _) _
  have hrb1 : RpL (wr.setCell ⟨w.heap.size, 3, none⟩ bv) (fun b => w.heap.size + 2 ≤ b ∧ b < wr.heap.size) sub sb := hrb.keep (fun c hc => Below.heap_setCell _ _ _ _ (by show c ≠ w.heap.size; omega)) (fun c hc => hc)
  exact ⟨hr'.set4 _ _ _ _, sb, cb, by rw [hbv], hcb, hrb1.keep (fun c hc => heap_set4 _ _ _ _ _ _ _ (by omega)) (fun c hc => ⟨by omega, by rw [size_set4, hz1]; exact hc.2⟩), below_set4 hb1 (by omega) _ _ _ _⟩

def CloneC (N : Nat) : Prop := ∀ (k n : Int) (s : ByteArray) (sub : VL) (sa : Option Addr) (sc : Nat) (w : World), sub.size < N → cost sub ≤ 100000 → sub.len ≤ sc → RpL w (fun b => b < w.heap.size) sub sa →
  Calls Tryz.prog 32 #[.agg #[.int .i64 k, .int .i64 n, .string s, .slice sa sub.len sc]] w (PCopy w k n s sub)

set_option maxRecDepth 100000 in
set_option maxHeartbeats 4000000 in
theorem clone_step (N : Nat) (ih : ∀ N', N' < N → CloneC N') : CloneC N := by
  intro k n s sub sa sc w hN hcost hsc hrep
  obtain ⟨i0, hi0, hz0, hz1, hz2⟩ := info_parts val_info
  obtain ⟨wa, hwa⟩ : ∃ wa, wa = (w.alloc (.cells #[.int .i64 k, .int .i64 n, .string s, .slice sa sub.len sc] 24)).alloc (.cells #[.int .i64 0, .int .i64 0, .string ⟨#[]⟩, .slice none 0 0] 24) := ⟨_, rfl⟩
  have hba : Below w.heap.size w wa := by rw [hwa]; exact ((Below.refl _ _).alloc (Nat.le_refl _) _).alloc (by simp) _
  have hwz : wa.heap.size = w.heap.size + 2 := by rw [hwa]; simp
  have hV : StB wa w.heap.size (.int .i64 k) (.int .i64 n) (.string s) (.slice sa sub.len sc) := by rw [hwa]; exact (StB.new w _ _ _ _).alloc _
  have hR : StB wa (w.heap.size + 1) (.int .i64 0) (.int .i64 0) (.string ⟨#[]⟩) (.slice none 0 0) := by
    rw [hwa]; have := StB.new (w.alloc (.cells #[.int .i64 k, .int .i64 n, .string s, .slice sa sub.len sc] 24)) (.int .i64 0) (.int .i64 0) (.string ⟨#[]⟩) (.slice none 0 0)
    simpa using this
  have v3 := hV.c3
  rw [hwa] at v3
  have HV := Lib.hid hV
  have HR := Lib.hid hR
  have HB := Lib.hid hba
  have HWA := Lib.hid hwa
  have HWZ := Lib.hid hwz
  have HRP := Lib.hid (hrep.keep (w' := wa) (fun b hb => hba.block b hb) (fun b hb => hb))
  have C0 := CInv.nil wa
  have hln := len_cost sub
  clear hba hV hR hwa hwz hrep
  go_enter Tryz.func32, Tryz.ntmps32
  go_wp2_with fail
  rw [← HWA.out]
  clear v3
  go_loopg [3, 9] sub.len (fun kk ov v wr => ∃ (bv : Value) (i : Nat) (xs : List Value), bv = ov ∧ v = .int .i64 i ∧ i + kk = sub.len ∧ Hid (CInv wa.heap.size wa wr bv (sub.take i) xs))
  case atStart => exact ⟨.slice none 0 0, 0, [], rfl, rfl, by omega, by show CInv _ _ _ _ (sub.take 0) _; rw [VL.take]; exact C0⟩
  case round =>
    obtain ⟨bv, i, xs, rfl, rfl, hik, hC⟩ := hrel
    have hbr := hC.out.below
    have hrz := hC.out.size
    have hwz := HWZ.out
    by_cases hi : i < sub.len
    · obtain ⟨g, rfl⟩ : ∃ g, gk = g + 1 := ⟨gk - 1, by omega⟩
      obtain ⟨b, o, k', n', s', sub', sa', sc', hA, hd, hSb, c0, c1, c2, c3, hcl, hrs, hszd⟩ := rp_at (HRP.out.keep (w' := wr) (fun b hb => hbr.block b (by omega)) (fun b hb => hb)) hi
      have hts := Lib.hid (VL.take_succ i sub k' n' s' sub' hd)
      have hcd := cost_drop i sub
      rw [hd, cost] at hcd
      have hcr := cost_ge (sub.drop (i + 1))
      have hmm := mOf_ge k' s'
      have htl : (sub.take i).len ≤ 100000 := by
        have h2 : (sub.take i).len + (sub.drop i).len = sub.len := by rw [← VL.len_app, VL.take_app_drop]
        omega
      obtain ⟨wx, hwx⟩ : ∃ wx, wx = wr.alloc (.cells #[.int .i64 k', .int .i64 n', .string s', .slice sa' sub'.len sc'] 24) := ⟨_, rfl⟩
      have hbx : Below wr.heap.size wr wx := by rw [hwx]; exact (Below.refl _ _).alloc (Nat.le_refl _) _
      have hxz : wx.heap.size = wr.heap.size + 1 := by rw [hwx]; simp
      have IHC := Lib.hid (ih (sub'.size + 1) (by omega) k' n' s' sub' sa' sc' wx (by omega) (by omega) hcl (hrs.keep (fun b hb => hbx.block b (by omega)) (fun b hb => by omega)))
      have CX := Lib.hid (hC.out.move hbx)
      have HSA := Lib.hid hA
      have HWX := Lib.hid hwx
      subst hA
      clear hrs hd hcd hwx hbx hbr
      go_wp2_with fail
      rw [← HWX.out]
      refine IHC.out.mono ?_
      rintro e w3 ⟨sb, cb, rfl, hcb, hrb, hb3⟩
      have C3 := Lib.hid (CX.out.move hb3)
      have HB3 := Lib.hid hb3
      have HRB := Lib.hid hrb
      have h3z := hb3.size
      clear hb3 hrb c0 c1 c2 c3
      go_wp2_with (at_builtin; refine wpList_append_own_at _ rfl (.tmp 13) (.tmp 16) 22 rfl wa.heap.size 24 i0 _ 4 56 Tryz.underlying22 hi0 hz0 hz1 hz2 rfl (by decide) bv (sub.take i).len xs rfl (own_below C3.out.own ((Below.refl _ _).alloc (Nat.le_refl _) _)) ⟨w3.heap.size, 0, none⟩ 1 1 [.int .i64 k', .int .i64 n', .string s', .slice sb sub'.len cb] rfl rfl ?c1 ?c2 ?c3 ?c4 ?c5 ?c6
                   case c1 => exact cell_four_new w3 _ rfl _ _ _ _ _
                   case c2 => intro u hu; simp at hu; rcases hu with rfl | rfl | rfl | rfl <;> rfl
                   case c3 => unfold maxLen; omega
                   case c4 => omega
                   case c5 => simp; omega
                   intro V' w5 hown' hgrow _ hob
                   have ST := Lib.hid (CInv.step CX.out HB3.out hcb HRB.out hown' hgrow hob)
                   clear hown' hgrow hob)
      go_roundg g
      case measure => omega
      case rel => exact ⟨V', i + 1, _, rfl, by go_num, by omega, by show CInv _ _ _ _ (sub.take (i + 1)) _; rw [hts.out]; exact ST.out⟩
    · obtain rfl : i = sub.len := by omega
      have hv := HV.out.below hbr (by omega)
      have hr := HR.out.below hbr (by omega)
      have y0 := hv.c0; have y1 := hv.c1; have y2 := hv.c2; have y3 := hv.c3; have y4 := hv.fr 3
      have z0 := hr.c0; have z1 := hr.c1; have z2 := hr.c2; have z3 := hr.c3; have f0 := hr.fr 0; have f1 := hr.fr 1; have f2 := hr.fr 2; have f3 := hr.fr 3
      obtain ⟨sb, cb, hbv, hcb, hrb⟩ := hC.out.rep
      rw [VL.take_len] at hbv hcb hrb
      have HF := Lib.hid (clone_end (HB.out.trans (below_le' hbr (by omega))) (by omega) hr rfl hcb (hrb.wide (fun c hc => ⟨by omega, hc.2⟩)) (k := k) (n := n) (s := s))
      clear hC
      subst hbv
      have hv' : StB (wr.setCell ⟨w.heap.size, 3, none⟩ (.slice sb sub.len cb)) w.heap.size (.int .i64 k) (.int .i64 n) (.string s) (.slice sb sub.len cb) := hv.set3 _
      have hr' : StB (wr.setCell ⟨w.heap.size, 3, none⟩ (.slice sb sub.len cb)) (w.heap.size + 1) (.int .i64 0) (.int .i64 0) (.string ⟨#[]⟩) (.slice none 0 0) := hr.far (by show w.heap.size + 1 ≠ w.heap.size; omega) _
      have a0 := hv'.c0; have a1 := hv'.c1; have a2 := hv'.c2; have a3 := hv'.c3
      have b0 := hr'.c0; have b1 := hr'.c1; have b2 := hr'.c2; have b3 := hr'.c3; have e0 := hr'.fr 0; have e1 := hr'.fr 1; have e2 := hr'.fr 2; have e3 := hr'.fr 3
      clear hv hr hv' hr' hbr hrb
      go_wp2_with fail
      refine ret_cell4 Tryz.results32 (w.heap.size + 1) rfl rfl HF.out.1 HF.out.2
theorem clone_c (N : Nat) : CloneC N := by
  induction N using Nat.strongRecOn with
  | _ N ih => exact clone_step N ih
end Go.Proofs.YtbalpfpcbckghaaGreatDoor
namespace Go.Proofs.YtbalpfpcbckghaaGreatDoor

namespace NL
def deep : NL → Nat
  | .nil => 0
  | .cons _ _ _ _ _ _ _ sub r => Nat.max (1 + sub.deep) r.deep
/-- All values within are no longer than a machine can hold. -/
def fit : NL → Prop
  | .nil => True
  | .cons _ _ s _ _ t v sub r => s.size ≤ 140737488351232 ∧ t.size ≤ 140737488351232 ∧ v.len ≤ 140737488351232 ∧ v.fit ∧ sub.len ≤ 140737488351232 ∧ sub.fit ∧ r.fit
end NL
end Go.Proofs.YtbalpfpcbckghaaGreatDoor
namespace Go.Proofs.YtbalpfpcbckghaaGreatDoor
open Go.RowKit Go.Lib
set_option linter.unusedVariables false

end Go.Proofs.YtbalpfpcbckghaaGreatDoor
namespace Go.Proofs.YtbalpfpcbckghaaGreatDoor
open Go.RowKit Go.Lib
set_option linter.unusedVariables false

end Go.Proofs.YtbalpfpcbckghaaGreatDoor
namespace Go.Proofs.YtbalpfpcbckghaaGreatDoor
open Go.RowKit Go.Lib
set_option linter.unusedVariables false

end Go.Proofs.YtbalpfpcbckghaaGreatDoor
