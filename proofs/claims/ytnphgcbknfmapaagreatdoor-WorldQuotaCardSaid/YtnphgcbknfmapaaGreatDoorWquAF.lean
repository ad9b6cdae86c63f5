/- Contracts of the functions that the statement reaches, and the plain mathematics beneath: several texts joined. -/
import Derived.Laws.AppendOwn
import Derived.Sort.Grow
import Derived.Sort.Row
import Derived.Deep.AppendLies
import Derived.Deep.RegionLaw
import Derived.Deep.Cut
import Derived.Deep.CutBlock
import Derived.Deep.DeepCutAuto
import Derived.Laws.ResultCell
import Derived.Deep.MidRow
import Derived.Laws.OwnMore
import Derived.Test.YtnphgcbknfmapaaGreatDoorWquAD
import Derived.Test.YtnphgcbknfmapaaGreatDoorWquAB
import Derived.Test.YtnphgcbknfmapaaGreatDoorWquAC
import Derived.Test.YtnphgcbknfmapaaGreatDoorWquAE
namespace Go.Proofs.YtnphgcbknfmapaaGreatDoor
open Go.RowKit Go.Lib
set_option linter.unusedVariables false
set_option linter.unusedSimpArgs false

open Go.Sort in
theorem sholds_own {w : World} {base g n cap : Nat} {ss : List (List UInt8)} (h : w.ownsRow base 9 1 (.slice (some ⟨g, 0, none⟩) n cap) n (ss.map fun l => Value.string ⟨l.toArray⟩)) : Holds encStr w g 0 ss.toArray := by
  intro j hj
  have hj' : j < ss.length := by simpa using hj
  have hc := h.cells (g := g) rfl j (.string ⟨(ss[j]).toArray⟩) (by simp [hj'])
  have hadd : (⟨g, 0, none⟩ : Addr).add j = ⟨g, j, none⟩ := by unfold Addr.add; split <;> simp_all
  rw [hadd] at hc
  refine ⟨by rw [Nat.zero_add, hc]; simp [hj', encStr], ?_⟩
  rcases h.2 with ⟨e, _⟩ | ⟨g', cap', cur, e, _, hh, _⟩
  · cases e
  · injection e with e _ _; injection e with e; injection e with e _ _; subst e
    unfold World.frozen?; rw [hh]; simp
open Go.Sort in
theorem sort_rises {w : World} {base g cap : Nat} {ss : List (List UInt8)} (h : w.ownsRow base 9 1 (.slice (some ⟨g, 0, none⟩) ss.length cap) ss.length (ss.map fun l => Value.string ⟨l.toArray⟩)) (hsz : ss.length < 4611686018427387904) (hs : ss.mergeSort (fun x y => decide (x ≤ y)) = ss) :
    Calls Tryz.prog 66 #[.slice (some ⟨g, 0, none⟩) ss.length cap] w fun e w' => e = .returned (.tuple #[]) ∧ Below w.heap.size w w' := by
  have hH := sholds_own h
  refine (Tryz.slices_Sort_string g 0 cap ss w hH (h.lt g rfl).2 hsz).mono ?_
  rintro e w' ⟨rfl, n, os, he⟩
  rw [hs, putRow_self encStr (Sort.ahead w n) g 0 ss.toArray (holds_ahead _ _ _ _ _ _ hH)] at he
  refine ⟨rfl, ?_⟩
  rw [he]
  refine ⟨rfl, rfl, rfl, ?_, fun k hk => ?_⟩
  · unfold grow Sort.ahead; simp
  · unfold grow Sort.ahead; exact Array.getElem?_append_left hk
theorem ownsRow_base {w : World} {b b' : Nat} {e : TypeId} {size : Nat} {v : Value} {n : Nat} {xs : List Value} (h : w.ownsRow b e size v n xs) (hb : b' ≤ b) : w.ownsRow b' e size v n xs := by
  refine ⟨h.1, ?_⟩
  rcases h.2 with h1 | ⟨g, cap, cur, e1, e2, e3⟩
  · exact .inl h1
  · exact .inr ⟨g, cap, cur, e1, by omega, e3⟩
theorem Tab.nodupX {w : World} {B a m : Nat} {T : List OM} {mx : Int} (h : Tab w B a m T mx) {x : OM} (hx : x ∈ T) : x.blocks.Nodup := by
  have hs := (List.nodup_cons.1 (List.nodup_cons.1 h.sep).2).2
  obtain ⟨p, q, e⟩ := List.append_of_mem hx
  rw [e, blkT_split, List.nodup_append, List.nodup_append] at hs
  exact hs.2.1.1
theorem Tab.baseB {w : World} {B a m : Nat} {T : List OM} {mx : Int} (h : Tab w B a m T mx) : B ≤ w.heap.size := by
  have h1 := h.base a (List.mem_cons_self ..)
  have h2 := h.lt a (List.mem_cons_self ..)
  omega
section
variable {w : World} {B a m : Nat} {T : List OM} {mx o : Int} {x : OM}
end
end Go.Proofs.YtnphgcbknfmapaaGreatDoor
namespace Go.Proofs.YtnphgcbknfmapaaGreatDoor
open Go.RowKit Go.Lib
set_option linter.unusedVariables false

theorem results_rowP {P : Program} {fn : Func} {p u : Tmp} {ty : TypeId} (h : fn.results = #[.cell p ty, .tmp u]) (tmps : Array Value) (w : World) (g : Nat) (t : TypeId) (cs : Array Value) (fr : Nat × Nat) (d : TypeDesc)
    (hp : tmps.getD p undef = .pointer (some ⟨g, 0, none⟩)) (hg : w.heap[g]? = some (.cells cs t fr))
    (hu : P.underlying ty = some d) (hd : (match d with | .struct _ | .array _ _ => true | _ => false) = true) (hi : (P.info? ty).map (·.size) = some cs.size) :
    (results fn tmps).run P w = .ok (.tuple #[.agg cs, tmps.getD u undef]) w := by
  rw [results_cell_tmp h, hp]
  simp [asAddr, run_loadVar_row w g t ty cs fr d hg hu hd hi, Result.andThen]
/-- The slot of a name. -/
def slO (y : OB) (n : ByteArray) : Option SL := (slotI y.slots n).bind fun i => y.slots[i]?
/-- The slot that tells a property's value, up a row of objects; none: there is none. -/
def gvO (l : List OB) (n : ByteArray) : List Int → Option SL
  | [] => none
  | d :: r => match (getO l d).bind fun y => slO y n with
    | none => none
    | some s => if s.clear then gvO l n r else some s
/-- What Get answers. -/
def gvV : Option SL → Value
  | some s => .tuple #[.agg #[.int .i64 0, .int .i64 s.num, .string ⟨#[]⟩, .slice none 0 0], .int .i64 0]
  | none => .tuple #[.agg #[.int .i64 0, .int .i64 0, .string ⟨#[]⟩, .slice none 0 0], .int .i64 4]
theorem abv_has (l : List OB) : ∀ (n : Nat) (o d : Int), d ∈ abvO l n o → ∃ x, getO l d = some x
  | 0, o, d, h => by simp [abvO] at h
  | n + 1, o, d, h => by
    rw [abvO] at h
    cases hg : getO l o with
    | none => rw [hg] at h; cases h
    | some x =>
      rw [hg] at h
      rcases List.mem_cons.1 h with rfl | h
      · exact ⟨x, by rw [getO_id hg]; exact hg⟩
      · exact abv_has l n x.parent d h
theorem findT_of_getO {T : List OM} {d : Int} {x : OB} (h : getO (obT T) d = some x) : ∃ y, findT T d = some y ∧ y.o = x := by
  rw [getO_obT] at h
  cases hf : findT T d with
  | none => rw [hf] at h; cases h
  | some y => rw [hf] at h; injection h with h; exact ⟨y, rfl, h⟩
theorem slotI_at {ss : List SL} {n : ByteArray} {i : Nat} (h : slotI ss n = some i) : ∃ s, ss[i]? = some s := by
  obtain ⟨⟨s, hs, _⟩, _⟩ := slotI_some h
  exact ⟨s, hs⟩
set_option maxRecDepth 100000 in
set_option maxHeartbeats 4000000 in
theorem get_l {w : World} {B a m : Nat} {T : List OM} {mx o : Int} (h : TS w B a m T mx) (ho : I64 o) {x : OM} (hx : findT T o = some x) (hpi : ParI T) (n : ByteArray) (hi : biB n = false) {q : Option SL} (hq : gvO (obT T) n (aboveO (obT T) o) = q) :
    Calls Tryz.prog 21 #[.pointer (some ⟨a, 0, none⟩), .int .i64 o, .string n] w fun e w' => e = .returned (gvV q) ∧ Below w.heap.size w w' := by
  have HB0 := Lib.hid ((Below.refl w.heap.size w).alloc (Nat.le_refl _) (.cells #[.int .i64 0, .int .i64 0, .string ⟨#[]⟩, .slice none 0 0] 33))
  have CR := Lib.hid (ref_c (h.tab.below HB0.out) ho)
  rw [ptrT_some hx] at CR
  have CB := Lib.hid (fun W => pbuiltin_c n W)
  rw [hi] at CB
  have CA := Lib.hid (fun W (hW : Below w.heap.size w W) => above_c (h.tab.below hW) ho hpi)
  obtain ⟨r, hr⟩ : ∃ r, r = aboveO (obT T) o := ⟨_, rfl⟩
  have hrm : ∀ d ∈ r, ∃ x, getO (obT T) d = some x := fun d hd => abv_has _ _ _ _ (by rw [hr] at hd; exact hd)
  have hrl : r.length ≤ 1000000 := by
    have h1 := abv_len (obT T) ((obT T).length + 1) o
    have h2 : (obT T).length = T.length := by simp [obT]
    have h3 := h.tab.few
    rw [hr]
    unfold aboveO
    omega
  rw [← hr] at hq CA
  have H := Lib.hid h
  have HQ := Lib.hid hq
  have HRM := Lib.hid hrm
  clear h hx hi hq hrm hr hpi
  go_enter Tryz.func21, Tryz.ntmps21
  go_wp2_with fail
  refine CR.out.mono ?_
  rintro e w1 ⟨rfl, rfl⟩
  go_wp2_with fail
  refine (CB.out _).mono ?_
  rintro e w1 ⟨rfl, hb1⟩
  have HB1 := Lib.hid (HB0.out.trans (hb1.mono HB0.out.size))
  have HW1 := Lib.hid ((hb1.block w.heap.size (by simp)).trans (heap_alloc_new w _))
  have HZ1 := Lib.hid (show w.heap.size < w1.heap.size from by have h1 : _ ≤ w1.heap.size := hb1.size; simp at h1; omega)
  clear hb1
  go_wp2_with fail
  refine (CA.out _ HB1.out).mono ?_
  rintro e w3 ⟨V, rfl, hrow, hb3⟩
  obtain ⟨A, c, rfl, hnc, hcm, hA, hcell⟩ := own_formO hrow
  have HB3 := Lib.hid (HB1.out.trans (hb3.mono HB1.out.size))
  have HW3 := Lib.hid ((hb3.block w.heap.size HZ1.out).trans HW1.out)
  have HCL := Lib.hid hcell
  have HZ3 := Lib.hid (show w.heap.size < w3.heap.size from by have := HZ1.out; have := hb3.size; omega)
  have HT3 := Lib.hid (H.out.tab.below HB3.out)
  clear hb3 hrow hcell CR CB CA
  unfold maxLen at hcm
  go_wp2_with fail
  go_loopg [30] r.length (fun kk iv wr => ∃ i : Nat, iv = .int .i64 (i : Int) ∧ i + kk = r.length ∧ w3 = wr ∧ Hid (gvO (obT T) n (r.drop i) = q))
  case atStart => exact ⟨0, rfl, by omega, rfl, by rw [List.drop_zero]; exact HQ.out⟩
  case round =>
    obtain ⟨i, rfl, hik, rfl, hgq⟩ := hrel
    by_cases hi : i < r.length
    · obtain ⟨j, rfl⟩ : ∃ j, gk = j + 1 := ⟨gk - 1, by omega⟩
      obtain ⟨d, hd⟩ : ∃ d, r[i]? = some d := ⟨r[i], List.getElem?_eq_some_iff.2 ⟨hi, rfl⟩⟩
      obtain ⟨g1, rfl, hc1⟩ := HCL.out i (.int .i64 d) (by simp [intsO, hd])
      obtain ⟨xo, hxo⟩ := HRM.out d (List.mem_of_getElem? hd)
      obtain ⟨y, hy, hyo⟩ := findT_of_getO hxo
      have hym := (findT_some hy).1
      have hdI : I64 d := by
        have h1 := H.out.tab.rng y hym
        have h2 := H.out.tab.mxr
        have h3 := (findT_some hy).2
        exact ⟨by omega, by omega⟩
      have hob := HT3.out.objs y hym
      have KR := Lib.hid (ref_c HT3.out hdI)
      rw [ptrT_some hy] at KR
      have KS := Lib.hid (slot_c hob n)
      have hgq' := hgq.out
      rw [show r.drop i = d :: r.drop (i + 1) from by rw [List.drop_eq_getElem_cons hi]; congr 1; have := List.getElem?_eq_some_iff.1 hd; exact this.2, gvO, hxo, Option.bind_some, ← hyo] at hgq'
      cases hsi : slotI y.o.slots n with
      | none =>
        rw [slotV_none hsi] at KS
        have hqn : q = none := by
          unfold slO at hgq'
          rw [hsi] at hgq'
          exact hgq'.symm
        subst hqn
        have HROW := Lib.hid (setRow_heap w3 w.heap.size _ #[.int .i64 0, .int .i64 0, .string ⟨#[]⟩, .slice none 0 0] _ _ HW3.out)
        have HBR := Lib.hid (sbelow_setRow HB3.out (g := w.heap.size) (Nat.le_refl _) #[.int .i64 0, .int .i64 0, .string ⟨#[]⟩, .slice none 0 0])
        clear hgq hgq' hd hxo hy hyo hym hob hsi
        go_wp2_with fail
        refine KR.out.mono ?_
        rintro e w7 ⟨rfl, rfl⟩
        go_wp2_with fail
        refine KS.out.mono ?_
        rintro e w7 ⟨rfl, rfl⟩
        go_wp2_with (refine wpList_store_row rfl 33 (.tmp 6) (.tmp 52) rfl w.heap.size #[.int .i64 0, .int .i64 0, .string ⟨#[]⟩, .slice none 0 0] rfl rfl _ _ HW3.out (by kernel_rfl) rfl (by simp [Value.oneCell']) ?_)
        exact bodyPost_ret (results_rowP (P := Tryz.prog) rfl _ _ w.heap.size _ _ _ _ rfl HROW.out Tryz.underlying33 rfl (by kernel_rfl)) rfl ⟨rfl, HBR.out⟩
      | some k =>
        obtain ⟨s, hs⟩ := slotI_at hsi
        obtain ⟨g2, k2, c2, hsv, hv⟩ := slotV_some hob hsi
        rw [hv] at KS
        have hfl := H.out.flat y hym s (List.mem_of_getElem? hs)
        obtain ⟨A2, C2, hsvA, _, _, _, hcell2⟩ := own_formO hob.slots
        have hc2 : ∀ j, j < 8 → ∀ u, s.cells[j]? = some u → w3.cell? ⟨g2, k * 8 + j, none⟩ = some u := by
          intro j hj u hu
          obtain ⟨g3, e3, hc⟩ := hcell2 (k * 8 + j) u (by rw [slCells_at _ _ _ j hs hj]; exact hu)
          rw [hsvA, e3] at hsv
          injection hsv with e4 _ _
          injection e4 with e4
          injection e4 with e4 _ _
          subst e4
          exact hc
        have u3 := hc2 3 (by omega) _ rfl
        have u4 := hc2 4 (by omega) _ rfl
        have u5 := hc2 5 (by omega) _ rfl
        have u6 := hc2 6 (by omega) _ rfl
        have u7 := hc2 7 (by omega) _ rfl
        rw [hfl.2.2.1] at u4
        rw [hfl.2.2.2] at u6
        unfold slO at hgq'
        rw [hsi, Option.bind_some, hs] at hgq'
        dsimp only at hgq'
        cases hcl : s.clear with
        | true =>
          rw [hcl] at u3 hgq'
          have HG := Lib.hid (show gvO (obT T) n (r.drop (i + 1)) = q from hgq')
          clear hgq hgq' hd hxo hy hyo hym hob hsi hs hsv hv hfl hsvA hcell2 hc2 hcl u4 u5 u6 u7
          go_wp2_with fail
          refine KR.out.mono ?_
          rintro e w7 ⟨rfl, rfl⟩
          go_wp2_with fail
          refine KS.out.mono ?_
          rintro e w7 ⟨rfl, rfl⟩
          go_wp2_with fail
          go_roundg j
          case measure => omega
          case rel => exact ⟨i + 1, by go_num, by omega, rfl, HG.out⟩
        | false =>
          rw [hcl] at u3 hgq'
          have hqs : q = some s := by simpa using hgq'.symm
          subst hqs
          have CC := Lib.hid (show ∀ W, Calls Tryz.prog 59 #[.agg #[.int .i64 0, .int .i64 s.num, .string ⟨#[]⟩, .slice none 0 0]] W (fun e w' => e = .returned (.agg #[.int .i64 0, .int .i64 s.num, .string ⟨#[]⟩, .slice none 0 0]) ∧ Below W.heap.size W w') from fun W => clone_int s.num W)
          clear hgq hgq' hd hxo hy hyo hym hob hsi hs hsv hv hfl hsvA hcell2 hc2 hcl
          go_wp2_with fail
          refine KR.out.mono ?_
          rintro e w7 ⟨rfl, rfl⟩
          go_wp2_with fail
          refine KS.out.mono ?_
          rintro e w7 ⟨rfl, rfl⟩
          go_wp2_with fail
          refine (CC.out _).mono ?_
          rintro e w7 ⟨rfl, hb7⟩
          have HW7 := Lib.hid ((hb7.block w.heap.size HZ3.out).trans HW3.out)
          have HB7 := Lib.hid (HB3.out.trans (hb7.mono HB3.out.size))
          have HROW := Lib.hid (setRow_heap w7 w.heap.size _ #[.int .i64 0, .int .i64 s.num, .string ⟨#[]⟩, .slice none 0 0] _ _ HW7.out)
          have HBR := Lib.hid (sbelow_setRow HB7.out (g := w.heap.size) (Nat.le_refl _) #[.int .i64 0, .int .i64 s.num, .string ⟨#[]⟩, .slice none 0 0])
          clear hb7
          go_wp2_with (refine wpList_store_row rfl 33 (.tmp 6) (.tmp 50) rfl w.heap.size #[.int .i64 0, .int .i64 s.num, .string ⟨#[]⟩, .slice none 0 0] rfl rfl _ _ HW7.out (by kernel_rfl) rfl (by simp [Value.oneCell']) ?_)
          exact bodyPost_ret (results_rowP (P := Tryz.prog) rfl _ _ w.heap.size _ _ _ _ rfl HROW.out Tryz.underlying33 rfl (by kernel_rfl)) rfl ⟨rfl, HBR.out⟩
    · obtain rfl : i = r.length := by omega
      have hqn : q = none := by
        have := hgq.out
        rw [List.drop_length] at this
        exact this.symm
      subst hqn
      have HROW := Lib.hid (setRow_heap w3 w.heap.size _ #[.int .i64 0, .int .i64 0, .string ⟨#[]⟩, .slice none 0 0] _ _ HW3.out)
      have HBR := Lib.hid (sbelow_setRow HB3.out (g := w.heap.size) (Nat.le_refl _) #[.int .i64 0, .int .i64 0, .string ⟨#[]⟩, .slice none 0 0])
      clear hgq
      go_wp2_with (refine wpList_store_row rfl 33 (.tmp 6) (.tmp 52) rfl w.heap.size #[.int .i64 0, .int .i64 0, .string ⟨#[]⟩, .slice none 0 0] rfl rfl _ _ HW3.out (by kernel_rfl) rfl (by simp [Value.oneCell']) ?_)
      exact bodyPost_ret (results_rowP (P := Tryz.prog) rfl _ _ w.heap.size _ _ _ _ rfl HROW.out Tryz.underlying33 rfl (by kernel_rfl)) rfl ⟨rfl, HBR.out⟩
end Go.Proofs.YtnphgcbknfmapaaGreatDoor
namespace Go.Proofs.YtnphgcbknfmapaaGreatDoor
open Go.RowKit Go.Lib
set_option linter.unusedVariables false

theorem there_row {w : World} {b o n t : Nat} {cs : Array Value} (h : w.heap[b]? = some (.cells cs t (0, 0))) (hn : o + n ≤ cs.size) : w.there b o n := by
  intro j hj
  refine ⟨?_, frozen_of_row w b (o + j) _ _ h⟩
  rw [cell_of_row w b (o + j) _ _ _ h, Array.getElem?_eq_getElem (by omega)]
  rfl
def setAt (cs : Array Value) : Nat → List Value → Array Value
  | _, [] => cs
  | o, v :: r => setAt (cs.setIfInBounds o v) (o + 1) r
theorem setCells_row (b t : Nat) : ∀ (vs : List Value) (o : Nat) (w : World) (cs : Array Value), w.heap[b]? = some (.cells cs t (0, 0)) → (w.setCells b o vs).heap[b]? = some (.cells (setAt cs o vs) t (0, 0))
  | [], _, _, _, h => h
  | v :: r, o, w, cs, h => by
    rw [World.setCells, setAt]
    exact setCells_row b t r (o + 1) _ _ (heap_setCell_same w b o cs t v h)
theorem setCells_other {b k : Nat} (hk : k ≠ b) : ∀ (vs : List Value) (o : Nat) (w : World), (w.setCells b o vs).heap[k]? = w.heap[k]?
  | [], _, _ => rfl
  | v :: r, o, w => by
    rw [World.setCells, setCells_other hk r (o + 1)]
    exact Below.heap_setCell _ _ _ _ hk
theorem below_setCells {B b : Nat} {a : World} (hB : B ≤ b) : ∀ (vs : List Value) (o : Nat) (w : World), Below B a w → Below B a (w.setCells b o vs)
  | [], _, _, h => h
  | v :: r, o, w, h => by
    rw [World.setCells]
    exact below_setCells hB r (o + 1) _ (h.setCell (p := ⟨b, o, none⟩) hB v)
set_option maxRecDepth 100000 in
set_option maxHeartbeats 4000000 in
theorem find_l {w : World} {B a m : Nat} {T : List OM} {mx o : Int} (h : TS w B a m T mx) (ho : I64 o) {x : OM} (hx : findT T o = some x) (n : ByteArray) {i : Nat} {s : SL} (hi : slotI x.o.slots n = some i) (hs : x.o.slots[i]? = some s) :
    Calls Tryz.prog 27 #[.pointer (some ⟨a, 0, none⟩), .int .i64 o, .string n] w fun e w' => e = .returned (.tuple #[s.val, .int .i64 0]) ∧ Below w.heap.size w w' := by
  have hxm := (findT_some hx).1
  have hfl := h.flat x hxm s (List.mem_of_getElem? hs)
  obtain ⟨nm, owner, bits, clr, kind, num, text⟩ := s
  obtain ⟨_, _, e1, e2⟩ := hfl
  simp only at e1 e2
  subst e1
  subst e2
  unfold SL.val
  have HB0 := Lib.hid ((Below.refl w.heap.size w).alloc (Nat.le_refl _) (.cells #[.string ⟨#[]⟩, .int .i64 0, .int .i64 0, .bool false, .int .i64 0, .int .i64 0, .string ⟨#[]⟩, .slice none 0 0] 35))
  have hob := h.tab.objs x hxm
  obtain ⟨g, k, c, hsv, hv⟩ := slotV_some hob hi
  have CF := Lib.hid (find_some (h.tab.below HB0.out) ho n hx hi hsv)
  obtain ⟨A2, C2, hsvA, _, _, _, hcell2⟩ := own_formO hob.slots
  have hgz : g < w.heap.size := (hob.slots.lt g (by rw [hsv]; rfl)).2
  have hc2 : ∀ j, j < 8 → ∀ u, (SL.mk nm owner bits clr 0 num ⟨#[]⟩).cells[j]? = some u → w.cell? ⟨g, i * 8 + j, none⟩ = some u := by
    intro j hj u hu
    obtain ⟨g3, e3, hc⟩ := hcell2 (i * 8 + j) u (by rw [slCells_at _ _ _ j hs hj]; exact hu)
    rw [hsvA, e3] at hsv
    injection hsv with e4 _ _
    injection e4 with e4
    injection e4 with e4 _ _
    subst e4
    exact hc
  have hk : ∀ (W : World), Below w.heap.size w W → ∀ j, j < 8 → ∀ u, (SL.mk nm owner bits clr 0 num ⟨#[]⟩).cells[j]? = some u → W.cell? ⟨g, i * 8 + j, none⟩ = some u := fun W hW j hj u hu => (hW.cell (p := ⟨g, i * 8 + j, none⟩) hgz).trans (hc2 j hj u hu)
  have u0 := hk _ HB0.out 0 (by omega) _ rfl
  rw [Nat.add_zero] at u0
  have u1 := hk _ HB0.out 1 (by omega) _ rfl
  have u2 := hk _ HB0.out 2 (by omega) _ rfl
  have u3 := hk _ HB0.out 3 (by omega) _ rfl
  have u4 := hk _ HB0.out 4 (by omega) _ rfl
  have u5 := hk _ HB0.out 5 (by omega) _ rfl
  have u6 := hk _ HB0.out 6 (by omega) _ rfl
  have u7 := hk _ HB0.out 7 (by omega) _ rfl
  have hba := fun o => HB0.out.alloc HB0.out.size o
  have v4 := fun o => hk _ (hba o) 4 (by omega) _ rfl
  have v5 := fun o => hk _ (hba o) 5 (by omega) _ rfl
  have v6 := fun o => hk _ (hba o) 6 (by omega) _ rfl
  have v7 := fun o => hk _ (hba o) 7 (by omega) _ rfl
  have CC := Lib.hid (show ∀ W, Calls Tryz.prog 59 #[.agg #[.int .i64 0, .int .i64 num, .string ⟨#[]⟩, .slice none 0 0]] W (fun e w' => e = .returned (.agg #[.int .i64 0, .int .i64 num, .string ⟨#[]⟩, .slice none 0 0]) ∧ Below W.heap.size W w') from fun W => clone_int num W)
  have HBA := Lib.hid hba
  clear h hx hxm hob hsv hv hsvA hcell2 hc2 hk hi hs hba
  go_enter Tryz.func27, Tryz.ntmps27
  go_wp2_with fail
  refine CF.out.mono ?_
  rintro e w1 ⟨rfl, rfl⟩
  go_wp2_with fail
  refine (CC.out _).mono ?_
  rintro e w7 ⟨rfl, hb7⟩
  have hr7 := (hb7.block (w.heap.size + 1) (by simp)).trans (heap_alloc2_new _ _ _)
  have hz7 := (hb7.block w.heap.size (by simp; omega)).trans ((Below.heap_alloc _ _ _ (by simp)).trans (heap_alloc_new w _))
  have hbw := (HBA.out (.cells #[.string nm, .int .i64 owner, .int .i64 bits, .bool clr, .int .i64 0, .int .i64 num, .string ⟨#[]⟩, .slice none 0 0] 35)).trans (hb7.mono (by simp; omega))
  obtain ⟨w8, hw8⟩ : ∃ w8, w8 = w7.setCells (w.heap.size + 1) 4 [.int .i64 0, .int .i64 num, .string ⟨#[]⟩, .slice none 0 0] := ⟨_, rfl⟩
  have hr8 : w8.heap[w.heap.size + 1]? = some (.cells #[.string nm, .int .i64 owner, .int .i64 bits, .bool clr, .int .i64 0, .int .i64 num, .string ⟨#[]⟩, .slice none 0 0] 35 (0, 0)) := by
    rw [hw8]
    exact setCells_row _ _ _ _ _ _ hr7
  have hz8 : w8.heap[w.heap.size]? = some (.cells #[.string ⟨#[]⟩, .int .i64 0, .int .i64 0, .bool false, .int .i64 0, .int .i64 0, .string ⟨#[]⟩, .slice none 0 0] 35 (0, 0)) := by
    rw [hw8, setCells_other (by omega)]
    exact hz7
  have hb8 : Below w.heap.size w w8 := by
    rw [hw8]
    exact below_setCells (by omega) _ _ _ hbw
  have y0 := cell_of_row w8 (w.heap.size + 1) 0 _ _ _ hr8
  have y1 := cell_of_row w8 (w.heap.size + 1) 1 _ _ _ hr8
  have y2 := cell_of_row w8 (w.heap.size + 1) 2 _ _ _ hr8
  have y3 := cell_of_row w8 (w.heap.size + 1) 3 _ _ _ hr8
  have y4 := cell_of_row w8 (w.heap.size + 1) 4 _ _ _ hr8
  have y5 := cell_of_row w8 (w.heap.size + 1) 5 _ _ _ hr8
  have y6 := cell_of_row w8 (w.heap.size + 1) 6 _ _ _ hr8
  have y7 := cell_of_row w8 (w.heap.size + 1) 7 _ _ _ hr8
  have HTH := Lib.hid (there_row (o := 4) (n := 4) hr7 (by simp))
  have HW8 := Lib.hid hw8
  have HZ8 := Lib.hid hz8
  have HROW := Lib.hid (setRow_heap w8 w.heap.size _ #[.string nm, .int .i64 owner, .int .i64 bits, .bool clr, .int .i64 0, .int .i64 num, .string ⟨#[]⟩, .slice none 0 0] _ _ hz8)
  have HBR := Lib.hid (sbelow_setRow hb8 (g := w.heap.size) (Nat.le_refl _) #[.string nm, .int .i64 owner, .int .i64 bits, .bool clr, .int .i64 0, .int .i64 num, .string ⟨#[]⟩, .slice none 0 0])
  clear hb7 hr7 hz7 hbw hw8 hr8 hz8 hb8 u0 u1 u2 u3 u4 u5 u6 u7 v4 v5 v6 v7
  go_wp2_with (first
    | (refine wpList_store_mid rfl 33 (.tmp 30) (.tmp 29) rfl (w.heap.size + 1) 4 #[.int .i64 0, .int .i64 num, .string ⟨#[]⟩, .slice none 0 0] rfl rfl HTH.out (by kernel_rfl) (by simp [Value.oneCell']) ?_
       rw [show w7.setCells (w.heap.size + 1) 4 (#[.int .i64 0, .int .i64 num, .string ⟨#[]⟩, .slice none 0 0] : Array Value).toList = w8 from HW8.out.symm])
    | (refine wpList_store_row rfl 35 (.tmp 6) (.tmp 31) rfl w.heap.size #[.string nm, .int .i64 owner, .int .i64 bits, .bool clr, .int .i64 0, .int .i64 num, .string ⟨#[]⟩, .slice none 0 0] rfl rfl _ _ HZ8.out (by kernel_rfl) rfl (by simp [Value.oneCell']) ?_))
  exact bodyPost_ret (results_rowP (P := Tryz.prog) rfl _ _ w.heap.size _ _ _ _ rfl HROW.out Tryz.underlying35 rfl (by kernel_rfl)) rfl ⟨rfl, HBR.out⟩
end Go.Proofs.YtnphgcbknfmapaaGreatDoor
namespace Go.Proofs.YtnphgcbknfmapaaGreatDoor
open Go.RowKit Go.Lib
set_option linter.unusedVariables false

section
variable {w : World} {B a m : Nat} {T : List OM} {mx o : Int} {x : OM}
end
end Go.Proofs.YtnphgcbknfmapaaGreatDoor
namespace Go.Proofs.YtnphgcbknfmapaaGreatDoor
open Go.RowKit Go.Lib
set_option linter.unusedVariables false

/-- The table as it stands; what the law itself laid beside it. -/
def LS (B : Nat) (w0 w : World) (a m : Nat) (l : List OB) (mx : Int) (K : List (Nat × Obj)) : Prop :=
  ∃ T, TS w B a m T mx ∧ obT T = l ∧ Below B w0 w ∧ ∀ p ∈ K, w.heap[p.1]? = some p.2 ∧ p.1 ∉ a :: m :: blkT T
section
variable {B a m : Nat} {w0 w w' : World} {l l' : List OB} {mx mx' o : Int} {K : List (Nat × Obj)} {x : OB}
theorem TS.baseB {T : List OM} (h : TS w B a m T mx) : B ≤ w.heap.size := by
  have h1 := h.tab.base a (List.mem_cons_self ..)
  have h2 := h.tab.lt a (List.mem_cons_self ..)
  omega
theorem ls_step {T T' : List OM} (ht : TS w B a m T mx) (hb : Below B w0 w) (hK : ∀ p ∈ K, w.heap[p.1]? = some p.2 ∧ p.1 ∉ a :: m :: blkT T) (hs : StS w w' B a m T T' mx mx') (hl : obT T' = l') : LS B w0 w' a m l' mx' K := by
  refine ⟨T', hs.ts, hl, hb.trans (hs.chg.below ht.baseB fun i hi => ht.tab.base i hi), fun p hp => ?_⟩
  obtain ⟨h1, h2⟩ := hK p hp
  have hlt : p.1 < w.heap.size := (Array.getElem?_eq_some_iff.1 h1).1
  refine ⟨(hs.chg.block p.1 hlt h2).trans h1, fun hm => ?_⟩
  rcases List.mem_cons.1 hm with e | hm
  · exact h2 (by rw [e]; exact List.mem_cons_self ..)
  rcases List.mem_cons.1 hm with e | hm
  · exact h2 (by rw [e]; exact List.mem_cons_of_mem _ (List.mem_cons_self ..))
  rcases hs.new p.1 hm with e | e
  · exact h2 (List.mem_cons_of_mem _ (List.mem_cons_of_mem _ e))
  · omega
theorem LS.below (h : LS B w0 w a m l mx K) (hb : Below w.heap.size w w') : LS B w0 w' a m l mx K := by
  obtain ⟨T, ht, hl, h0, hK⟩ := h
  refine ⟨T, ht.keep hb, hl, h0.trans (hb.mono ht.baseB), fun p hp => ?_⟩
  obtain ⟨h1, h2⟩ := hK p hp
  exact ⟨(hb.block p.1 (Array.getElem?_eq_some_iff.1 h1).1).trans h1, h2⟩
/-- Something of the law's own, laid beside the table. -/
theorem LS.push (h : LS B w0 w a m l mx K) {g : Nat} {ob : Obj} (hb : Below w.heap.size w w') (hg : w.heap.size ≤ g) (hr : w'.heap[g]? = some ob) : LS B w0 w' a m l mx ((g, ob) :: K) := by
  obtain ⟨T, ht, hl, h0, hK⟩ := h
  refine ⟨T, ht.keep hb, hl, h0.trans (hb.mono ht.baseB), fun p hp => ?_⟩
  rcases List.mem_cons.1 hp with rfl | hp
  · exact ⟨hr, fun hm => by have := ht.tab.lt g hm; omega⟩
  · obtain ⟨h1, h2⟩ := hK p hp
    exact ⟨(hb.block p.1 (Array.getElem?_eq_some_iff.1 h1).1).trans h1, h2⟩
theorem LS.pop {q : Nat × Obj} (h : LS B w0 w a m l mx (q :: K)) : LS B w0 w a m l mx K := by
  obtain ⟨T, ht, hl, h0, hK⟩ := h
  exact ⟨T, ht, hl, h0, fun p hp => hK p (List.mem_cons_of_mem _ hp)⟩
theorem LS.row {g : Nat} {ob : Obj} (h : LS B w0 w a m l mx K) (hp : (g, ob) ∈ K) : w.heap[g]? = some ob := by
  obtain ⟨T, ht, hl, h0, hK⟩ := h
  exact (hK _ hp).1
theorem LS.base (h : LS B w0 w a m l mx K) : Below B w0 w := by
  obtain ⟨T, ht, hl, h0, hK⟩ := h
  exact h0
theorem hasO_of {l : List OB} {o : Int} {x : OB} (h : getO l o = some x) : hasO l o = true := by unfold hasO; rw [h]; rfl
end
end Go.Proofs.YtnphgcbknfmapaaGreatDoor
namespace Go.Proofs.YtnphgcbknfmapaaGreatDoor
open Go.RowKit Go.Lib
set_option linter.unusedVariables false
set_option linter.unusedSimpArgs false

theorem slCells_set1 (j : Nat) (hj : j < 8) (u : Value) : ∀ (ss : List SL) (i : Nat) (s s' : SL), ss[i]? = some s → s'.cells = s.cells.set j u → (ss.flatMap SL.cells).set (i * 8 + j) u = (ss.set i s').flatMap SL.cells
  | [], i, s, s', h, _ => by simp at h
  | x :: r, 0, s, s', h, hc => by
    simp only [List.getElem?_cons_zero, Option.some.injEq] at h
    subst h
    rw [List.flatMap_cons, List.set_cons_zero, List.flatMap_cons, hc, Nat.zero_mul, Nat.zero_add, List.set_append_left _ _ (by simp [SL.cells]; omega)]
  | x :: r, i + 1, s, s', h, hc => by
    simp only [List.getElem?_cons_succ] at h
    have ih := slCells_set1 j hj u r i s s' h hc
    have hl : x.cells.length = 8 := rfl
    rw [List.flatMap_cons, List.set_cons_succ, List.flatMap_cons, ← ih, List.set_append_right _ _ (by omega), hl]
    rw [show (i + 1) * 8 + j - 8 = i * 8 + j from by omega]
/-- Another cell of a slot's row. -/
theorem slot_stored {w : World} {B g c n : Nat} {ss : List SL} {i j : Nat} {u : Value} {s s' : SL} (h : w.ownsRow B 35 8 (.slice (some ⟨g, 0, none⟩) n c) n (ss.flatMap SL.cells)) (hj : j < 8) (hs : ss[i]? = some s) (hc : s'.cells = s.cells.set j u) :
    (w.setCell ⟨g, i * 8 + j, none⟩ u).ownsRow B 35 8 (.slice (some ⟨g, 0, none⟩) n c) n ((ss.set i s').flatMap SL.cells) := by
  have h1 := (h.stored (i * 8 + j) u).1
  rwa [slCells_set1 j hj u ss i s s' hs hc] at h1
/-- What a store of a value and of Clear leaves of a slot. -/
def setV (s : SL) (v : Int) (b : Bool) : SL := { s with clear := b, kind := 0, num := v, text := ⟨#[]⟩ }
def putW (w : World) (g k : Nat) (v : Int) (b : Bool) : World := (w.setCells g (k + 4) [.int .i64 0, .int .i64 v, .string ⟨#[]⟩, .slice none 0 0]).setCell ⟨g, k + 3, none⟩ (.bool b)
theorem putW_other {w : World} {g k b : Nat} {v : Int} {c : Bool} (h : b ≠ g) : (putW w g k v c).heap[b]? = w.heap[b]? := (Below.heap_setCell _ _ _ _ h).trans (setCells_other h _ _ _)
theorem put_slotS {w : World} {B a m : Nat} {T : List OM} {mx o : Int} (h : TS w B a m T mx) {x : OM} (hx : findT T o = some x) {i g k c : Nat} {s : SL} (hs : x.o.slots[i]? = some s) (hsv : x.sv = .slice (some ⟨g, 0, none⟩) k c) (v : Int) (b : Bool) :
    StS w (putW w g (i * 8) v b) B a m T (repT T o ⟨{ x.o with slots := x.o.slots.set i (setV s v b) }, x.g, x.dv, x.sv⟩) mx mx := by
  have hxm := (findT_some hx).1
  have hob := h.tab.objs x hxm
  have hnd := h.tab.nodupN hxm
  have hgb : g ∈ x.blocks := OM.mem_blocks.2 (.inr (.inr (by rw [hsv]; rfl)))
  have hfl := h.flat x hxm s (List.mem_of_getElem? hs)
  have hnx : x.g ≠ g := by
    rintro e
    unfold OM.blocks at hnd
    rw [List.nodup_cons] at hnd
    exact hnd.1 (by rw [hsv, e]; simp [Value.ownBlock])
  refine h.rep hx _ rfl rfl ?_ ⟨?_, ?_, ?_⟩ (fun b hb => .inl hb) hnd ?_ ⟨fun e => (h.bare x hxm).1 (by simpa using e), (h.bare x hxm).2⟩
  · unfold putW
    simp only [World.setCells]
    exact ((((Chg.set (S := fun b => b ∈ x.blocks) w (p := ⟨g, i * 8 + 4, none⟩) hgb _).trans (Chg.set (S := fun b => b ∈ x.blocks) _ (p := ⟨g, i * 8 + 4 + 1, none⟩) hgb _)).trans (Chg.set (S := fun b => b ∈ x.blocks) _ (p := ⟨g, i * 8 + 4 + 1 + 1, none⟩) hgb _)).trans (Chg.set (S := fun b => b ∈ x.blocks) _ (p := ⟨g, i * 8 + 4 + 1 + 1 + 1, none⟩) hgb _)).trans (Chg.set (S := fun b => b ∈ x.blocks) _ (p := ⟨g, i * 8 + 3, none⟩) hgb _)
  · exact (putW_other hnx).trans hob.blk
  · refine ownsRow_same hob.defs fun b hb => putW_other ?_
    rintro rfl
    unfold OM.blocks at hnd
    rw [List.nodup_cons, List.nodup_append] at hnd
    exact hnd.2.2.2 b (by rw [hb]; simp) b (by rw [hsv]; simp [Value.ownBlock]) rfl
  · have ho := hob.slots
    rw [hsv] at ho
    obtain ⟨A, C, e, _⟩ := own_formO ho
    injection e with e1 e2 e3
    subst e2
    have hi : i < x.o.slots.length := (List.getElem?_eq_some_iff.1 hs).1
    have h1 := slot_stored (j := 4) (u := .int .i64 0) (s' := { s with kind := 0 }) ho (by omega) hs rfl
    have h2 := slot_stored (i := i) (j := 5) (u := .int .i64 v) (s := { s with kind := 0 }) (s' := { s with kind := 0, num := v }) h1 (by omega) (by simp [hi]) rfl
    have h3 := slot_stored (i := i) (j := 6) (u := .string ⟨#[]⟩) (s := { s with kind := 0, num := v }) (s' := { s with kind := 0, num := v, text := ⟨#[]⟩ }) h2 (by omega) (by simp [hi]) rfl
    have h4 := slot_stored (i := i) (j := 7) (u := .slice none 0 0) (s := { s with kind := 0, num := v, text := ⟨#[]⟩ }) (s' := { s with kind := 0, num := v, text := ⟨#[]⟩ }) h3 (by omega) (by simp [hi]) rfl
    have h5 := slot_stored (i := i) (j := 3) (u := .bool b) (s := { s with kind := 0, num := v, text := ⟨#[]⟩ }) (s' := setV s v b) h4 (by omega) (by simp [hi]) rfl
    simp only [List.set_set] at h5
    show World.ownsRow _ B _ 8 x.sv (x.o.slots.set i (setV s v b)).length _
    rw [List.length_set, hsv]
    unfold putW
    simp only [World.setCells]
    exact h5
  · intro t ht
    rcases List.mem_or_eq_of_mem_set ht with h1 | h1
    · exact h.flat x hxm t h1
    · subst h1
      exact ⟨hfl.1, hfl.2.1, rfl, rfl⟩
section
variable {B a m : Nat} {w0 w w' : World} {l l' : List OB} {mx mx' o : Int} {K : List (Nat × Obj)} {x : OB}
theorem ls_at {T T' : List OM} {W : World} (ht : TS w B a m T mx) (hb : Below B w0 w) (hK : ∀ p ∈ K, w.heap[p.1]? = some p.2 ∧ p.1 ∉ a :: m :: blkT T) (hW : Below w.heap.size w W) (hs : StS W w' B a m T T' mx mx') (hl : obT T' = l') : LS B w0 w' a m l' mx' K :=
  ls_step (ht.keep hW) (hb.trans (hW.mono ht.baseB)) (fun p hp => ⟨(hW.block p.1 (Array.getElem?_eq_some_iff.1 (hK p hp).1).1).trans (hK p hp).1, (hK p hp).2⟩) hs hl
set_option maxRecDepth 100000 in
set_option maxHeartbeats 4000000 in
theorem put_L (h : LS B w0 w a m l mx K) (ho : I64 o) (hx : getO l o = some x) (n : ByteArray) (hbi : biB n = false) {i : Nat} {s : SL} (hi : slotI x.slots n = some i) (hs : x.slots[i]? = some s) (v : Int) :
    Calls Tryz.prog 19 #[.pointer (some ⟨a, 0, none⟩), .int .i64 o, .string n, .agg #[.int .i64 0, .int .i64 v, .string ⟨#[]⟩, .slice none 0 0]] w fun e w' => e = .returned (.int .i64 0) ∧ LS B w0 w' a m (repO l o { x with slots := x.slots.set i (setV s v false) }) mx K := by
  obtain ⟨T, ht, rfl, h0, hK⟩ := h
  obtain ⟨y, hy, rfl⟩ := findT_of_getO hx
  have hym := (findT_some hy).1
  have hob := ht.tab.objs y hym
  obtain ⟨g, k, c, hsv, hv⟩ := slotV_some hob hi
  have hgz : g < w.heap.size := (hob.slots.lt g (by rw [hsv]; rfl)).2
  have hos := hob.slots
  rw [hsv] at hos
  obtain ⟨A, C, e, _⟩ := own_formO hos
  injection e with e1 e2 e3
  subst e2
  have hil : i < y.o.slots.length := (List.getElem?_eq_some_iff.1 hs).1
  obtain ⟨cs, hg⟩ : ∃ cs, w.heap[g]? = some (.cells cs 35 (0, 0)) ∧ i * 8 + 8 ≤ cs.size := by
    rcases hos.2 with ⟨e1, _⟩ | ⟨g', cap', cur, e1, e2, e3, e4, e5, e6, e7⟩
    · cases e1
    · injection e1 with f1 f2 f3
      injection f1 with f1
      injection f1 with f1
      subst f1
      exact ⟨cur, e3, by rw [e6]; omega⟩
  have hb0 : Below w.heap.size w (w.alloc (.cells #[.int .i64 0, .int .i64 v, .string ⟨#[]⟩, .slice none 0 0] 33)) := (Below.refl _ _).alloc (Nat.le_refl _) _
  have CR := Lib.hid (ref_c (ht.tab.below hb0) ho)
  rw [ptrT_some hy] at CR
  have CB := Lib.hid (fun W => pbuiltin_c n W)
  rw [hbi] at CB
  have CF := Lib.hid (fun W (hW : Below w.heap.size w W) => find_some (ht.tab.below hW) ho n hy hi hsv)
  have CV := Lib.hid (show ∀ W, Calls Tryz.prog 58 #[.agg #[.int .i64 0, .int .i64 v, .string ⟨#[]⟩, .slice none 0 0]] W (fun e w' => e = .returned .nilIface ∧ Below W.heap.size W w') from fun W => valid_int v W)
  have CC := Lib.hid (show ∀ W, Calls Tryz.prog 59 #[.agg #[.int .i64 0, .int .i64 v, .string ⟨#[]⟩, .slice none 0 0]] W (fun e w' => e = .returned (.agg #[.int .i64 0, .int .i64 v, .string ⟨#[]⟩, .slice none 0 0]) ∧ Below W.heap.size W w') from fun W => clone_int v W)
  have HS := Lib.hid (fun W (hW : Below w.heap.size w W) => ls_at ht h0 hK hW (put_slotS (ht.keep hW) hy hs hsv v false) (obT_rep T o _))
  have HB0 := Lib.hid hb0
  have HG := Lib.hid hg
  have HGZ := Lib.hid hgz
  clear ht h0 hK hx hy hob hsv hv hos hs hi e1 e3 hb0 hg hym hbi hgz hil
  go_enter Tryz.func19, Tryz.ntmps19
  go_wp2_with fail
  refine CR.out.mono ?_
  rintro e w1 ⟨rfl, rfl⟩
  go_wp2_with fail
  refine (CB.out _).mono ?_
  rintro e w2 ⟨rfl, hb2⟩
  have HB2 := Lib.hid (HB0.out.trans (hb2.mono HB0.out.size))
  have HR2 := Lib.hid ((hb2.block w.heap.size (by simp)).trans (heap_alloc_new w _))
  clear hb2
  go_wp2_with fail
  refine (CF.out _ HB2.out).mono ?_
  rintro e w3 ⟨rfl, rfl⟩
  obtain ⟨p0, p1, p2, p3⟩ : w2.cell? ⟨w.heap.size, 0, none⟩ = some (.int .i64 0) ∧ w2.cell? ⟨w.heap.size, 1, none⟩ = some (.int .i64 v) ∧ w2.cell? ⟨w.heap.size, 2, none⟩ = some (.string ⟨#[]⟩) ∧ w2.cell? ⟨w.heap.size, 3, none⟩ = some (.slice none 0 0) := ⟨cell_of_row w2 w.heap.size 0 _ _ _ HR2.out, cell_of_row w2 w.heap.size 1 _ _ _ HR2.out, cell_of_row w2 w.heap.size 2 _ _ _ HR2.out, cell_of_row w2 w.heap.size 3 _ _ _ HR2.out⟩
  go_wp2_with fail
  refine (CV.out _).mono ?_
  rintro e w4 ⟨rfl, hb4⟩
  have HB4 := Lib.hid (HB2.out.trans (hb4.mono HB2.out.size))
  have HR4 := Lib.hid ((hb4.block w.heap.size (Array.getElem?_eq_some_iff.1 HR2.out).1).trans HR2.out)
  clear hb4 p0 p1 p2 p3
  obtain ⟨p0, p1, p2, p3⟩ : w4.cell? ⟨w.heap.size, 0, none⟩ = some (.int .i64 0) ∧ w4.cell? ⟨w.heap.size, 1, none⟩ = some (.int .i64 v) ∧ w4.cell? ⟨w.heap.size, 2, none⟩ = some (.string ⟨#[]⟩) ∧ w4.cell? ⟨w.heap.size, 3, none⟩ = some (.slice none 0 0) := ⟨cell_of_row w4 w.heap.size 0 _ _ _ HR4.out, cell_of_row w4 w.heap.size 1 _ _ _ HR4.out, cell_of_row w4 w.heap.size 2 _ _ _ HR4.out, cell_of_row w4 w.heap.size 3 _ _ _ HR4.out⟩
  go_wp2_with fail
  refine (CC.out _).mono ?_
  rintro e w5 ⟨rfl, hb5⟩
  have HB5 := Lib.hid (HB4.out.trans (hb5.mono HB4.out.size))
  have hg5 := (HB5.out.block g HGZ.out).trans HG.out.1
  have HT5 := Lib.hid (there_row (o := i * 8 + 4) (n := 4) hg5 (by have := HG.out.2; omega))
  obtain ⟨w6, hw6⟩ : ∃ w6, w6 = w5.setCells g (i * 8 + 4) [.int .i64 0, .int .i64 v, .string ⟨#[]⟩, .slice none 0 0] := ⟨_, rfl⟩
  have HW6 := Lib.hid hw6
  have hth := there_row (o := i * 8 + 3) (n := 1) hg5 (by have := HG.out.2; omega)
  have h63 := (World.there_setCells hth g (i * 8 + 4) [.int .i64 0, .int .i64 v, .string ⟨#[]⟩, .slice none 0 0]) 0 (by omega)
  rw [← hw6, Nat.add_zero] at h63
  obtain ⟨u3, hu3⟩ := Option.isSome_iff_exists.1 h63.1
  have f3 := h63.2
  clear hb5 hg5 hth h63 p0 p1 p2 p3 hw6
  go_wp2_with (refine wpList_store_mid rfl 33 (.tmp 44) (.tmp 42) rfl g (i * 8 + 4) #[.int .i64 0, .int .i64 v, .string ⟨#[]⟩, .slice none 0 0] rfl rfl HT5.out (by kernel_rfl) (by simp [Value.oneCell']) ?_
               rw [show w5.setCells g (i * 8 + 4) (#[.int .i64 0, .int .i64 v, .string ⟨#[]⟩, .slice none 0 0] : Array Value).toList = w6 from HW6.out.symm])
  go_ret
  refine ⟨rfl, ?_⟩
  have := HS.out _ HB5.out
  unfold putW at this
  rw [← HW6.out] at this
  exact this
end
end Go.Proofs.YtnphgcbknfmapaaGreatDoor
namespace Go.Proofs.YtnphgcbknfmapaaGreatDoor
open Go.RowKit Go.Lib
set_option linter.unusedVariables false

theorem OkT.upd {l : List OB} {mx : Int} (h : OkT l mx) (o : Int) (f : OB → OB) (hid : ∀ x, (f x).id = x.id) (hp : ∀ x, (f x).parent = x.parent) (hl : ∀ x, (f x).place = x.place) (hd : ∀ x, (f x).defs = x.defs) (hs : ∀ x, (f x).slots = x.slots) : OkT (updO l o f) mx := by
  refine ⟨h.sort.upd o _ hid, ?_, ?_, acy_keep h.acyP o _ hid hp, acy_keep h.acyL o _ hid hl, ?_, ?_, h.mx⟩
  · intro y hy
    obtain ⟨x, hx, ⟨_, rfl⟩ | ⟨_, rfl⟩⟩ := mem_updO hy
    · rw [hid]; exact h.rng x hx
    · exact h.rng _ hx
  · intro y hy
    obtain ⟨x, hx, ⟨_, rfl⟩ | ⟨_, rfl⟩⟩ := mem_updO hy
    · rw [hd, hs]; exact h.bare x hx
    · exact h.bare _ hx
  · intro y hy
    rw [hasO_upd l o _ hid]
    obtain ⟨x, hx, ⟨_, rfl⟩ | ⟨_, rfl⟩⟩ := mem_updO hy
    · rw [hp]; exact h.par x hx
    · exact h.par _ hx
  · intro y hy
    rw [hasO_upd l o _ hid]
    obtain ⟨x, hx, ⟨_, rfl⟩ | ⟨_, rfl⟩⟩ := mem_updO hy
    · rw [hl]; exact h.plc x hx
    · exact h.plc _ hx
/-- A field of an object set where it lies. -/
theorem TB.set {w : World} {B a m : Nat} {T : List OM} {mx o : Int} {x : OM} (h : TB w B a m T mx) (hx : findT T o = some x) (j : Nat) (u : Value) (f : OB → OB) (hid : ∀ y, (f y).id = y.id) (hd : ∀ y, (f y).defs = y.defs) (hs : ∀ y, (f y).slots = y.slots)
    (hc : x.cells.setIfInBounds j u = ({ x with o := f x.o } : OM).cells) (ok : OkT (updO (obT T) o f) mx) : Stp w (w.setCell ⟨x.g, j, none⟩ u) B a m T (updT T o f) mx mx := by
  have hxm := (findT_some hx).1
  refine ⟨⟨h.tab.store hx j u f hid (hd _) (hs _) hc, by rw [obT_upd]; exact ok, h.bare.upd o _⟩, Chg.set _ (List.mem_cons_of_mem _ (List.mem_cons_of_mem _ (List.mem_flatMap.2 ⟨x, hxm, OM.mem_blocks.2 (.inl rfl)⟩))) _, fun b hb => .inl (by rwa [blkT_upd] at hb)⟩
/-- The table as it stands; what the law itself laid beside it. -/
def LB (B : Nat) (w0 w : World) (a m : Nat) (l : List OB) (mx : Int) (K : List (Nat × Obj)) : Prop :=
  ∃ T, TB w B a m T mx ∧ obT T = l ∧ Below B w0 w ∧ ∀ p ∈ K, w.heap[p.1]? = some p.2 ∧ p.1 ∉ a :: m :: blkT T
section
variable {B a m : Nat} {w0 w w' : World} {l l' : List OB} {mx mx' o : Int} {K : List (Nat × Obj)} {x : OB}
theorem TB.baseB {T : List OM} (h : TB w B a m T mx) : B ≤ w.heap.size := by
  have h1 := h.tab.base a (List.mem_cons_self ..)
  have h2 := h.tab.lt a (List.mem_cons_self ..)
  omega
theorem LB.below (h : LB B w0 w a m l mx K) (hb : Below w.heap.size w w') : LB B w0 w' a m l mx K := by
  obtain ⟨T, ht, hl, h0, hK⟩ := h
  refine ⟨T, ht.keep hb, hl, h0.trans (hb.mono ht.baseB), fun p hp => ?_⟩
  obtain ⟨h1, h2⟩ := hK p hp
  exact ⟨(hb.block p.1 (Array.getElem?_eq_some_iff.1 h1).1).trans h1, h2⟩
/-- Something of the law's own, laid beside the table. -/
theorem LB.push (h : LB B w0 w a m l mx K) {g : Nat} {ob : Obj} (hb : Below w.heap.size w w') (hg : w.heap.size ≤ g) (hr : w'.heap[g]? = some ob) : LB B w0 w' a m l mx ((g, ob) :: K) := by
  obtain ⟨T, ht, hl, h0, hK⟩ := h
  refine ⟨T, ht.keep hb, hl, h0.trans (hb.mono ht.baseB), fun p hp => ?_⟩
  rcases List.mem_cons.1 hp with rfl | hp
  · exact ⟨hr, fun hm => by have := ht.tab.lt g hm; omega⟩
  · obtain ⟨h1, h2⟩ := hK p hp
    exact ⟨(hb.block p.1 (Array.getElem?_eq_some_iff.1 h1).1).trans h1, h2⟩
theorem LB.row {g : Nat} {ob : Obj} (h : LB B w0 w a m l mx K) (hp : (g, ob) ∈ K) : w.heap[g]? = some ob := by
  obtain ⟨T, ht, hl, h0, hK⟩ := h
  exact (hK _ hp).1
theorem LB.base (h : LB B w0 w a m l mx K) : Below B w0 w := by
  obtain ⟨T, ht, hl, h0, hK⟩ := h
  exact h0
/-- A table without properties. -/
theorem LS.bare (h : LS B w0 w a m l mx K) (hb : ∀ x ∈ l, x.defs = [] ∧ x.slots = []) : LB B w0 w a m l mx K := by
  obtain ⟨T, ht, rfl, h0, hK⟩ := h
  refine ⟨T, ⟨ht.tab, ?_, ?_⟩, rfl, h0, hK⟩
  · have hm : (obT T).map bareO = obT T := by
      conv => rhs; rw [← List.map_id (obT T)]
      apply List.map_congr_left
      intro x hx
      have := hb x hx
      obtain ⟨id, pa, ow, pl, fl, qu, nm, df, sl⟩ := x
      simp only at this
      obtain ⟨rfl, rfl⟩ := this
      rfl
    have := ht.ok
    unfold OkS at this
    rwa [hm] at this
  · intro x hx
    have h1 := hb x.o (List.mem_map.2 ⟨x, hx, rfl⟩)
    have h2 := ht.bare x hx
    exact ⟨h2.2 h1.1, h2.1 h1.2⟩
end
end Go.Proofs.YtnphgcbknfmapaaGreatDoor
namespace Go.Proofs.YtnphgcbknfmapaaGreatDoor
open Go.RowKit Go.Lib
set_option linter.unusedVariables false
set_option linter.unusedSimpArgs false

section
variable {w : World} {B a m : Nat} {T : List OM} {mx o : Int} {x : OM}
end
end Go.Proofs.YtnphgcbknfmapaaGreatDoor
