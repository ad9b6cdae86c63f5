/- Contracts of the functions that the statement reaches, and the plain mathematics beneath: several texts joined. -/
import Derived.Laws.OwnMore
import Derived.Test.YtnphgcbknfmapaaGreatDoorPinAH
import Derived.Test.YtnphgcbknfmapaaGreatDoorPinAG
namespace Go.Proofs.YtnphgcbknfmapaaGreatDoor
open Go.RowKit Go.Lib
set_option linter.unusedVariables false

def ownA (n : Nat) (f : Nat → Bool) : Array Value := ((List.range n).map fun k => Value.bool (f k)).toArray
def hvA (n : Nat) (f : Nat → Int) : Array Value := ((List.range n).map fun k => Value.int .i64 (f k)).toArray
def upB (f : Nat → Bool) (k : Nat) (b : Bool) (i : Nat) : Bool := if i = k then b else f i
def upI (f : Nat → Int) (k : Nat) (b : Int) (i : Nat) : Int := if i = k then b else f i
theorem ownA_get {n i : Nat} {f : Nat → Bool} (h : i < n) : (ownA n f)[i]? = some (.bool (f i)) := by
  unfold ownA
  rw [List.getElem?_toArray]
  exact map_range_at h
theorem hvA_get {n i : Nat} {f : Nat → Int} (h : i < n) : (hvA n f)[i]? = some (.int .i64 (f i)) := by
  unfold hvA
  rw [List.getElem?_toArray]
  exact map_range_at h
theorem set_map {f g : Nat → Value} {n k : Nat} {v : Value} (hg : ∀ i, g i = if i = k then v else f i) : ((List.range n).map f).toArray.setIfInBounds k v = ((List.range n).map g).toArray := by
  apply Array.ext
  · simp
  · intro i h1 h2
    have hi : i < n := by simpa using h2
    rw [Array.getElem_setIfInBounds (by simpa using hi)]
    simp only [List.getElem_toArray, List.getElem_map, List.getElem_range, hg]
    by_cases e : k = i
    · rw [if_pos e, if_pos e.symm]
    · rw [if_neg e, if_neg (fun h => e h.symm)]
theorem ownA_set (n : Nat) (f : Nat → Bool) (k : Nat) (b : Bool) : (ownA n f).setIfInBounds k (.bool b) = ownA n (upB f k b) := set_map fun i => by unfold upB; split <;> rfl
theorem hvA_set (n : Nat) (f : Nat → Int) (k : Nat) (b : Int) : (hvA n f).setIfInBounds k (.int .i64 b) = hvA n (upI f k b) := set_map fun i => by unfold upI; split <;> rfl
theorem made_map (z : Value) (n : Nat) : madeCells #[z] (n * 1) = ((List.range n).map fun _ => z).toArray := by
  rw [Nat.mul_one]
  apply Array.toList_inj.1
  rw [toList_madeCells_one]
  apply List.ext_getElem
  · simp
  · intro i h1 h2
    simp
/-- What the law's rows say of the chain. -/
structure ChI (n : Nat) (s : Nat → SL) (own : Nat → Bool) (hv : Nat → Int) : Prop where
  nm : ∀ i, (s i).name = xN
  cl : ∀ i, i < n → (s i).clear = !own i
  vl : ∀ i, i < n → own i = true → (s i).num = hv i
  top : own 0 = true
theorem ChI.start (n : Nat) : ChI n c0S (upB (fun _ => false) 0 true) (upI (fun _ => 0) 0 (-1)) := by
  refine ⟨c0_name, fun i _ => ?_, fun i _ h => ?_, rfl⟩
  · cases i with
    | zero => rfl
    | succ k => rfl
  · cases i with
    | zero => rfl
    | succ k => exact absurd h (by simp [upB])
theorem ChI.put {n : Nat} {s : Nat → SL} {own : Nat → Bool} {hv : Nat → Int} (h : ChI n s own hv) (k : Nat) (v : Int) : ChI n (upS s k (setV (s k) v false)) (upB own k true) (upI hv k v) := by
  refine ⟨fun i => ?_, fun i hi => ?_, fun i hi ho => ?_, ?_⟩
  · unfold upS; split
    · exact h.nm k
    · exact h.nm i
  · unfold upS upB; split
    · rfl
    · exact h.cl i hi
  · unfold upB at ho
    unfold upS upI
    by_cases e : i = k
    · rw [if_pos e, if_pos e]; rfl
    · rw [if_neg e, if_neg e]
      rw [if_neg e] at ho
      exact h.vl i hi ho
  · unfold upB; split
    · rfl
    · exact h.top
theorem ChI.clr {n : Nat} {s : Nat → SL} {own : Nat → Bool} {hv : Nat → Int} (h : ChI n s own hv) {k : Nat} (hk : k ≠ 0) : ChI n (upS s k (setV (s k) 0 true)) (upB own k false) hv := by
  refine ⟨fun i => ?_, fun i hi => ?_, fun i hi ho => ?_, ?_⟩
  · unfold upS; split
    · exact h.nm k
    · exact h.nm i
  · unfold upS upB; split
    · rfl
    · exact h.cl i hi
  · unfold upB at ho
    unfold upS
    by_cases e : i = k
    · rw [if_pos e] at ho; cases ho
    · rw [if_neg e]
      rw [if_neg e] at ho
      exact h.vl i hi ho
  · unfold upB
    rw [if_neg (fun e => hk e.symm)]
    exact h.top
theorem ChI.clr0 {n : Nat} {s : Nat → SL} {own : Nat → Bool} {hv : Nat → Int} (h : ChI n s own hv) : ChI n s (upB own 0 true) hv := by
  have e : upB own 0 true = own := by
    funext i
    unfold upB
    split
    · rename_i e; rw [e, h.top]
    · rfl
  rw [e]
  exact h
def lastF (own : Nat → Bool) (hv : Nat → Int) : Nat → Int
  | 0 => 0
  | i + 1 => if own i then hv i else lastF own hv i
theorem ChI.last {n : Nat} {s : Nat → SL} {own : Nat → Bool} {hv : Nat → Int} (h : ChI n s own hv) : ∀ i, i < n → ∃ t, gsS s i = some t ∧ t.num = lastF own hv (i + 1)
  | 0, hi => by
    have h1 := h.cl 0 hi
    rw [h.top] at h1
    refine ⟨s 0, by unfold gsS; rw [h1]; rfl, ?_⟩
    unfold lastF
    rw [h.top, if_pos rfl]
    exact h.vl 0 hi h.top
  | i + 1, hi => by
    have h1 := h.cl (i + 1) hi
    unfold gsS lastF
    cases ho : own (i + 1) with
    | true =>
      rw [ho] at h1
      exact ⟨s (i + 1), by rw [h1]; rfl, by rw [if_pos rfl]; exact h.vl (i + 1) hi ho⟩
    | false =>
      rw [ho] at h1
      obtain ⟨t, ht, hn⟩ := ChI.last h i (by omega)
      exact ⟨t, by rw [h1]; exact ht, by rw [if_neg (by decide)]; exact hn⟩
end Go.Proofs.YtnphgcbknfmapaaGreatDoor
namespace Go.Proofs.YtnphgcbknfmapaaGreatDoor
open Go.RowKit Go.Lib
set_option linter.unusedVariables false
set_option linter.unusedSimpArgs false

theorem bool_info : (Tryz.prog.info? 4).map (fun i => (i.zero, i.size, i.bytes)) = some (some (.bool false), 1, 1) := by kernel_rfl
theorem i64_info : (Tryz.prog.info? 2).map (fun i => (i.zero, i.size, i.bytes)) = some (some (.int .i64 0), 1, 8) := by kernel_rfl
theorem make_bools (q : Nat) (h : q ≤ 100) (W : World) : (Instr.makeSlice 59 (.int .i64 ((q : Int) + 2)) (.int .i64 ((q : Int) + 2))).run Tryz.prog W = .ok (.slice (some ⟨W.heap.size, 0, none⟩) (q + 2) (q + 2)) (W.alloc (.cells (ownA (q + 2) fun _ => false) 4)) := by
  obtain ⟨i, hi, hz, hs, hb⟩ := info_parts bool_info
  have := run_makeSlice (P := Tryz.prog) W 59 4 i (.bool false) Tryz.underlying59 hi hz .i64 .i64 ((q : Int) + 2) ((q : Int) + 2) (by omega) (by omega) (by rw [hs]; omega) (by rw [hb]; omega) (by omega)
  rw [show ((q : Int) + 2).toNat = q + 2 from by omega, hs, show (Value.bool false).cells = #[.bool false] from rfl, made_map] at this
  exact this
theorem make_i64s (q : Nat) (h : q ≤ 100) (W : World) : (Instr.makeSlice 60 (.int .i64 ((q : Int) + 2)) (.int .i64 ((q : Int) + 2))).run Tryz.prog W = .ok (.slice (some ⟨W.heap.size, 0, none⟩) (q + 2) (q + 2)) (W.alloc (.cells (hvA (q + 2) fun _ => 0) 2)) := by
  obtain ⟨i, hi, hz, hs, hb⟩ := info_parts i64_info
  have := run_makeSlice (P := Tryz.prog) W 60 2 i (.int .i64 0) Tryz.underlying60 hi hz .i64 .i64 ((q : Int) + 2) ((q : Int) + 2) (by omega) (by omega) (by rw [hs]; omega) (by rw [hb]; omega) (by omega)
  rw [show ((q : Int) + 2).toNat = q + 2 from by omega, hs, show (Value.int .i64 0).cells = #[.int .i64 0] from rfl, made_map] at this
  exact this
set_option maxRecDepth 100000 in
set_option maxHeartbeats 16000000 in
theorem inherit_yes (n0 : Int) (set clr : List Int) (A1 A2 : Option Addr) (c1 c2 : Nat) (w : World) (hn0 : I64 n0) (hs1 : ArgI w A1 set) (hs2 : ArgI w A2 clr) (hl1 : set.length ≤ 20) (hl2 : clr.length ≤ 10) :
    Calls Tryz.prog 5 #[.int .i64 n0, .slice A1 set.length c1, .slice A2 clr.length c2] w fun e w' => e = .returned (.bool true) ∧ Below w.heap.size w w' := by
  have CF := Lib.hid (pfirst_c w)
  have CN0 := Lib.hid (fun W => onumber_c n0 9 W hn0 (by omega) (by omega))
  obtain ⟨q, hq, hq8⟩ : ∃ q : Nat, n0 % 9 = (q : Int) ∧ q ≤ 8 := ⟨(n0 % 9).toNat, by omega, by omega⟩
  rw [hq] at CN0
  have CNN := Lib.hid (fun (x : Int) (W : World) (hx : I64 x) => onumber_c x ((q : Int) + 2) W hx (by omega) (by omega))
  have g1 : ¬ (20 : Int) < (set.length : Int) := by omega
  have g2 : ¬ (10 : Int) < (clr.length : Int) := by omega
  have HS1 := Lib.hid hs1
  have HS2 := Lib.hid hs2
  have hmb := make_bools q (by omega)
  have hmi := make_i64s q (by omega)
  clear hq hs1 hs2
  go_enter Tryz.func5, Tryz.ntmps5
  go_wp2_with fail
  refine CF.out.mono ?_
  rintro e w1 ⟨rfl, hb1⟩
  have HB1 := Lib.hid hb1
  clear hb1
  go_wp2_with fail
  refine (CN0.out _).mono ?_
  rintro e w1' ⟨rfl, rfl⟩
  go_wp2_with fail
  refine (new_L _).mono ?_
  rintro e w2 ⟨rfl, h2⟩
  have H2 := Lib.hid h2
  clear h2
  go_wp2_with fail
  go_loopg [9] (q + 2) (fun kk iv wr => ∃ i : Nat, iv = .int .i64 (i : Int) ∧ i + kk = q + 2 ∧ LS w1.heap.size w1 wr (w1.heap.size + 1) w1.heap.size (chB i) ((i : Int) - 1) [])
  case atStart => exact ⟨0, rfl, by omega, H2.out⟩
  case round =>
    obtain ⟨i, rfl, hik, hls⟩ := hrel
    have HLS := Lib.hid hls
    clear hls
    by_cases hi : i < q + 2
    · obtain ⟨j, rfl⟩ : ∃ j, gk = j + 1 := ⟨gk - 1, by omega⟩
      have CR := Lib.hid (show Calls Tryz.prog 12 #[.pointer (some ⟨w1.heap.size + 1, 0, none⟩), .int .i64 ((i : Int) - 1), .int .i64 (-1)] wr (fun e w' => e = .returned (.tuple #[.int .i64 (i : Int), .int .i64 0]) ∧ LS w1.heap.size w1 w' (w1.heap.size + 1) w1.heap.size (chB (i + 1)) (((i + 1 : Nat) : Int) - 1) []) from by
        have hm1 : (i : Int) - 1 + 1 = i := by omega
        have hm2 : ((i + 1 : Nat) : Int) - 1 = (i : Int) - 1 + 1 := by omega
        by_cases h0 : i = 0
        · subst h0
          refine (create0_L HLS.out (by decide) (by decide)).mono ?_
          rintro e w' ⟨rfl, h'⟩
          exact ⟨rfl, h'⟩
        · have hlen : (chB i).length = i := by simp [chB]
          have hg : getO (chB i) ((i : Int) - 1) = some (chO (i - 1) [] []) := by
            have := chB_get (n := i) (k := i - 1) (by omega)
            rwa [show ((i - 1 : Nat) : Int) = (i : Int) - 1 from by omega] at this
          refine (create_L HLS.out (p := (i : Int) - 1) ⟨by omega, by omega⟩ hg (by omega) (by omega) (by simp [chO, nO])).mono ?_
          rintro e w' ⟨rfl, h'⟩
          refine ⟨by rw [hm1], ?_⟩
          rw [hm2, ← chB_succ]
          exact h')
      go_wp2_with fail
      refine CR.out.mono ?_
      rintro e w3 ⟨rfl, h3⟩
      have H3 := Lib.hid h3
      clear h3
      go_wp2_with fail
      go_roundg j
      case measure => omega
      case rel => exact ⟨i + 1, by go_num, by omega, H3.out⟩
    · obtain rfl : i = q + 2 := by omega
      go_wp2_with fail
      refine (valI_c (-1) _).mono ?_
      rintro e w4 ⟨rfl, hb4⟩
      have H4 := Lib.hid (HLS.out.below hb4)
      clear hb4 HLS H2
      unfold intV
      go_wp2_with fail
      refine (chain_add (by omega) (by omega) H4.out).mono ?_
      rintro e w5 ⟨rfl, h5⟩
      have H5 := Lib.hid h5
      clear h5 H4
      have hBG : w1.heap.size ≤ w5.heap.size := H5.out.base.size
      have h6 := H5.out.push (g := w5.heap.size) (ob := .cells (ownA (q + 2) fun _ => false) 4 (0, 0)) ((Below.refl w5.heap.size w5).alloc (Nat.le_refl _) (.cells (ownA (q + 2) fun _ => false) 4)) (Nat.le_refl _) (heap_alloc_new _ _)
      have h7 := (h6.push (g := w5.heap.size + 1) (ob := .cells (hvA (q + 2) fun _ => 0) 2 (0, 0)) ((Below.refl _ _).alloc (Nat.le_refl _) (.cells (hvA (q + 2) fun _ => 0) 2)) (by simp) (heap_alloc2_new _ _ _)).swap
      obtain ⟨W, hW⟩ : ∃ W, W = (w5.alloc (.cells (ownA (q + 2) fun _ => false) 4)).alloc (.cells (hvA (q + 2) fun _ => 0) 2) := ⟨_, rfl⟩
      rw [← hW] at h7
      go_upto_region 18 with fail
      rw [← hW]
      clear hW h6 H5 hmb hmi
      generalize w5.heap.size = G at *
      have hr1 := h7.row (List.mem_cons_self ..)
      have hr2 := h7.row (List.mem_cons_of_mem _ (List.mem_cons_self ..))
      have a1 : W.cell? ⟨G, 0, none⟩ = some (.bool false) := (cell_of_row W G 0 _ _ _ hr1).trans (ownA_get (by omega))
      have a2 : W.frozen? ⟨G, 0, none⟩ = false := frozen_of_row W G 0 _ _ hr1
      have a3 : W.cell? ⟨G + 1, 0, none⟩ = some (.int .i64 0) := (cell_of_row W (G + 1) 0 _ _ _ hr2).trans (hvA_get (by omega))
      have a4 : W.frozen? ⟨G + 1, 0, none⟩ = false := frozen_of_row W (G + 1) 0 _ _ hr2
      have hGG : ¬ G = G + 1 := by omega
      have hGG2 : ¬ G + 1 = G := by omega
      have h8 := (h7.poke (j := 0) (v := .bool true) (ob' := .cells (ownA (q + 2) (upB (fun _ => false) 0 true)) 4 (0, 0)) (by intro p hp; rw [List.mem_singleton] at hp; subst hp; exact hGG2) hBG (by rw [heap_setCell_same W G 0 _ _ _ hr1, ownA_set])).swap
      have h9 := (h8.poke (j := 0) (v := .int .i64 (-1)) (ob' := .cells (hvA (q + 2) (upI (fun _ => 0) 0 (-1))) 2 (0, 0)) (by intro p hp; rw [List.mem_singleton] at hp; subst hp; exact hGG) (by omega) (by rw [heap_setCell_same _ (G + 1) 0 _ _ _ (h8.row (List.mem_cons_self ..)), hvA_set])).swap
      have H9 := Lib.hid h9
      clear hr1 hr2 h7 h8 h9
      have HBG := Lib.hid hBG
      go_wp2_with fail
      go_loopg [12] set.length (fun kk iv wr => ∃ (i : Nat) (s : Nat → SL) (own : Nat → Bool) (hv : Nat → Int), iv = .int .i64 (i : Int) ∧ i + kk = set.length ∧ LS w1.heap.size w1 wr (w1.heap.size + 1) w1.heap.size (chP (q + 2) s) (((q + 2 : Nat) : Int) - 1) [(G, .cells (ownA (q + 2) own) 4 (0, 0)), (G + 1, .cells (hvA (q + 2) hv) 2 (0, 0))] ∧ ChI (q + 2) s own hv)
      case atStart => exact ⟨0, _, _, _, rfl, by omega, H9.out, ChI.start _⟩
      case round =>
        clear a1 a2 a3 a4 H9
        obtain ⟨i, s, own, hv, rfl, hik, hls, hch⟩ := hrel
        have HLS := Lib.hid hls
        have HCH := Lib.hid hch
        clear hls hch
        by_cases hi : i < set.length
        · obtain ⟨j, rfl⟩ : ∃ j, gk = j + 1 := ⟨gk - 1, by omega⟩
          obtain ⟨x, hx⟩ : ∃ x, set[i]? = some x := ⟨set[i], List.getElem?_eq_some_iff.2 ⟨hi, rfl⟩⟩
          obtain ⟨hxI, b, o, rfl, hc⟩ := HS1.out.at_ (HB1.out.trans (HLS.out.base.mono HB1.out.size)) hx
          obtain ⟨k, hk, hkl⟩ : ∃ k : Nat, x % ((q : Int) + 2) = (k : Int) ∧ k < q + 2 := by
            have h1 := Int.emod_nonneg x (by omega : (q : Int) + 2 ≠ 0)
            have h2 := Int.emod_lt_of_pos x (by omega : (0 : Int) < (q : Int) + 2)
            exact ⟨(x % ((q : Int) + 2)).toNat, by omega, by omega⟩
          have CK := Lib.hid (fun W => CNN.out x W hxI)
          rw [hk] at CK
          clear hk hx hxI
          go_wp2_with fail
          refine (CK.out _).mono ?_
          rintro e w6 ⟨rfl, rfl⟩
          go_wp2_with fail
          refine (valI_c (i : Int) _).mono ?_
          rintro e w7 ⟨rfl, hb7⟩
          have H7 := Lib.hid (HLS.out.below hb7)
          clear hb7
          unfold intV
          go_wp2_with fail
          refine (put_L H7.out (o := (k : Int)) ⟨by omega, by omega⟩ (chP_get s hkl) xN xN_nm.2 (i := 0) (s := s k) (slotI_one (HCH.out.nm k)) rfl (i : Int)).mono ?_
          rintro e w8 ⟨rfl, h8⟩
          have h8' : LS w1.heap.size w1 w8 (w1.heap.size + 1) w1.heap.size (chP (q + 2) (upS s k (setV (s k) i false))) (((q + 2 : Nat) : Int) - 1) [(G, .cells (ownA (q + 2) own) 4 (0, 0)), (G + 1, .cells (hvA (q + 2) hv) 2 (0, 0))] := by
            rw [← chP_rep s hkl]
            exact h8
          have hr1 := h8'.row (List.mem_cons_self ..)
          have hr2 := h8'.row (List.mem_cons_of_mem _ (List.mem_cons_self ..))
          have a1 : w8.cell? ⟨G, k, none⟩ = some (.bool (own k)) := (cell_of_row w8 G k _ _ _ hr1).trans (ownA_get hkl)
          have a2 : w8.frozen? ⟨G, k, none⟩ = false := frozen_of_row w8 G k _ _ hr1
          have a3 : w8.cell? ⟨G + 1, k, none⟩ = some (.int .i64 (hv k)) := (cell_of_row w8 (G + 1) k _ _ _ hr2).trans (hvA_get hkl)
          have a4 : w8.frozen? ⟨G + 1, k, none⟩ = false := frozen_of_row w8 (G + 1) k _ _ hr2
          have h10 := (h8'.poke (j := k) (v := .bool true) (ob' := .cells (ownA (q + 2) (upB own k true)) 4 (0, 0)) (by intro p hp; rw [List.mem_singleton] at hp; subst hp; exact hGG2) HBG.out (by rw [heap_setCell_same w8 G k _ _ _ hr1, ownA_set])).swap
          have h11 := (h10.poke (j := k) (v := .int .i64 (i : Int)) (ob' := .cells (hvA (q + 2) (upI hv k i)) 2 (0, 0)) (by intro p hp; rw [List.mem_singleton] at hp; subst hp; exact hGG) (by have := HBG.out; omega) (by rw [heap_setCell_same _ (G + 1) k _ _ _ (h10.row (List.mem_cons_self ..)), hvA_set])).swap
          have H11 := Lib.hid h11
          clear h8 h8' hr1 hr2 h10 h11 H7
          go_wp2_with fail
          go_roundg j
          case measure => omega
          case rel => exact ⟨i + 1, _, _, _, by go_num, by omega, H11.out, HCH.out.put k i⟩
        · obtain rfl : i = set.length := by omega
          go_wp2_with fail
          go_loopg [14] clr.length (fun kk iv wr => ∃ (i : Nat) (s : Nat → SL) (own : Nat → Bool), iv = .int .i64 (i : Int) ∧ i + kk = clr.length ∧ LS w1.heap.size w1 wr (w1.heap.size + 1) w1.heap.size (chP (q + 2) s) (((q + 2 : Nat) : Int) - 1) [(G, .cells (ownA (q + 2) own) 4 (0, 0)), (G + 1, .cells (hvA (q + 2) hv) 2 (0, 0))] ∧ ChI (q + 2) s own hv)
          case atStart => exact ⟨0, _, _, rfl, by omega, HLS.out, HCH.out⟩
          case round =>
            clear HLS HCH
            obtain ⟨i, s, own, rfl, hik, hls, hch⟩ := hrel
            have HLS := Lib.hid hls
            have HCH := Lib.hid hch
            clear hls hch
            by_cases hi : i < clr.length
            · obtain ⟨j, rfl⟩ : ∃ j, gk = j + 1 := ⟨gk - 1, by omega⟩
              obtain ⟨x, hx⟩ : ∃ x, clr[i]? = some x := ⟨clr[i], List.getElem?_eq_some_iff.2 ⟨hi, rfl⟩⟩
              obtain ⟨hxI, b, o, rfl, hc⟩ := HS2.out.at_ (HB1.out.trans (HLS.out.base.mono HB1.out.size)) hx
              obtain ⟨k, hk, hkl⟩ : ∃ k : Nat, x % ((q : Int) + 2) = (k : Int) ∧ k < q + 2 := by
                have h1 := Int.emod_nonneg x (by omega : (q : Int) + 2 ≠ 0)
                have h2 := Int.emod_lt_of_pos x (by omega : (0 : Int) < (q : Int) + 2)
                exact ⟨(x % ((q : Int) + 2)).toNat, by omega, by omega⟩
              have CK := Lib.hid (fun W => CNN.out x W hxI)
              rw [hk] at CK
              clear hk hx hxI
              have hr1 := HLS.out.row (List.mem_cons_self ..)
              by_cases hk0 : k = 0
              · subst hk0
                have a1 : wr.cell? ⟨G, 0, none⟩ = some (.bool (own 0)) := (cell_of_row wr G 0 _ _ _ hr1).trans (ownA_get hkl)
                have a2 : wr.frozen? ⟨G, 0, none⟩ = false := frozen_of_row wr G 0 _ _ hr1
                have h10 := HLS.out.poke (j := 0) (v := .bool true) (ob' := .cells (ownA (q + 2) (upB own 0 true)) 4 (0, 0)) (by intro p hp; rw [List.mem_singleton] at hp; subst hp; exact hGG2) HBG.out (by rw [heap_setCell_same wr G 0 _ _ _ hr1, ownA_set])
                have H11 := Lib.hid h10
                clear hr1 h10
                go_wp2_with fail
                refine (CK.out _).mono ?_
                rintro e w6 ⟨rfl, rfl⟩
                go_wp2_with fail
                refine (pclear_own HLS.out (o := 0) ⟨by omega, by omega⟩ (chP_get (k := 0) s hkl) xN (i := 0) (s := s 0) (slotI_one (HCH.out.nm 0)) rfl rfl).mono ?_
                rintro e w7 ⟨rfl, rfl⟩
                go_wp2_with fail
                go_roundg j
                case measure => omega
                case rel => exact ⟨i + 1, _, _, by go_num, by omega, H11.out, HCH.out.clr0⟩
              · have hki : ¬ (k : Int) = 0 := by omega
                have hkn : ((k : Int) != 0) = true := by simpa using hki
                have hke : ((k : Int) == 0) = false := by simpa using hki
                clear hr1
                go_wp2_with fail
                refine (CK.out _).mono ?_
                rintro e w6 ⟨rfl, rfl⟩
                go_wp2_with fail
                refine (pclear_L HLS.out (o := (k : Int)) ⟨by omega, by omega⟩ (chP_get s hkl) xN (i := 0) (s := s k) (slotI_one (HCH.out.nm k)) rfl (by simp [chO, nO, hk0])).mono ?_
                rintro e w8 ⟨rfl, h8⟩
                have h8' : LS w1.heap.size w1 w8 (w1.heap.size + 1) w1.heap.size (chP (q + 2) (upS s k (setV (s k) 0 true))) (((q + 2 : Nat) : Int) - 1) [(G, .cells (ownA (q + 2) own) 4 (0, 0)), (G + 1, .cells (hvA (q + 2) hv) 2 (0, 0))] := by
                  rw [← chP_rep s hkl]
                  exact h8
                have hr1 := h8'.row (List.mem_cons_self ..)
                have a1 : w8.cell? ⟨G, k, none⟩ = some (.bool (own k)) := (cell_of_row w8 G k _ _ _ hr1).trans (ownA_get hkl)
                have a2 : w8.frozen? ⟨G, k, none⟩ = false := frozen_of_row w8 G k _ _ hr1
                have h10 := h8'.poke (j := k) (v := .bool false) (ob' := .cells (ownA (q + 2) (upB own k false)) 4 (0, 0)) (by intro p hp; rw [List.mem_singleton] at hp; subst hp; exact hGG2) HBG.out (by rw [heap_setCell_same w8 G k _ _ _ hr1, ownA_set])
                have H11 := Lib.hid h10
                clear h8 h8' hr1 h10
                go_wp2_with fail
                go_roundg j
                case measure => omega
                case rel => exact ⟨i + 1, _, _, by go_num, by omega, H11.out, HCH.out.clr hk0⟩
            · obtain rfl : i = clr.length := by omega
              go_wp2_with fail
              go_loopg [17, 18] (q + 2) (fun kk lv iv wr => ∃ i : Nat, lv = .int .i64 (lastF own hv i) ∧ iv = .int .i64 (i : Int) ∧ i + kk = q + 2 ∧ LS w1.heap.size w1 wr (w1.heap.size + 1) w1.heap.size (chP (q + 2) s) (((q + 2 : Nat) : Int) - 1) [(G, .cells (ownA (q + 2) own) 4 (0, 0)), (G + 1, .cells (hvA (q + 2) hv) 2 (0, 0))])
              case atStart => exact ⟨0, rfl, rfl, by omega, HLS.out⟩
              case round =>
                clear HLS
                obtain ⟨i, rfl, rfl, hik, hls⟩ := hrel
                have HLS := Lib.hid hls
                clear hls
                by_cases hi : i < q + 2
                · obtain ⟨j, rfl⟩ : ∃ j, gk = j + 1 := ⟨gk - 1, by omega⟩
                  obtain ⟨t, ht, htn⟩ := HCH.out.last i hi
                  obtain ⟨L, hL⟩ : ∃ L, L = lastF own hv (i + 1) := ⟨_, rfl⟩
                  have HL := Lib.hid hL
                  have hr1 := HLS.out.row (List.mem_cons_self ..)
                  have hr2 := HLS.out.row (List.mem_cons_of_mem _ (List.mem_cons_self ..))
                  obtain ⟨bo, hbo⟩ : ∃ bo, bo = own i := ⟨_, rfl⟩
                  have a1 : wr.cell? ⟨G, i, none⟩ = some (.bool bo) := by rw [hbo]; exact (cell_of_row wr G i _ _ _ hr1).trans (ownA_get hi)
                  have a3 : wr.cell? ⟨G + 1, i, none⟩ = some (.int .i64 (hv i)) := (cell_of_row wr (G + 1) i _ _ _ hr2).trans (hvA_get hi)
                  have hlast : L = if bo then hv i else lastF own hv i := by rw [hL, hbo]; rfl
                  have hscl : (s i).clear = !bo := by rw [hbo]; exact HCH.out.cl i hi
                  have CG := Lib.hid (show Calls Tryz.prog 21 #[.pointer (some ⟨w1.heap.size + 1, 0, none⟩), .int .i64 (i : Int), .string ⟨#[120]⟩] wr (fun e w' => e = .returned (.tuple #[.agg #[.int .i64 0, .int .i64 L, .string ⟨#[]⟩, .slice none 0 0], .int .i64 0]) ∧ LS w1.heap.size w1 w' (w1.heap.size + 1) w1.heap.size (chP (q + 2) s) (((q + 2 : Nat) : Int) - 1) [(G, .cells (ownA (q + 2) own) 4 (0, 0)), (G + 1, .cells (hvA (q + 2) hv) 2 (0, 0))]) from by
                    have := get_L HLS.out (o := (i : Int)) ⟨by omega, by omega⟩ (hasO_of (chP_get s hi)) (by
                      intro x hx
                      obtain ⟨z, hz, rfl⟩ := List.mem_map.1 hx
                      have := List.mem_range.1 hz
                      exact ⟨by show -9223372036854775808 ≤ (z : Int) - 1; omega, by show (z : Int) - 1 ≤ 9223372036854775807; omega⟩) xN xN_nm.2 (q := some t) (by rw [chP_above s hi, gv_ch s HCH.out.nm i hi, ht])
                    unfold gvV at this
                    dsimp only at this
                    rw [htn, ← hL] at this
                    exact this)
                  have CFI := Lib.hid (fun (W : World) (K : List (Nat × Obj)) (hW : LS w1.heap.size w1 W (w1.heap.size + 1) w1.heap.size (chP (q + 2) s) (((q + 2 : Nat) : Int) - 1) K) => (show Calls Tryz.prog 27 #[.pointer (some ⟨w1.heap.size + 1, 0, none⟩), .int .i64 (i : Int), .string ⟨#[120]⟩] W (fun e w' => e = .returned (.tuple #[.agg #[.string (s i).name, .int .i64 (s i).owner, .int .i64 (s i).bits, .bool (!bo), .int .i64 (s i).kind, .int .i64 (s i).num, .string (s i).text, .slice none 0 0], .int .i64 0]) ∧ LS w1.heap.size w1 w' (w1.heap.size + 1) w1.heap.size (chP (q + 2) s) (((q + 2 : Nat) : Int) - 1) K) from by
                    have := find_L hW (o := (i : Int)) ⟨by omega, by omega⟩ (chP_get s hi) xN (i := 0) (s := s i) (slotI_one (HCH.out.nm i)) rfl
                    unfold SL.val at this
                    rw [hscl] at this
                    exact this))
                  have hz2 : (bo = true ∧ L = hv i) ∨ (bo = false ∧ L = lastF own hv i) := by rw [hlast]; cases bo <;> simp
                  clear hL ht htn hlast hscl hr1 hr2
                  rcases hz2 with ⟨hbt, hLv⟩ | ⟨hbt, hLv⟩
                  · subst hLv
                    subst hbt
                    have HBO := Lib.hid hbo
                    clear hbo
                    go_wp2_with fail
                    refine CG.out.mono ?_
                    rintro e w6 ⟨rfl, h6⟩
                    have H6 := Lib.hid (h6.push (g := w6.heap.size) (ob := .cells #[.int .i64 0, .int .i64 (hv i), .string ⟨#[]⟩, .slice none 0 0] 33 (0, 0)) ((Below.refl w6.heap.size w6).alloc (Nat.le_refl _) (.cells #[.int .i64 0, .int .i64 (hv i), .string ⟨#[]⟩, .slice none 0 0] 33)) (Nat.le_refl _) (heap_alloc_new _ _))
                    clear h6 a1 a3
                    go_wp2_with fail
                    refine (CFI.out _ _ H6.out).mono ?_
                    rintro e w7 ⟨rfl, h7⟩
                    have h8 := h7.push (g := w7.heap.size) (ob := .cells #[.string (s i).name, .int .i64 (s i).owner, .int .i64 (s i).bits, .bool false, .int .i64 (s i).kind, .int .i64 (s i).num, .string (s i).text, .slice none 0 0] 35 (0, 0)) ((Below.refl w7.heap.size w7).alloc (Nat.le_refl _) (.cells #[.string (s i).name, .int .i64 (s i).owner, .int .i64 (s i).bits, .bool false, .int .i64 (s i).kind, .int .i64 (s i).num, .string (s i).text, .slice none 0 0] 35)) (Nat.le_refl _) (heap_alloc_new _ _)
                    obtain ⟨W7, hW7⟩ : ∃ W7, W7 = w7.alloc (.cells #[.string (s i).name, .int .i64 (s i).owner, .int .i64 (s i).bits, .bool false, .int .i64 (s i).kind, .int .i64 (s i).num, .string (s i).text, .slice none 0 0] 35) := ⟨_, rfl⟩
                    rw [← hW7] at h8
                    have v1 := cell_of_row W7 w6.heap.size 1 _ _ _ (h8.row (List.mem_cons_of_mem _ (List.mem_cons_self ..)))
                    have s3 := cell_of_row W7 w7.heap.size 3 _ _ _ (h8.row (List.mem_cons_self ..))
                    have a1 : W7.cell? ⟨G, i, none⟩ = some (.bool true) := (cell_of_row W7 G i _ _ _ (h8.row (List.mem_cons_of_mem _ (List.mem_cons_of_mem _ (List.mem_cons_self ..))))).trans ((ownA_get hi).trans (by rw [← HBO.out]))
                    have H8 := Lib.hid (h8.pop.pop)
                    have HW7 := Lib.hid hW7
                    clear h7 h8 hW7 H6
                    go_upto_region 44 with fail
                    rw [← HW7.out]
                    go_quiet (fail)
                    go_wp2_with fail
                    go_roundg j
                    case measure => omega
                    case rel => exact ⟨i + 1, by show _ = Value.int .i64 (lastF own hv (i + 1)); rw [HL.out], by go_num, by omega, H8.out.below (below_drewN (Below.refl _ _) _)⟩
                  · subst hLv
                    subst hbt
                    have HBO := Lib.hid hbo
                    clear hbo
                    go_wp2_with fail
                    refine CG.out.mono ?_
                    rintro e w6 ⟨rfl, h6⟩
                    have H6 := Lib.hid (h6.push (g := w6.heap.size) (ob := .cells #[.int .i64 0, .int .i64 (lastF own hv i), .string ⟨#[]⟩, .slice none 0 0] 33 (0, 0)) ((Below.refl w6.heap.size w6).alloc (Nat.le_refl _) (.cells #[.int .i64 0, .int .i64 (lastF own hv i), .string ⟨#[]⟩, .slice none 0 0] 33)) (Nat.le_refl _) (heap_alloc_new _ _))
                    clear h6 a1 a3
                    go_wp2_with fail
                    refine (CFI.out _ _ H6.out).mono ?_
                    rintro e w7 ⟨rfl, h7⟩
                    have h8 := h7.push (g := w7.heap.size) (ob := .cells #[.string (s i).name, .int .i64 (s i).owner, .int .i64 (s i).bits, .bool true, .int .i64 (s i).kind, .int .i64 (s i).num, .string (s i).text, .slice none 0 0] 35 (0, 0)) ((Below.refl w7.heap.size w7).alloc (Nat.le_refl _) (.cells #[.string (s i).name, .int .i64 (s i).owner, .int .i64 (s i).bits, .bool true, .int .i64 (s i).kind, .int .i64 (s i).num, .string (s i).text, .slice none 0 0] 35)) (Nat.le_refl _) (heap_alloc_new _ _)
                    obtain ⟨W7, hW7⟩ : ∃ W7, W7 = w7.alloc (.cells #[.string (s i).name, .int .i64 (s i).owner, .int .i64 (s i).bits, .bool true, .int .i64 (s i).kind, .int .i64 (s i).num, .string (s i).text, .slice none 0 0] 35) := ⟨_, rfl⟩
                    rw [← hW7] at h8
                    have v1 := cell_of_row W7 w6.heap.size 1 _ _ _ (h8.row (List.mem_cons_of_mem _ (List.mem_cons_self ..)))
                    have s3 := cell_of_row W7 w7.heap.size 3 _ _ _ (h8.row (List.mem_cons_self ..))
                    have a1 : W7.cell? ⟨G, i, none⟩ = some (.bool false) := (cell_of_row W7 G i _ _ _ (h8.row (List.mem_cons_of_mem _ (List.mem_cons_of_mem _ (List.mem_cons_self ..))))).trans ((ownA_get hi).trans (by rw [← HBO.out]))
                    have H8 := Lib.hid (h8.pop.pop)
                    have HW7 := Lib.hid hW7
                    clear h7 h8 hW7 H6
                    go_upto_region 44 with fail
                    rw [← HW7.out]
                    go_quiet (fail)
                    go_wp2_with fail
                    go_roundg j
                    case measure => omega
                    case rel => exact ⟨i + 1, by show _ = Value.int .i64 (lastF own hv (i + 1)); rw [HL.out], by go_num, by omega, H8.out.below (below_drewN (Below.refl _ _) _)⟩
                · obtain rfl : i = q + 2 := by omega
                  have CD := Lib.hid (chain_delete (n := q + 2) (by omega) (by omega) HCH.out.nm HLS.out)
                  unfold xN at CD
                  go_wp2_with fail
                  refine CD.out.mono ?_
                  rintro e w6 ⟨rfl, h6⟩
                  have CG := chain_gone h6 (k := q + 1) (by omega) (by omega)
                  rw [show ((q + 1 : Nat) : Int) = (q : Int) + 2 - 1 from by omega] at CG
                  unfold xN at CG
                  have CG := Lib.hid CG
                  clear h6 CD
                  go_wp2_with fail
                  refine CG.out.mono ?_
                  rintro e w7 ⟨rfl, h7⟩
                  have CH := Lib.hid (fun W (hW : Below w7.heap.size w7 W) => chain_holder (n := q + 2) (by omega) (by omega) (h7.below hW))
                  unfold xN at CH
                  clear h7 CG
                  go_wp2_with fail
                  refine (CH.out _ ((Below.refl w7.heap.size w7).alloc (Nat.le_refl _) _)).mono ?_
                  rintro e w8 ⟨rfl, h8⟩
                  obtain ⟨T9, -, -, hb9⟩ := h8
                  have HB9 := Lib.hid hb9
                  clear hb9 CH
                  go_wp2_with fail
                  go_ret
                  exact ⟨rfl, HB1.out.trans (HB9.out.mono HB1.out.size)⟩
end Go.Proofs.YtnphgcbknfmapaaGreatDoor
namespace Go.Proofs.YtnphgcbknfmapaaGreatDoor
open Go.RowKit Go.Lib
set_option linter.unusedVariables false
set_option linter.unusedSimpArgs false

set_option maxRecDepth 100000 in
theorem inherit_many1 (n0 : Int) (set clr : List Int) (A1 A2 : Option Addr) (c1 c2 : Nat) (w : World) (hn0 : I64 n0) (g1 : (20 : Int) < (set.length : Int)) :
    Calls Tryz.prog 5 #[.int .i64 n0, .slice A1 set.length c1, .slice A2 clr.length c2] w fun e w' => e = .returned (.bool true) ∧ Below w.heap.size w w' := by
  have CF := Lib.hid (pfirst_c w)
  have CN0 := Lib.hid (fun W => onumber_c n0 9 W hn0 (by omega) (by omega))
  obtain ⟨q, hq, hq8⟩ : ∃ q : Nat, n0 % 9 = (q : Int) ∧ q ≤ 8 := ⟨(n0 % 9).toNat, by omega, by omega⟩
  rw [hq] at CN0
  clear hq
  go_enter Tryz.func5, Tryz.ntmps5
  go_wp2_with fail
  refine CF.out.mono ?_
  rintro e w1 ⟨rfl, hb1⟩
  have HB1 := Lib.hid hb1
  clear hb1
  go_wp2_with fail
  refine (CN0.out _).mono ?_
  rintro e w1' ⟨rfl, rfl⟩
  go_wp2_with fail
  go_ret
  exact ⟨rfl, HB1.out⟩
set_option maxRecDepth 100000 in
theorem inherit_many2 (n0 : Int) (set clr : List Int) (A1 A2 : Option Addr) (c1 c2 : Nat) (w : World) (hn0 : I64 n0) (g1 : ¬ (20 : Int) < (set.length : Int)) (g2 : (10 : Int) < (clr.length : Int)) :
    Calls Tryz.prog 5 #[.int .i64 n0, .slice A1 set.length c1, .slice A2 clr.length c2] w fun e w' => e = .returned (.bool true) ∧ Below w.heap.size w w' := by
  have CF := Lib.hid (pfirst_c w)
  have CN0 := Lib.hid (fun W => onumber_c n0 9 W hn0 (by omega) (by omega))
  obtain ⟨q, hq, hq8⟩ : ∃ q : Nat, n0 % 9 = (q : Int) ∧ q ≤ 8 := ⟨(n0 % 9).toNat, by omega, by omega⟩
  rw [hq] at CN0
  clear hq
  go_enter Tryz.func5, Tryz.ntmps5
  go_wp2_with fail
  refine CF.out.mono ?_
  rintro e w1 ⟨rfl, hb1⟩
  have HB1 := Lib.hid hb1
  clear hb1
  go_wp2_with fail
  refine (CN0.out _).mono ?_
  rintro e w1' ⟨rfl, rfl⟩
  go_wp2_with fail
  go_ret
  exact ⟨rfl, HB1.out⟩
theorem propsInherit_c (n0 : Int) (set : List Int) (A1 : Option Addr) (c1 : Nat) (clr : List Int) (A2 : Option Addr) (c2 : Nat) (w : World) (hn0 : I64 n0) (hs1 : ArgI w A1 set) (hs2 : ArgI w A2 clr) :
    Calls Tryz.prog 5 #[.int .i64 n0, .slice A1 set.length c1, .slice A2 clr.length c2] w fun e w' => e = .returned (.bool true) ∧ Below w.heap.size w w' := by
  by_cases h1 : set.length ≤ 20
  · by_cases h2 : clr.length ≤ 10
    · exact inherit_yes n0 set clr A1 A2 c1 c2 w hn0 hs1 hs2 h1 h2
    · exact inherit_many2 n0 set clr A1 A2 c1 c2 w hn0 (by omega) (by omega)
  · exact inherit_many1 n0 set clr A1 A2 c1 c2 w hn0 (by omega)
end Go.Proofs.YtnphgcbknfmapaaGreatDoor
