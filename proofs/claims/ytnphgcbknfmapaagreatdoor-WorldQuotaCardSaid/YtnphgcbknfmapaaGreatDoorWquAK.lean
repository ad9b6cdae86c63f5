/- Contracts of the functions that the statement reaches, and the plain mathematics beneath: several texts joined. -/
import Derived.Maps.RangeWalk
import Derived.Test.YtnphgcbknfmapaaGreatDoorWquAI
namespace Go.Proofs.YtnphgcbknfmapaaGreatDoor
open Go.RowKit Go.Lib Go.Maps
set_option linter.unusedVariables false
set_option linter.unusedSimpArgs false

def ptrV (c : Option Nat) : Value := .pointer (c.map fun g => ⟨g, 0, none⟩)
theorem ptrR_form {v : Value} {y : DataW Unit × List MemPlace} (h : ptrR v = some y) : ∃ c : Option Nat, v = ptrV c := by
  unfold ptrR at h
  split at h
  · exact ⟨none, rfl⟩
  · rename_i g
    exact ⟨some g, rfl⟩
  · cases h
theorem ptrV_lit {c : Option Nat} {y : DataW Unit × List MemPlace} (h : ptrR (ptrV c) = some y) : y.1 = .lit (.int .i64 (c.elim (-1) fun g => (g : Int))) := by
  cases c with
  | none =>
    simp [ptrV, ptrR] at h
    rw [← h]
    rfl
  | some g =>
    simp [ptrV, ptrR] at h
    rw [← h]
    rfl
/-- The entry that has come is an object's. -/
theorem came {T : List OM} {k : Int} {c : Option Nat} {y : DataW Unit × List MemPlace} {left : Lit → Bool} (hl : ∀ kl, left kl = true → ∃ z ∈ T, kl = .int .i64 z.o.id) (hk : left (.int .i64 k) = true) (hy : ptrR (ptrV c) = some y) (hat : ∀ zd, (DataW.map (datT T)).atKey (.int .i64 k) zd = y.1) :
    ∃ z, findT T k = some z ∧ c = some z.g := by
  obtain ⟨z, hz, e⟩ := hl _ hk
  injection e with _ e
  subst e
  obtain ⟨u, hu⟩ : ∃ u, findT T z.o.id = some u := by
    cases hf : findT T z.o.id with
    | some u => exact ⟨u, rfl⟩
    | none =>
      unfold findT at hf
      rw [List.find?_eq_none] at hf
      have := hf z hz
      simp at this
  refine ⟨u, hu, ?_⟩
  have h1 := hat (.lit (.int .i64 (-1)))
  rw [datT_at, hu, ptrV_lit hy] at h1
  injection h1 with h1
  injection h1 with _ h1
  cases c with
  | none => simp only [Option.elim] at h1; omega
  | some g => simp only [Option.elim] at h1; congr 1; omega
/-- What has come already lies in the new table. -/
def InO (T T' : List OM) (left : Lit → Bool) : Prop := ∀ o : OB, o ∈ obT T' ↔ o ∈ obT T ∧ left (.int .i64 o.id) = false
theorem has_datT {T : List OM} {kl : Lit} (h : Maps.has (DataW.map (datT T)) kl = true) : ∃ z ∈ T, kl = .int .i64 z.o.id := by
  unfold Maps.has at h
  obtain ⟨p, hp, hk⟩ := List.any_eq_true.1 h
  unfold datT at hp
  obtain ⟨z, hz, rfl⟩ := List.mem_map.1 hp
  exact ⟨z, hz, (WideAt.sameKey_eq hk).symm⟩
theorem has_of {T : List OM} {o : OB} (h : o ∈ obT T) : Maps.has (DataW.map (datT T)) (.int .i64 o.id) = true := by
  obtain ⟨z, hz, rfl⟩ := List.mem_map.1 h
  unfold Maps.has
  rw [List.any_eq_true]
  exact ⟨(.int .i64 z.o.id, .lit (.int .i64 (z.g : Int))), List.mem_map.2 ⟨z, hz, rfl⟩, by simp [Lit.sameKey]⟩
theorem inO_start (T : List OM) : InO T [] (Maps.has (DataW.map (datT T))) := by
  intro o
  constructor
  · intro h
    cases h
  · rintro ⟨h1, h2⟩
    rw [has_of h1] at h2
    cases h2
theorem inO_step {T T' : List OM} {left : Lit → Bool} {z z' : OM} (h : InO T T' left) (hs : SortO (obT T)) (hz : findT T z.o.id = some z) (e : z'.o = z.o) : InO T (insT T' z') (fun kl => left kl && !kl.sameKey (.int .i64 z.o.id)) := by
  intro o
  have hzm : z.o ∈ obT T := List.mem_map_of_mem (findT_some hz).1
  constructor
  · intro ho
    obtain ⟨u, hu, rfl⟩ := List.mem_map.1 ho
    rcases mem_insT.1 hu with rfl | hu
    · rw [e]
      exact ⟨hzm, by simp [Lit.sameKey]⟩
    · have := (h u.o).1 (List.mem_map_of_mem hu)
      exact ⟨this.1, by show (left (.int .i64 u.o.id) && _) = false; rw [this.2]; rfl⟩
  · rintro ⟨h1, h2⟩
    by_cases hid : o.id = z.o.id
    · have e1 : o = z.o := by
        have a1 := getO_of_mem hs h1
        have a2 := getO_of_mem hs hzm
        rw [hid, a2] at a1
        injection a1 with a1
        exact a1.symm
      rw [e1, ← e]
      exact List.mem_map_of_mem (mem_insT.2 (.inl rfl))
    · have h3 : left (.int .i64 o.id) = false := by
        have : (Lit.int .i64 o.id).sameKey (.int .i64 z.o.id) = false := by simp [Lit.sameKey, hid]
        have h4 : (left (.int .i64 o.id) && !(Lit.int .i64 o.id).sameKey (.int .i64 z.o.id)) = false := h2
        rw [this] at h4
        simpa using h4
      obtain ⟨u, hu, e2⟩ := List.mem_map.1 ((h o).2 ⟨h1, h3⟩)
      rw [← e2]
      exact List.mem_map_of_mem (mem_insT.2 (.inr hu))

theorem ranges_same {w w' : World} {b r n cnt : Nat} {D : DataW Unit} {left : Lit → Bool} (h : w.ranges Tryz.prog 3 ptrR b r n D left cnt) (hb : w'.heap[b]? = w.heap[b]?) (hr : w'.heap[r]? = w.heap[r]?) : w'.ranges Tryz.prog 3 ptrR b r n D left cnt := by
  obtain ⟨es, clock, since, seen, c0, e1, F, hs, hD, e2, rest⟩ := h
  exact ⟨es, clock, since, seen, c0, hb.trans e1, F, hs, hD, hr.trans e2, rest⟩

set_option maxRecDepth 100000 in
set_option maxHeartbeats 4000000 in
theorem tclone_c {w : World} {B a m : Nat} {T : List OM} {mx : Int} (h : TS w B a m T mx) (hln : ∀ x ∈ T, x.o.defs.length ≤ 1000 ∧ x.o.slots.length ≤ 1000) :
    Calls Tryz.prog 82 #[.pointer (some ⟨a, 0, none⟩)] w fun e w' => ∃ a' m' T', e = .returned (.pointer (some ⟨a', 0, none⟩)) ∧ TS w' w.heap.size a' m' T' mx ∧ obT T' = obT T ∧ Below w.heap.size w w' := by
  have hmm := @run_makeMap Tryz.prog
  obtain ⟨w1, hw1⟩ : ∃ w1, w1 = (w.alloc (.map #[] 0)).alloc (.cells #[.map (some w.heap.size), .int .i64 mx] 84) := ⟨_, rfl⟩
  have hb1 : Below w.heap.size w w1 := by rw [hw1]; exact ((Below.refl _ _).alloc (Nat.le_refl _) _).alloc (by simp) _
  have hz1 : w1.heap.size = w.heap.size + 2 := by rw [hw1]; simp
  have htab1 : w1.heap[w.heap.size + 1]? = some (.cells #[.map (some w.heap.size), .int .i64 mx] 84 (0, 0)) := by
    rw [hw1]
    have := heap_alloc_new (w.alloc (.map #[] 0)) (.cells #[.map (some w.heap.size), .int .i64 mx] 84)
    simpa using this
  have hm1 : w1.ownsMap Tryz.prog 3 ptrR w.heap.size 0 (.map (datT [])) := by rw [hw1]; exact (World.ownsMap_made w _ _ _).alloc _
  have hmxr := h.tab.mxr
  have hG1 : TabG w1 w.heap.size (w.heap.size + 1) w.heap.size [] mx mx := ⟨htab1, hm1, by simp, by simp [blkT], by simp [blkT], .nil, by simp, hmxr, by simp⟩
  have h1 := h.tab.below hb1
  have c0 := h1.c0
  have c1 := (h.tab.alloc (.map #[] 0)).c1
  have c00 := h.tab.c0
  have hmap1 := h1.map
  have H := Lib.hid h
  have HLN := Lib.hid hln
  have HB1 := Lib.hid hb1
  have HZ1 := Lib.hid hz1
  have HG1 := Lib.hid hG1
  have HW1 := Lib.hid hw1
  have hm1lt : m < w.heap.size := h.tab.lt m (List.mem_cons_of_mem _ (List.mem_cons_self ..))
  clear h hln hb1 hz1 htab1 hm1 hG1 h1 hw1
  go_enter Tryz.func82, Tryz.ntmps82
  go_upto_region 2 with fail
  rw [← HW1.out]
  clear c1 c00
  go_wp2_with (first
    | (at_range; refine wpList_range_own _ rfl _ 82 rfl 3 81 tkeyed tmap ptrR m T.length (.map (datT T)) rfl hmap1 ?_; intro wA hrg0 hg0 hs0)
    | fail)
  go_frame
  have HBA := Lib.hid (show Below w.heap.size w wA from HB1.out.grown hg0 HB1.out.size (fun j hj => by cases hj))
  have HGA := Lib.hid (HG1.out.below ((Below.refl _ _).grown hg0 (Nat.le_refl _) (fun j hj => by cases hj)))
  have HRG := Lib.hid hrg0
  have HZA := Lib.hid hs0
  have HKP := Lib.hid hg0
  clear hrg0 hg0 hs0 c0 hmap1
  go_loopw [4] (fun _ wr => ∃ (left : Lit → Bool) (cnt : Nat) (T' : List OM), wr.ranges Tryz.prog 3 ptrR m w1.heap.size T.length (.map (datT T)) left cnt ∧ (∀ kl, left kl = true → ∃ z ∈ T, kl = .int .i64 z.o.id) ∧
      TabG wr w.heap.size (w.heap.size + 1) w.heap.size T' mx mx ∧ InO T T' left ∧ BrT T' ∧ (w1.heap.size ∉ blkT T') ∧ T'.length + cnt ≤ T.length ∧ Below w.heap.size w wr)
    (fun _ wr => wr.rangeLeft m w1.heap.size)
  case atStart => exact ⟨_, _, [], HRG.out, fun kl hk => has_datT hk, HGA.out, inO_start T, (fun x hx => nomatch hx), (by simp [blkT]), (by rw [datT_size]; simp), HBA.out⟩
  case round =>
    obtain ⟨left, cnt, T', hrg, hlf, hG, hin, hbr, hnr, hlc, hbw⟩ := hrel
    have HR := Lib.hid hrg
    have HLF := Lib.hid hlf
    have HG := Lib.hid hG
    have HIN := Lib.hid hin
    have HBR := Lib.hid hbr
    have HNR := Lib.hid hnr
    have HBW := Lib.hid hbw
    have HLC := Lib.hid hlc
    clear hlf hG hin hbr hnr hlc hbw
    go_wp2_with (first
      | (at_next; refine wpList_next_ranges _ rfl _ rfl 3 tkeyed ptrR (Value.int .i64) ptrV (fun key kl hkey => by obtain ⟨x, rfl, _⟩ := Maps.keyOf_int_inv tkey hkey; exact ⟨x, rfl⟩) (fun v y hv => ptrR_form hv) m w1.heap.size T.length (.map (datT T)) left cnt rfl hrg ?_ ?_)
      | fail)
    · intro hc0 hl0
      clear hrg
      have hoT : obT T' = obT T := sort_ext HG.out.sort H.out.tab.sort fun x => by
        rw [HIN.out x]
        exact ⟨fun hx => hx.1, fun hx => ⟨hx, hl0 _⟩⟩
      have HTS := Lib.hid (show TS wr w.heap.size (w.heap.size + 1) w.heap.size T' mx from ⟨⟨HG.out.tab, HG.out.map, HG.out.objs, HG.out.sep, HG.out.base, HG.out.sort, HG.out.few, HG.out.mxr, HG.out.rng⟩, by rw [hoT]; exact H.out.ok, fun z hz s hs => by
        have h1 : z.o ∈ obT T := by rw [← hoT]; exact List.mem_map_of_mem hz
        obtain ⟨u, hu, e⟩ := List.mem_map.1 h1
        exact H.out.flat u hu s (by rw [e]; exact hs), HBR.out⟩)
      have HOT := Lib.hid hoT
      clear hoT
      go_wp2_with fail
      go_ret
      exact ⟨_, _, T', rfl, HTS.out, HOT.out, HBW.out⟩
    · intro k c kl y1 y2 wn cnt' hkey hlk hy hat hrgn hlt hgn hsn hen
      obtain ⟨k', e1, rfl, hwk⟩ := Maps.keyOf_int_inv tkey hkey
      injection e1 with _ e1
      subst e1
      obtain ⟨z, hz, rfl⟩ := came HLF.out hlk hy hat
      have hzm := (findT_some hz).1
      have hid : z.o.id = k := (findT_some hz).2
      subst hid
      have hgb : ∀ b, b < w.heap.size → wn.heap[b]? = w.heap[b]? := fun b hb => by
        have hne : b ≠ w1.heap.size := by have := HZ1.out; omega
        exact (hgn.block b (Nat.lt_of_lt_of_le hb HBW.out.size) (fun e => hne (by injection e))).trans (HBW.out.block b hb)
      have hbn : Below w.heap.size w wn := HBW.out.grown hgn HBW.out.size (fun j hj => by injection hj with hj; have := HZ1.out; omega)
      have hGn : TabG wn w.heap.size (w.heap.size + 1) w.heap.size T' mx mx := HG.out.keep fun b hb => by
        have hne : b ≠ w1.heap.size := by
          rcases List.mem_cons.1 hb with rfl | hb
          · have := HZ1.out; omega
          rcases List.mem_cons.1 hb with rfl | hb
          · have := HZ1.out; omega
          · exact fun e => HNR.out (by rw [← e]; exact hb)
        exact hgn.block b (HG.out.lt b hb) (fun e => hne (by injection e))
      have htn := H.out.tab.below hbn
      have hob := htn.objs z hzm
      obtain ⟨Ad, cd, hdv⟩ : ∃ A C, z.dv = .slice A z.o.defs.length C := by obtain ⟨A, C, e, _⟩ := own_formO hob.defs; exact ⟨A, C, e⟩
      obtain ⟨As, cs, hsv⟩ : ∃ A C, z.sv = .slice A z.o.slots.length C := by obtain ⟨A, C, e, _⟩ := own_formO hob.slots; exact ⟨A, C, e⟩
      have hbare := H.out.bare z hzm
      have hflat := H.out.flat z hzm
      have hlen := HLN.out z hzm
      have hkz := H.out.tab.rng z hzm
      have hki : I64 z.o.id := ⟨by omega, by omega⟩
      have KC := Lib.hid (show ∀ W, Below wn.heap.size wn W → ∀ j, W.cell? ⟨z.g, j, none⟩ = (#[.int .i64 z.o.id, .int .i64 z.o.parent, .int .i64 z.o.owner, .int .i64 z.o.place, .int .i64 z.o.flags, .int .i64 z.o.quota, .string z.o.name, .slice Ad z.o.defs.length cd, .slice As z.o.slots.length cs, .slice none 0 0] : Array Value)[j]? from fun W hW j => by
        have e := cellX htn hW hzm j
        unfold OM.cells at e
        rw [hdv, hsv] at e
        exact e)
      have CO := Lib.hid (show Calls Tryz.prog 43 #[.agg #[.int .i64 z.o.id, .int .i64 z.o.parent, .int .i64 z.o.owner, .int .i64 z.o.place, .int .i64 z.o.flags, .int .i64 z.o.quota, .string z.o.name, .slice Ad z.o.defs.length cd, .slice As z.o.slots.length cs, .slice none 0 0]] wn (fun e w' => ∃ A2 c2 A3 c3, e = .returned (.agg #[.int .i64 z.o.id, .int .i64 z.o.parent, .int .i64 z.o.owner, .int .i64 z.o.place, .int .i64 z.o.flags, .int .i64 z.o.quota, .string z.o.name, .slice A2 z.o.defs.length c2, .slice A3 z.o.slots.length c3, .slice none 0 0]) ∧ CpO wn w' z.o (.slice A2 z.o.defs.length c2) (.slice A3 z.o.slots.length c3)) from by
        have h0 := object_r (w := wn) z hob.defs hob.slots hbare.2 hflat hlen.1 hlen.2
        unfold OM.cells at h0
        rw [hdv, hsv] at h0
        refine h0.mono ?_
        rintro e w3 ⟨dv', sv', rfl, hcp⟩
        obtain ⟨Ad2, cd2, rfl⟩ : ∃ A C, dv' = .slice A z.o.defs.length C := by obtain ⟨A, C, e, _⟩ := own_formO hcp.defs; exact ⟨A, C, e⟩
        obtain ⟨As2, cs2, rfl⟩ : ∃ A C, sv' = .slice A z.o.slots.length C := by obtain ⟨A, C, e, _⟩ := own_formO hcp.slots; exact ⟨A, C, e⟩
        exact ⟨_, _, _, _, rfl, hcp⟩)
      have q0 := KC.out wn (Below.refl _ _) 0
      have q1 := KC.out wn (Below.refl _ _) 1
      have q2 := KC.out wn (Below.refl _ _) 2
      have q3 := KC.out wn (Below.refl _ _) 3
      have q4 := KC.out wn (Below.refl _ _) 4
      have q5 := KC.out wn (Below.refl _ _) 5
      have q6 := KC.out wn (Below.refl _ _) 6
      have q7 := KC.out wn (Below.refl _ _) 7
      have q8 := KC.out wn (Below.refl _ _) 8
      have q9 := KC.out wn (Below.refl _ _) 9
      have HZ := Lib.hid hz
      have HRN := Lib.hid hrgn
      have HBN := Lib.hid hbn
      have HGN := Lib.hid hGn
      have HLK := Lib.hid hlk
      have HLT := Lib.hid hlt
      have HSN := Lib.hid hsn
      have HKZ := Lib.hid hkz
      change (Instr.entry (.pointer (some ⟨w1.heap.size, 0, none⟩))).run Tryz.prog wn = .ok (.tuple #[.int .i64 z.o.id, .pointer (some ⟨z.g, 0, none⟩)]) wn at hen
      clear hrg hy hat hgn hrgn hgb hbn hGn htn hob hdv hsv hbare hflat hlen hz hlk hlt hsn hkz hkey hwk
      go_wp2_with fail
      refine CO.out.mono ?_
      rintro e w3 ⟨Ad2, cd2, As2, cs2, rfl, hcp⟩
      obtain ⟨wq, hwq⟩ : ∃ wq, wq = w3.alloc (.cells #[.int .i64 z.o.id, .int .i64 z.o.parent, .int .i64 z.o.owner, .int .i64 z.o.place, .int .i64 z.o.flags, .int .i64 z.o.quota, .string z.o.name, .slice Ad2 z.o.defs.length cd2, .slice As2 z.o.slots.length cs2, .slice none 0 0] 29) := ⟨_, rfl⟩
      have hbq3 : Below w3.heap.size w3 wq := by rw [hwq]; exact (Below.refl _ _).alloc (Nat.le_refl _) _
      have hbq : Below wn.heap.size wn wq := hcp.below.trans (hbq3.mono hcp.below.size)
      have hgq : wq.heap[w3.heap.size]? = some (.cells #[.int .i64 z.o.id, .int .i64 z.o.parent, .int .i64 z.o.owner, .int .i64 z.o.place, .int .i64 z.o.flags, .int .i64 z.o.quota, .string z.o.name, .slice Ad2 z.o.defs.length cd2, .slice As2 z.o.slots.length cs2, .slice none 0 0] 29 (0, 0)) := by rw [hwq]; exact heap_alloc_new w3 _
      have htq := HGN.out.below hbq
      have d0 := htq.c0
      have howq := htq.map
      have hfew : T'.length < 512 := by have := HLC.out; have := HLT.out; have := H.out.tab.few; omega
      have HWQ := Lib.hid hwq
      have HBQ := Lib.hid hbq
      have HGQ := Lib.hid hgq
      have HB3 := Lib.hid hbq3
      have HCP := Lib.hid hcp
      have HTQ := Lib.hid htq
      have HFEW := Lib.hid hfew
      clear hcp hwq hbq hgq hbq3 htq hen q0 q1 q2 q3 q4 q5 q6 q7 q8 q9
      go_upto_region 6 with fail
      rw [← HWQ.out]
      go_wp2_with (first
        | (at_mapUpdate; refine wpList_mapUpdate_own _ rfl _ _ _ 82 rfl 3 81 tkeyed tmap ptrR w.heap.size T'.length (.map (datT T')) rfl howq (by unfold maxLen; omega) (.int .i64 z.o.id) (.pointer (some ⟨w3.heap.size, 0, none⟩)) (.int .i64 z.o.id) rfl rfl (tkey_of hki) (.lit (.int .i64 (w3.heap.size : Int))) [] rfl ?_; intro w5 hown5 hgrow5; go_frame)
        | fail)
      have hcp := HCP.out
      have hs3 := hcp.below.size
      have hrl := HR.out.lt
      have hsn := HSN.out
      have hz1 := HZ1.out
      have hqs : w3.heap.size ≤ wq.heap.size := HB3.out.size
      have hobj : ObjAt wq w.heap.size ⟨z.o, w3.heap.size, .slice Ad2 z.o.defs.length cd2, .slice As2 z.o.slots.length cs2⟩ :=
        ⟨HGQ.out, ownsRow_base (own_keepO hcp.defs HB3.out) (by omega), ownsRow_base (own_keepO hcp.slots HB3.out) (by omega)⟩
      have hbk : ∀ b ∈ (⟨z.o, w3.heap.size, .slice Ad2 z.o.defs.length cd2, .slice As2 z.o.slots.length cs2⟩ : OM).blocks, wn.heap.size ≤ b := by
        intro b hb
        rcases OM.mem_blocks.1 hb with rfl | hb | hb
        · exact hs3
        · exact (hcp.defs.lt b hb).1
        · exact (hcp.slots.lt b hb).1
      have hnd : (⟨z.o, w3.heap.size, .slice Ad2 z.o.defs.length cd2, .slice As2 z.o.slots.length cs2⟩ : OM).blocks.Nodup := by
        have h1 := fun b hb => (hcp.defs.lt b hb).2
        have h2 := fun b hb => (hcp.slots.lt b hb).2
        have h3 := hcp.apart
        unfold OM.blocks
        simp only
        cases e1 : (Value.slice Ad2 z.o.defs.length cd2).ownBlock with
        | none =>
          cases e2 : (Value.slice As2 z.o.slots.length cs2).ownBlock with
          | none => simp
          | some b2 => have := h2 b2 e2; simp; omega
        | some b1 =>
          have := h1 b1 e1
          cases e2 : (Value.slice As2 z.o.slots.length cs2).ownBlock with
          | none => simp; omega
          | some b2 =>
            have := h2 b2 e2
            have h4 := h3 b1 e1
            have h5 : b2 ≠ b1 := fun e => h4 (by rw [e2, e])
            simp
            omega
      have htn := HTQ.out.ins hobj hnd (fun b hb => ⟨by have := hbk b hb; omega, fun hm => by have := HG.out.lt b hm; have := hbk b hb; omega⟩) hown5 (fun b hb hn => hgrow5.block b hb (fun e => hn (by injection e))) (fun y hy e => by
        have h1 := ((HIN.out y.o).1 (List.mem_map_of_mem hy)).2
        have h2 := HLK.out
        have e' : y.o.id = z.o.id := e
        rw [e', h2] at h1
        cases h1) HKZ.out HFEW.out
      have hmq : m < wq.heap.size := by have := HBQ.out.size; have := HBW.out.size; omega
      have hrN := ranges_same HRN.out (w' := w5) ((hgrow5.block m hmq (fun e => by injection e; omega)).trans (HBQ.out.block m (by omega))) ((hgrow5.block w1.heap.size (by have := HBQ.out.size; omega) (fun e => by injection e; omega)).trans (HBQ.out.block w1.heap.size (by omega)))
      have hinN := inO_step (z' := ⟨z.o, w3.heap.size, .slice Ad2 z.o.defs.length cd2, .slice As2 z.o.slots.length cs2⟩) HIN.out H.out.tab.sort HZ.out rfl
      have hbN : BrT (insT T' ⟨z.o, w3.heap.size, .slice Ad2 z.o.defs.length cd2, .slice As2 z.o.slots.length cs2⟩) := by
        intro y hy
        rcases mem_insT.1 hy with rfl | hy
        · exact ⟨hcp.nils, hcp.nild⟩
        · exact HBR.out y hy
      have hnrN : w1.heap.size ∉ blkT (insT T' ⟨z.o, w3.heap.size, .slice Ad2 z.o.defs.length cd2, .slice As2 z.o.slots.length cs2⟩) := by
        intro hm
        rcases List.mem_append.1 ((blkT_ins T' _).mem_iff.1 hm) with hm | hm
        · have := hbk _ hm
          omega
        · exact HNR.out hm
      have hbw5 : Below w.heap.size w w5 := Below.grown (HBN.out.trans (HBQ.out.mono HBN.out.size)) hgrow5 (by have := HBQ.out.size; have := HBW.out.size; omega) (fun k hk => by injection hk with hk; omega)
      have HTN := Lib.hid htn
      have HRR := Lib.hid hrN
      have HNN := Lib.hid hinN
      have HBB := Lib.hid hbN
      have HNRN := Lib.hid hnrN
      have HBW5 := Lib.hid hbw5
      clear hown5 hgrow5 hobj hbk hnd htn hrN hinN hbN hnrN hbw5 hcp d0 howq
      go_roundw
      case rel => exact ⟨_, cnt', _, HRR.out, fun kl hk => HLF.out kl (by simp only [Bool.and_eq_true] at hk; exact hk.1), HTN.out, HNN.out, HBB.out, HNRN.out, by have := HLC.out; have := HLT.out; rw [insT_len]; omega, HBW5.out⟩
      case measure => rw [HRR.out.left_eq, HR.out.left_eq]; exact HLT.out
end Go.Proofs.YtnphgcbknfmapaaGreatDoor
