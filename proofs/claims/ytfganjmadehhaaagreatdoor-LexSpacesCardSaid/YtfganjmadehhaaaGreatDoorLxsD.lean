/- Contracts of the functions that the statement reaches, and the plain mathematics beneath: several texts joined. -/
import Derived.Test.YtfganjmadehhaaaGreatDoorLxsC
import Derived.Test.YtfganjmadehhaaaGreatDoorShelf
import Derived.Sort.Grow
import Derived.Sort.Row
import Derived.Maps.AppendAt
import Derived.Deep.RegionHeld3
import Derived.StillTailTactics
import Derived.IntWalk
import Derived.Test.YtfganjmadehhaaaGreatDoorLxsB
import Derived.Test.YtfganjmadehhaaaGreatDoorLxsA
namespace Go.Proofs.YtfganjmadehhaaaGreatDoor
open Go.RowKit Go.Lib Go.Sort
set_option linter.unusedVariables false

abbrev LeB (x y : List UInt8) : Bool := decide (x ≤ y)
theorem sort_const {a b : List (List UInt8)} (hp : b.Perm a) (hs : b.Pairwise (fun x y => decide (x ≤ y) = true)) : a.mergeSort (fun x y => decide (x ≤ y)) = b := by
  have h1 : (a.mergeSort (fun x y => decide (x ≤ y))).Perm b := (List.mergeSort_perm a _).trans hp.symm
  refine List.Perm.eq_of_pairwise (le := fun x y : List UInt8 => decide (x ≤ y) = true) ?_ ?_ hs h1
  · intro x y _ _ h1 h2
    exact List.le_antisymm (of_decide_eq_true h1) (of_decide_eq_true h2)
  · refine List.pairwise_mergeSort ?_ ?_ a
    · intro x y z h1 h2; exact decide_eq_true (List.le_trans (of_decide_eq_true h1) (of_decide_eq_true h2))
    · intro x y
      rw [Bool.or_eq_true]
      rcases List.le_total x y with h | h
      · exact .inl (decide_eq_true h)
      · exact .inr (decide_eq_true h)

/-- Texts that lie in a row. -/
def StrsAt (w : World) (g : Nat) (l : List ByteArray) : Prop := ∀ j, j < l.length → w.cell? ⟨g, 0 + j, none⟩ = some (.string (l.getD j ByteArray.empty))
theorem StrsAt.below {w w' : World} {g : Nat} {l : List ByteArray} {B : Nat} (h : StrsAt w g l) (hb : Below B w w') (hg : g < B) : StrsAt w' g l := fun j hj => (hb.cell (p := ⟨g, 0 + j, none⟩) hg).trans (h j hj)

/-- What sorting leaves. -/
theorem sorted_at {w w' : World} {g n : Nat} {os : Array Obj} {ss : List (List UInt8)} {l : List ByteArray} (hH : Holds encStr w g 0 ss.toArray) (hg : g < w.heap.size)
    (hl : ss.mergeSort (fun x y => decide (x ≤ y)) = l.map (·.data.toList)) (he : w' = grow (putRow encStr (Sort.ahead w n) g 0 (ss.mergeSort fun x y => decide (x ≤ y)).toArray) os) :
    StrsAt w' g l ∧ Below g w w' := by
  have hsz : (ss.mergeSort fun x y => decide (x ≤ y)).toArray.size = ss.toArray.size := by simp
  have hh := holds_putRow encStr (Sort.ahead w n) g 0 ss.toArray (ss.mergeSort fun x y => decide (x ≤ y)).toArray (holds_ahead _ _ _ _ _ _ hH) hsz
  have hlt : g < (putRow encStr (Sort.ahead w n) g 0 (ss.mergeSort fun x y => decide (x ≤ y)).toArray).heap.size := by
    have : (putRow encStr (Sort.ahead w n) g 0 (ss.mergeSort fun x y => decide (x ≤ y)).toArray).heap.size = w.heap.size := by unfold putRow mapBlock Sort.ahead; simp
    omega
  have hg' := holds_grow encStr _ os g 0 _ hlt hh
  rw [← he] at hg'
  refine ⟨fun j hj => ?_, ?_⟩
  · have := (hg' j (by rw [hl]; simpa using hj)).1
    rw [this, hl]
    congr 1
    unfold encStr
    congr 1
    rw [List.getElem!_toArray]
    rw [getElem!_pos _ _ (by simpa using hj), List.getElem_map, List.getD_eq_getElem?_getD, List.getElem?_eq_getElem hj]
    rfl
  · rw [he]
    refine ⟨rfl, rfl, rfl, ?_, fun k hk => ?_⟩
    · unfold grow putRow mapBlock Sort.ahead; simp
    · unfold grow putRow mapBlock Sort.ahead
      simp only
      rw [Array.getElem?_append_left (by simp; omega), Array.getElem?_modify, if_neg (by omega)]

def keysT : List UInt8 := [105, 102, 32, 101, 108, 115, 101, 105, 102, 32, 101, 108, 115, 101, 32, 101, 110, 100, 105, 102, 32, 102, 111, 114, 32, 105, 110, 32, 101, 110, 100, 102, 111, 114, 32, 119, 104, 105, 108, 101, 32, 101, 110, 100, 119, 104, 105, 108, 101, 32, 98, 114, 101, 97, 107, 32, 99, 111, 110, 116, 105, 110, 117, 101, 32, 114, 101, 116, 117, 114, 110, 32, 102, 111, 114, 107, 32, 101, 110, 100, 102, 111, 114, 107, 32, 116, 114, 121, 32, 101, 120, 99, 101, 112, 116, 32, 102, 105, 110, 97, 108, 108, 121, 32, 101, 110, 100, 116, 114, 121, 32, 97, 110, 121]
def keysF : List (List UInt8) := [[105, 102], [101, 108, 115, 101, 105, 102], [101, 108, 115, 101], [101, 110, 100, 105, 102], [102, 111, 114], [105, 110], [101, 110, 100, 102, 111, 114], [119, 104, 105, 108, 101], [101, 110, 100, 119, 104, 105, 108, 101], [98, 114, 101, 97, 107], [99, 111, 110, 116, 105, 110, 117, 101], [114, 101, 116, 117, 114, 110], [102, 111, 114, 107], [101, 110, 100, 102, 111, 114, 107], [116, 114, 121], [101, 120, 99, 101, 112, 116], [102, 105, 110, 97, 108, 108, 121], [101, 110, 100, 116, 114, 121], [97, 110, 121]]
def signsT : List UInt8 := [40, 32, 41, 32, 123, 32, 125, 32, 91, 32, 93, 32, 44, 32, 59, 32, 46, 32, 58, 32, 33, 32, 63, 32, 124, 32, 61, 32, 43, 32, 45, 32, 42, 32, 47, 32, 37, 32, 60, 32, 62, 32, 64, 32, 39, 32, 36, 32, 61, 61, 32, 33, 61, 32, 60, 61, 32, 62, 61, 32, 38, 38, 32, 124, 124, 32, 61, 62, 32, 46, 46]
def signsF : List (List UInt8) := [[40], [41], [123], [125], [91], [93], [44], [59], [46], [58], [33], [63], [124], [61], [43], [45], [42], [47], [37], [60], [62], [64], [39], [36], [61, 61], [33, 61], [60, 61], [62, 61], [38, 38], [124, 124], [61, 62], [46, 46]]
set_option maxRecDepth 100000 in
theorem keys_fields : Lib.fields keysT = keysF := by decide +kernel
set_option maxRecDepth 100000 in
theorem signs_fields : Lib.fields signsT = signsF := by decide +kernel
theorem keys_sorted : keysF.mergeSort (fun x y => decide (x ≤ y)) = keysL.map (·.data.toList) := sort_const (List.isPerm_iff.1 (by decide +kernel)) (by decide +kernel)
theorem signs_sorted : (signsF ++ [[96]]).mergeSort (fun x y => decide (x ≤ y)) = signsL.map (·.data.toList) := sort_const (List.isPerm_iff.1 (by decide +kernel)) (by decide +kernel)
theorem ascii_all {l : List UInt8} (h : l.all (fun b => decide (b.toNat < 128)) = true) : ∀ (j : Nat) b, l[j]? = some b → b.toNat < 128 := fun j b hb =>
  of_decide_eq_true (List.all_eq_true.1 h b (List.mem_of_getElem? hb))
abbrev SpaceAt (w : World) : Prop := Lib.TabIs Tryz.prog w "strings.asciiSpace" .u8 Lib.asciiSpaceTab

theorem keysFields_c (w : World) (ht : SpaceAt w) : Calls Tryz.prog 19 #[.string ⟨keysT.toArray⟩] w fun e w' =>
    e = .returned (.slice (some ⟨w.heap.size, 0, none⟩) 19 19) ∧ w.alloc (.cells (keysF.map fun l => Value.string ⟨l.toArray⟩).toArray 9) = w' := by
  refine (Tryz.strings_Fields_laid ⟨keysT.toArray⟩ w (by decide) (ascii_all (l := keysT) (by decide +kernel)) ht).mono ?_
  rintro e w' ⟨rfl, rfl⟩
  rw [show (⟨keysT.toArray⟩ : ByteArray).data.toList = keysT from rfl, keys_fields]
  exact ⟨rfl, rfl⟩
theorem signsFields_c (w : World) (ht : SpaceAt w) : Calls Tryz.prog 19 #[.string ⟨signsT.toArray⟩] w fun e w' =>
    e = .returned (.slice (some ⟨w.heap.size, 0, none⟩) 32 32) ∧ w.alloc (.cells (signsF.map fun l => Value.string ⟨l.toArray⟩).toArray 9) = w' := by
  refine (Tryz.strings_Fields_laid ⟨signsT.toArray⟩ w (by decide) (ascii_all (l := signsT) (by decide +kernel)) ht).mono ?_
  rintro e w' ⟨rfl, rfl⟩
  rw [show (⟨signsT.toArray⟩ : ByteArray).data.toList = signsT from rfl, signs_fields]
  exact ⟨rfl, rfl⟩

/-- A new row of texts, as sorting asks for it. -/
theorem holds_new (w : World) (ss : List (List UInt8)) : Holds encStr (w.alloc (.cells (ss.map fun l => Value.string ⟨l.toArray⟩).toArray 9)) w.heap.size 0 ss.toArray := by
  intro j hj
  have hb := heap_alloc_new w (.cells (ss.map fun l => Value.string ⟨l.toArray⟩).toArray 9)
  refine ⟨?_, by unfold World.frozen?; rw [hb]; simp⟩
  rw [Nat.zero_add, cell_of_row _ _ j _ _ _ hb]
  have hj' : j < ss.length := by simpa using hj
  simp [hj', encStr]

set_option maxRecDepth 100000 in
theorem keys_c (w : World) (ht : SpaceAt w) : Calls Tryz.prog 8 #[] w fun e w' =>
    ∃ g, e = .returned (.slice (some ⟨g, 0, none⟩) 19 19) ∧ g < w'.heap.size ∧ StrsAt w' g keysL ∧ Below w.heap.size w w' := by
  have FK := Lib.hid (keysFields_c w ht)
  obtain ⟨w1, hw1⟩ : ∃ w1, w1 = w.alloc (.cells (keysF.map fun l => Value.string ⟨l.toArray⟩).toArray 9) := ⟨_, rfl⟩
  have hH : Holds encStr w1 w.heap.size 0 keysF.toArray := by rw [hw1]; exact holds_new w keysF
  have hz : w.heap.size < w1.heap.size := by rw [hw1]; simp
  have hb : Below w.heap.size w w1 := by rw [hw1]; exact (Below.refl _ _).alloc (Nat.le_refl _) _
  have SC := Lib.hid (Tryz.slices_Sort_string w.heap.size 0 19 keysF w1 hH hz (by decide))
  rw [show keysF.length = 19 from rfl] at SC
  rw [← hw1] at FK
  have HH := Lib.hid hH
  have HB := Lib.hid hb
  clear hH hb hw1
  go_enter Tryz.func8, Tryz.ntmps8
  go_wp2_with fail
  refine FK.out.mono ?_
  rintro e w2 ⟨rfl, rfl⟩
  go_wp2_with fail
  refine SC.out.mono ?_
  rintro e w2 ⟨rfl, n, os, he⟩
  have SA := Lib.hid (sorted_at HH.out hz keys_sorted he)
  clear he
  go_wp2_with fail
  go_ret
  exact ⟨_, rfl, Nat.lt_of_lt_of_le hz SA.out.2.size, SA.out.1, HB.out.trans SA.out.2⟩

theorem lstr_info : (Tryz.prog.info? 9).map (fun i => (i.zero, i.size, i.bytes)) = some (some (.string ⟨#[]⟩), 1, 16) := by kernel_rfl
/-- A row of texts that the call owns, as sorting asks for it. -/
theorem holds_own {w : World} {base g n cap : Nat} {ss : List (List UInt8)} (h : w.ownsRow base 9 1 (.slice (some ⟨g, 0, none⟩) n cap) n (ss.map fun l => Value.string ⟨l.toArray⟩)) : Holds encStr w g 0 ss.toArray := by
  intro j hj
  have hj' : j < ss.length := by simpa using hj
  have hc := h.cells (g := g) rfl j (.string ⟨(ss[j]).toArray⟩) (by simp [hj'])
  have hadd : (⟨g, 0, none⟩ : Addr).add j = ⟨g, j, none⟩ := by unfold Addr.add; split <;> simp_all
  rw [hadd] at hc
  refine ⟨by rw [Nat.zero_add, hc]; simp [hj', encStr], ?_⟩
  rcases h.2 with ⟨e, _⟩ | ⟨g', cap', cur, e, _, hh, _⟩
  · cases e
  · injection e with e _ _; injection e with e; injection e with e _ _; subst e
    unfold World.frozen?; rw [hh]; simp
theorem own_new (w : World) (ss : List (List UInt8)) (hm : ss.length ≤ maxLen) : (w.alloc (.cells (ss.map fun l => Value.string ⟨l.toArray⟩).toArray 9)).ownsRow w.heap.size 9 1 (.slice (some ⟨w.heap.size, 0, none⟩) ss.length ss.length) ss.length (ss.map fun l => Value.string ⟨l.toArray⟩) :=
  ⟨by simp, .inr ⟨w.heap.size, ss.length, _, rfl, Nat.le_refl _, heap_alloc_new w _, Nat.le_refl _, hm, by simp, by simp only [Nat.mul_one]; exact List.take_of_length_le (by simp)⟩⟩

set_option maxRecDepth 100000 in
set_option maxHeartbeats 1000000 in
theorem signs_c (w : World) (ht : SpaceAt w) : Calls Tryz.prog 9 #[] w fun e w' =>
    ∃ g cap, e = .returned (.slice (some ⟨g, 0, none⟩) 33 cap) ∧ w.heap.size ≤ g ∧ g < w'.heap.size ∧ StrsAt w' g signsL ∧ Below w.heap.size w w' := by
  obtain ⟨i0, hi0, hz0, hz1, hz2⟩ := info_parts lstr_info
  have FK := Lib.hid (signsFields_c w ht)
  obtain ⟨w1, hw1⟩ : ∃ w1, w1 = w.alloc (.cells (signsF.map fun l => Value.string ⟨l.toArray⟩).toArray 9) := ⟨_, rfl⟩
  have hO : w1.ownsRow w.heap.size 9 1 (.slice (some ⟨w.heap.size, 0, none⟩) 32 32) 32 (signsF.map fun l => Value.string ⟨l.toArray⟩) := by rw [hw1]; exact own_new w signsF (by decide)
  have hz : w.heap.size < w1.heap.size := by rw [hw1]; simp
  have hb : Below w.heap.size w w1 := by rw [hw1]; exact (Below.refl _ _).alloc (Nat.le_refl _) _
  rw [← hw1] at FK
  have HO := Lib.hid hO
  have HB := Lib.hid hb
  clear hO hb hw1
  go_enter Tryz.func9, Tryz.ntmps9
  go_wp2_with fail
  refine FK.out.mono ?_
  rintro e w2 ⟨rfl, rfl⟩
  go_wp2_with (at_builtin; refine wpList_append_own_at _ rfl (.tmp 3) (.tmp 4) 23 rfl w.heap.size 9 i0 _ 1 16 Tryz.underlying23 hi0 hz0 hz1 hz2 rfl (by decide) (.slice (some ⟨w.heap.size, 0, none⟩) 32 32) 32 _ rfl (HO.out.alloc _) ⟨w1.heap.size, 0, none⟩ 1 1 [.string ⟨#[96]⟩] rfl rfl ?c1 ?c2 ?c3 ?c4 ?c5 ?_
               case c1 => exact World.news_of_block (cs := #[.string ⟨#[96]⟩]) (heap_alloc_new w1 _)
               case c2 => intro u hu; simp at hu; subst hu; rfl
               case c3 => decide
               case c4 => decide
               case c5 => simp; omega
               intro v' w3 hown' hgrow _ hob
               have HO3 := Lib.hid hown'
               have HG3 := Lib.hid hgrow
               clear hown' hgrow hob)
  obtain ⟨g, cap, hv, hbg, hlt⟩ := HO3.out.form (by decide)
  subst hv
  have hHs : Holds encStr w3 g 0 (signsF ++ [[96]]).toArray := holds_own (ss := signsF ++ [[96]]) (by rw [List.map_append]; exact HO3.out)
  have SC := Lib.hid (Tryz.slices_Sort_string g 0 cap (signsF ++ [[96]]) w3 hHs hlt (by decide))
  have HH := Lib.hid hHs
  rw [show (signsF ++ ([[96]] : List (List UInt8))).length = 33 from rfl] at SC
  clear hHs
  go_wp2_with fail
  refine SC.out.mono ?_
  rintro e w4 ⟨rfl, n, os, he⟩
  have SA := Lib.hid (sorted_at HH.out hlt signs_sorted he)
  have hz4 : w3.heap.size ≤ w4.heap.size := SA.out.2.size
  clear he
  go_wp2_with fail
  go_ret
  exact ⟨g, cap, rfl, hbg, by omega, SA.out.1, (Below.grown (HB.out.alloc (by omega) _) HG3.out (by simp; omega) (fun k hk => by injection hk with hk; subst hk; exact Nat.le_refl _)).trans (below_le' SA.out.2 hbg)⟩
end Go.Proofs.YtfganjmadehhaaaGreatDoor
namespace Go.Proofs.YtfganjmadehhaaaGreatDoor
open Go.RowKit Go.Lib
set_option linter.unusedVariables false

theorem quiet_add_left {P : Program} {f : FuncId} {args : Array Value} {w : World} {a n : Nat} {v : Value}
    (h : Calls P f args (w.drewN (a + n)) fun e w' => e = .returned v ∧ w.drewN (a + n) = w') :
    Calls P f args (w.drewN (a + n)) fun e w'' => e = .returned v ∧ ∃ m, w'' = w.drewN (a + m) :=
  h.mono fun _ _ ⟨he, hm⟩ => ⟨he, n, hm.symm⟩
theorem quiet_left {P : Program} {f : FuncId} {args : Array Value} {w : World} {n : Nat} {v : Value}
    (h : Calls P f args (w.drewN n) fun e w' => e = .returned v ∧ w.drewN n = w') : Calls P f args (w.drewN n) fun e w'' => e = .returned v ∧ ∃ m, w'' = w.drewN m :=
  h.mono fun _ _ ⟨he, hm⟩ => ⟨he, n, hm.symm⟩
theorem tab_keep {P : Program} {w w' : World} {n : String} {g : Nat} {k : IntKind} {zs : List Int} (hg : P.globalNamed n = some g) (h : TabIs P w n k zs) (e : w'.heap[g]? = w.heap[g]?) : TabIs P w' n k zs := by
  unfold TabIs World.var? at *
  rw [hg] at h ⊢
  simp only [Option.bind_some] at h ⊢
  rw [e]; exact h
/-- What lex asks of the variables. -/
structure LxEnv (w : World) (ea : Nat → Addr) : Prop where
  err : ErrsAt w ea
  spc : SpaceAt w
  str : StrcAt w
theorem LxEnv.below {w w' : World} {ea : Nat → Addr} {B : Nat} (h : LxEnv w ea) (hb : Below B w w') (hB : 24 ≤ B) : LxEnv w' ea := by
  have hk : ∀ p : Addr, p.block < 24 → w'.cell? p = w.cell? p := fun p hp => World.cell?_of_block (w := w) (hb.block p.block (by omega))
  obtain ⟨t1, p1, h1⟩ := h.str.syn
  obtain ⟨t2, p2, h2⟩ := h.str.rng
  refine ⟨h.err.below hb hB, tab_keep (g := 1) rfl h.spc (hb.block _ (Nat.lt_of_lt_of_le (by decide) hB)), ⟨⟨t1, p1, (hk ⟨21, 0, none⟩ (by decide)).trans h1⟩, ⟨t2, p2, (hk ⟨22, 0, none⟩ (by decide)).trans h2⟩, tab_keep (g := 19) rfl h.str.tab (hb.block _ (Nat.lt_of_lt_of_le (by decide) hB)), ?_⟩⟩
  have := h.str.room; have := hb.size; omega

/-- An error around a line. -/
def LxBad (B : Nat) (line : Int) (ev : Value) (e : Ending) (w' : World) : Prop :=
  ∃ A, B ≤ A ∧ w'.heap[A]? = some (.cells #[.int .i64 line, ev] 73 (0, 0)) ∧ e = .returned (.iface 70 (.pointer (some ⟨A, 0, none⟩)))
/-- What a word's walk shows. -/
def LxRes (ea : Nat → Addr) (R : Nat) (s : ByteArray) (i : Nat) (line : Int) (l : List Tok) (r : WR) (w : World) (e : Ending) (w' : World) : Prop :=
  Below R w w' ∧ match r with
  | .bad c => LxBad R line (.iface 199 (.pointer (some (ea c)))) e w'
  | .word n t => e = .returned .nilIface ∧ LxSt w' R s (i + n) line (l ++ [t])
theorem LxRes.mkBad {ea : Nat → Addr} {R c : Nat} {s : ByteArray} {i : Nat} {line : Int} {l : List Tok} {r : WR} {w w1 : World} (hr : r = .bad c) (hb : Below R w w1) (hR : R ≤ w1.heap.size) :
    LxRes ea R s i line l r w (.returned (.iface 70 (.pointer (some ⟨w1.heap.size, 0, none⟩)))) (w1.alloc (.cells #[.int .i64 line, .iface 199 (.pointer (some (ea c)))] 73)) := by
  subst hr
  exact ⟨hb.alloc hR _, _, hR, heap_alloc_new w1 _, rfl⟩
theorem LxRes.mkWord {ea : Nat → Addr} {R n : Nat} {s : ByteArray} {i : Nat} {line : Int} {l : List Tok} {r : WR} {t : Tok} {w w1 : World} (hr : r = .word n t) (hb : Below R w w1) (h : LxSt w1 R s (i + n) line (l ++ [t])) :
    LxRes ea R s i line l r w (.returned .nilIface) w1 := by
  subst hr
  exact ⟨hb, rfl, h⟩
theorem below_drewN {B : Nat} {w w' : World} (h : Below B w w') (n : Nat) : Below B w (w'.drewN n) := ⟨h.os, h.tape, h.output, h.size, h.block⟩
theorem contains_keys (x : ByteArray) : containsS (keysL.take 19) x = keysL.contains x := by
  have hlaw : ∀ a b : ByteArray, (a == b) = true ↔ a = b := fun a b => by
    show (a.data == b.data) = true ↔ a = b
    rw [beq_iff_eq]
    exact ⟨fun e => by cases a; cases b; simp only at e; rw [e], fun e => by rw [e]⟩
  rw [show keysL.take 19 = keysL from rfl, Bool.eq_iff_iff, containsS_iff, List.contains_iff_exists_mem_beq]
  constructor
  · intro h; exact ⟨x, h, (hlaw x x).2 rfl⟩
  · rintro ⟨y, h1, h2⟩; rw [(hlaw x y).1 h2]; exact h1
theorem sum_in (i n : Nat) (h : i + n ≤ 1000000000) : IntKind.i64.wrap ((i : Int) + (n : Int)) = (i : Int) + (n : Int) ∧ (0 : Int) ≤ (i : Int) + (n : Int) ∧ ((i : Int) + (n : Int)).toNat = i + n := ⟨IntWalk.i64_in _ (by omega), by omega, by omega⟩
/-- A word in a block of its own. -/
def TkB (w : World) (g : Nat) (a b c d e f h : Value) : Prop := w.heap[g]? = some (.cells #[a, b, c, d, e, f, h] 34 (0, 0))
section
variable {w w' : World} {g : Nat} {a b c d e f h : Value}
theorem TkB.new (w : World) (a b c d e f h : Value) : TkB (w.alloc (.cells #[a, b, c, d, e, f, h] 34)) w.heap.size a b c d e f h := heap_alloc_new w _
theorem TkB.c0 (H : TkB w g a b c d e f h) : w.cell? ⟨g, 0, none⟩ = some a := cell_of_row w g 0 _ _ _ H
theorem TkB.c1 (H : TkB w g a b c d e f h) : w.cell? ⟨g, 1, none⟩ = some b := cell_of_row w g 1 _ _ _ H
theorem TkB.c2 (H : TkB w g a b c d e f h) : w.cell? ⟨g, 2, none⟩ = some c := cell_of_row w g 2 _ _ _ H
theorem TkB.c3 (H : TkB w g a b c d e f h) : w.cell? ⟨g, 3, none⟩ = some d := cell_of_row w g 3 _ _ _ H
theorem TkB.c4 (H : TkB w g a b c d e f h) : w.cell? ⟨g, 4, none⟩ = some e := cell_of_row w g 4 _ _ _ H
theorem TkB.c5 (H : TkB w g a b c d e f h) : w.cell? ⟨g, 5, none⟩ = some f := cell_of_row w g 5 _ _ _ H
theorem TkB.c6 (H : TkB w g a b c d e f h) : w.cell? ⟨g, 6, none⟩ = some h := cell_of_row w g 6 _ _ _ H
theorem TkB.fr (H : TkB w g a b c d e f h) (k : Nat) : w.frozen? ⟨g, k, none⟩ = false := by unfold TkB at H; simp [World.frozen?, H]
theorem TkB.below {B : Nat} (H : TkB w g a b c d e f h) (hb : Below B w w') (hB : g < B) : TkB w' g a b c d e f h := (hb.block g hB).trans H
theorem TkB.set0 (H : TkB w g a b c d e f h) (u : Value) : TkB (w.setCell ⟨g, 0, none⟩ u) g u b c d e f h := by
  unfold TkB at H ⊢; simp [World.setCell, Array.getElem?_modify, H]
end
theorem cell_below7 {B : Nat} {w w' : World} (hb : Below B w w') {p : Addr} {v : Value} (h : w.cell? p = some v) (hp : p.block < B) : w'.cell? p = some v := (hb.cell hp).trans h
theorem run_le (s : ByteArray) (p : UInt8 → Bool) (i : Nat) (h : i ≤ s.size) : i + run s p i ≤ s.size := runN_le s p _ i h
theorem run_pos (s : ByteArray) (p : UInt8 → Bool) (i : Nat) (h : i < s.size) (hp : p (pk s i) = true) : 1 ≤ run s p i := by
  unfold run; rw [runN_step h hp]; omega
theorem enters_name1 : ∀ (args : Array Value) (w : World), (callFunc 69 args).run Tryz.prog w = .ok (.enter 69 args) w := enters_of Tryz.func69 (by kernel_rfl) rfl
theorem enters_code1 : ∀ (args : Array Value) (w : World), (callFunc 74 args).run Tryz.prog w = .ok (.enter 74 args) w := enters_of Tryz.func74 (by kernel_rfl) rfl
theorem enters_digit : ∀ (args : Array Value) (w : World), (callFunc 37 args).run Tryz.prog w = .ok (.enter 37 args) w := enters_of Tryz.func37 (by kernel_rfl) rfl

def nameR (s : ByteArray) (i : Nat) (line : Int) : WR :=
  let n := run s (fun c => smB c || digB c) i
  if 32 < n ∨ (i + n < s.size ∧ gtB (pk s (i + n)) = true) then .bad 111
  else .word n ⟨if keysL.contains (s.extract i (i + n)) then 2 else 1, line, s.extract i (i + n), 0, 0, ⟨#[]⟩⟩
theorem wordR_name {s : ByteArray} {i : Nat} {line : Int} (h : smB (pk s i) = true) : wordR s i line = nameR s i line := by
  unfold wordR nameR
  simp only [h, if_true]

set_option maxRecDepth 100000 in
set_option maxHeartbeats 2000000 in
theorem name_c (R : Nat) (s : ByteArray) (i : Nat) (line : Int) (l : List Tok) (ea : Nat → Addr) (w : World) (h : LxSt w R s i line l) (he : LxEnv w ea) (hi : i < s.size) (hs : s.size ≤ 1000000000) (hR : 24 ≤ R) (hsm : smB (pk s i) = true) :
    Calls Tryz.prog 36 #[.pointer (some ⟨R, 0, none⟩)] w (LxRes ea R s i line l (nameR s i line) w) := by
  have hlt := h.lt
  obtain ⟨v, L, ha, _⟩ := id h
  have hc0 := ha.c0; have hc1 := ha.c1
  have RC := Lib.hid (run_c _ _ enters_name1 name_is R s i line v i w ha (by omega) hs)
  obtain ⟨n, hn⟩ : ∃ n, n = run s (fun c => smB c || digB c) i := ⟨_, rfl⟩
  have hn1 : 1 ≤ n := by rw [hn]; exact run_pos s _ i hi (by simp [hsm])
  have hn2 : i + n ≤ s.size := by rw [hn]; exact run_le s _ i (by omega)
  obtain ⟨r, hr⟩ : ∃ r, r = nameR s i line := ⟨_, rfl⟩
  have HR : Hid (r = if 32 < n ∨ (i + n < s.size ∧ gtB (pk s (i + n)) = true) then .bad 111
    else .word n ⟨if keysL.contains (s.extract i (i + n)) then 2 else 1, line, s.extract i (i + n), 0, 0, ⟨#[]⟩⟩) := by rw [hr, hn]; rfl
  rw [← hr]
  rw [← hn] at RC
  have HH := Lib.hid h
  have HA := Lib.hid ha
  have HE := Lib.hid he
  clear hr hn h he ha
  by_cases h32 : 32 < n
  · have HB := Lib.hid (HR.out.trans (if_pos (.inl h32)))
    have hd : decide ((n : Int) > 32) = true := by simp; omega
    have hd' : decide (32 < (n : Int)) = true := by simp; omega
    have e1 := HE.out.err.syn
    clear HR
    go_enter Tryz.func36, Tryz.ntmps36
    go_wp2_with fail
    refine RC.out.mono ?_
    rintro e w1 ⟨rfl, n1, rfl⟩
    go_wp2_with fail
    go_quiet (fail)
    go_wp2_with fail
    refine (bad_c R s i line v _ _ (by exact HA.out)).mono ?_
    rintro e w2 ⟨rfl, rfl⟩
    go_wp2_with fail
    go_ret
    exact LxRes.mkBad HB.out (below_drewN (Below.refl _ _) _) (Nat.le_of_lt hlt)
  · have hle : (n : Int) ≤ 32 := by omega
    have hd : decide ((n : Int) > 32) = false := by simp; omega
    have hd' : decide (32 < (n : Int)) = false := by simp; omega
    by_cases hbad : i + n < s.size ∧ gtB (pk s (i + n)) = true
    · have HB := Lib.hid (HR.out.trans (if_pos (.inr hbad)))
      have hlt2 := hbad.1
      have GC := Lib.hid (fun W => by have := great_c (pk s (i + n)) W; rw [hbad.2, pk_in s (i + n) hlt2] at this; exact this)
      have hdx : decide ((i : Int) + (n : Int) < (s.size : Int)) = true := by simp; omega
      have hdy : (i : Int) + (n : Int) < (s.size : Int) := by omega
      have e1 := HE.out.err.syn
      obtain ⟨g1, g2, g3⟩ := sum_in i n (by omega)
      clear HR hbad h32
      go_enter Tryz.func36, Tryz.ntmps36
      go_wp2_with fail
      refine RC.out.mono ?_
      rintro e w1 ⟨rfl, n1, rfl⟩
      go_wp2_with fail
      go_quiet ((go_at_call 39; exact quiet_add_left (GC.out _)))
      go_wp2_with fail
      refine (bad_c R s i line v _ _ (by exact HA.out)).mono ?_
      rintro e w2 ⟨rfl, rfl⟩
      go_wp2_with fail
      go_ret
      exact LxRes.mkBad HB.out (below_drewN (Below.refl _ _) _) (Nat.le_of_lt hlt)
    · have HB := Lib.hid (HR.out.trans (if_neg (by rintro (h | h); exact h32 h; exact hbad h)))
      obtain ⟨g1, g2, g3⟩ := sum_in i n (by omega)
      have hdz : (i : Int) + (n : Int) ≤ (s.size : Int) := by omega
      have hdw : (i : Int) ≤ (i : Int) + (n : Int) := by omega
      obtain ⟨sub, hsub⟩ : ∃ sub, sub = s.extract i (i + n) := ⟨_, rfl⟩
      have HS := Lib.hid hsub
      rw [← hsub] at HB
      cases hk : keysL.contains sub with
      | true =>
        have HK := Lib.hid hk
        have HB2 := Lib.hid (show r = .word n ⟨2, line, sub, 0, 0, ⟨#[]⟩⟩ by rw [HB.out, hk]; rfl)
        clear HB
        by_cases hin : i + n < s.size
        · have hg : gtB (pk s (i + n)) = false := by
            cases hq : gtB (pk s (i + n)) with
            | false => rfl
            | true => exact absurd ⟨hin, hq⟩ hbad
          have GC := Lib.hid (fun W => by have := great_c (pk s (i + n)) W; rw [hg, pk_in s (i + n) hin] at this; exact this)
          have hdx : decide ((i : Int) + (n : Int) < (s.size : Int)) = true := by simp; omega
          have hdy : (i : Int) + (n : Int) < (s.size : Int) := by omega
          clear hg
          clear HR hbad h32 hk hsub
          go_enter Tryz.func36, Tryz.ntmps36
          go_wp2_with fail
          refine RC.out.mono ?_
          rintro e w1 ⟨rfl, n1, rfl⟩
          go_wp2_with fail
          go_quiet ((go_at_call 39; exact quiet_add_left (GC.out _)))
          go_wp2_with fail
          generalize hwq : World.drewN _ _ = wq
          have q0 : wq.cell? ⟨R, 0, none⟩ = some (.string s) := by rw [← hwq]; exact hc0
          have q1 : wq.cell? ⟨R, 1, none⟩ = some (.int .i64 i) := by rw [← hwq]; exact hc1
          have hqb : Below w.heap.size w wq := by rw [← hwq]; exact ⟨rfl, rfl, rfl, Nat.le_refl _, fun _ _ => rfl⟩
          have HQ := Lib.hid hqb
          clear hwq hqb
          go_region_held3 (fun W => W.cell? ⟨R, 0, none⟩ = some (.string s) ∧ W.cell? ⟨R, 1, none⟩ = some (.int .i64 i)) (first | assumption | exact ⟨hc0, hc1⟩ | go_keep) (fail)
          go_wp2_with fail
          rw [← HS.out]
          generalize hw3 : World.drew _ = w3
          have ht3 : TkB w3 wq.heap.size (.int .i64 1) (.int .i64 0) (.string sub) (.int .i64 0) (.int .i64 0) (.string ⟨#[]⟩) (.slice none 0 0) := by rw [← hw3]; exact TkB.new wq _ _ _ _ _ _ _
          have hb3 : Below w.heap.size w w3 := by rw [← hw3]; exact (HQ.out.alloc HQ.out.size _).drew
          have hz3 : wq.heap.size < w3.heap.size := by rw [← hw3]; show wq.heap.size < (wq.alloc _).heap.size; simp
          have hk2 := ht3.c2
          have K1 := Lib.hid (fun W (h : W.cell? ⟨wq.heap.size, 2, none⟩ = some (.string sub) ∧ Below w3.heap.size w3 W) => (keys_c W (HE.out.below (hb3.trans (below_le' h.2 hb3.size)) (by omega)).spc).mono (R' := fun e W' => ∃ kg, e = .returned (.slice (some ⟨kg, 0, none⟩) 19 19) ∧ StrsAt W' kg keysL ∧ (W'.cell? ⟨wq.heap.size, 2, none⟩ = some (.string sub) ∧ Below w3.heap.size w3 W')) fun e W' ⟨kg, h1, h2, h3, h4⟩ =>
            ⟨kg, h1, h3, cell_below7 h4 h.1 (by show wq.heap.size < W.heap.size; have := h.2.size; omega), h.2.trans (below_le' h4 h.2.size)⟩)
          have K2 := Lib.hid (fun W (kg : Nat) (h : StrsAt W kg keysL) => (Tryz.slices_Contains_string kg 0 19 19 keysL sub W (by decide) (by decide) (by exact h)).mono (R' := fun e W' => e = .returned (.bool true) ∧ W = W') fun e W' h' => ⟨by rw [h'.1, contains_keys, HK.out], h'.2.symm⟩)
          have K0 : w3.drew.cell? ⟨wq.heap.size, 2, none⟩ = some (.string sub) ∧ Below w3.heap.size w3 w3.drew := ⟨hk2, (Below.refl _ _).drew⟩
          have HT3 := Lib.hid ht3
          have HB3 := Lib.hid hb3
          clear hw3 ht3 hb3
          go_region_held3 (fun W => W.cell? ⟨wq.heap.size, 2, none⟩ = some (.string sub) ∧ Below w3.heap.size w3 W)
            (first | assumption | exact K0 | exact ⟨by assumption, by assumption⟩)
            (first
              | (go_at_call 8; refine (K1.out _ ?_).mono ?_; assumption; rintro e w5 ⟨kg, rfl, hst, hss⟩)
              | (go_at_call 71; refine (K2.out _ kg hst).mono ?_; rintro e w6 ⟨rfl, rfl⟩))
          clear K1 K2 K0 hk2
          obtain ⟨hs2, hs3⟩ := hss
          have t5 := HT3.out.below hs3 hz3
          have d0 := t5.c0; have d1 := t5.c1; have d2 := t5.c2; have d3 := t5.c3; have d4 := t5.c4; have d5 := t5.c5; have d6 := t5.c6; have f0 := t5.fr 0
          have hb5 := HB3.out.trans (below_le' hs3 HB3.out.size)
          have HB5 := Lib.hid hb5
          clear hs2 hs3 hst hb5 t5
          go_wp2_with fail
          refine (put_c R s i line l _ ?_ n hn1 hn2 hs ⟨2, 0, sub, 0, 0, ⟨#[]⟩⟩ 0 none 0).mono ?_
          · exact HH.out.below_self (HB5.out.setCell HQ.out.size _)
          rintro e w7 ⟨rfl, hb7, hst7⟩
          clear d0 d1 d2 d3 d4 d5 d6 f0
          go_wp2_with fail
          go_ret
          exact LxRes.mkWord HB2.out (Below.trans ((below_le' HB5.out (Nat.le_of_lt hlt)).setCell (Nat.le_trans (Nat.le_of_lt hlt) HQ.out.size) _) hb7) hst7
        · have hdx : decide ((i : Int) + (n : Int) < (s.size : Int)) = false := by simp; omega
          clear HR hbad h32 hk hsub
          go_enter Tryz.func36, Tryz.ntmps36
          go_wp2_with fail
          refine RC.out.mono ?_
          rintro e w1 ⟨rfl, n1, rfl⟩
          go_wp2_with fail
          go_quiet (fail)
          go_wp2_with fail
          generalize hwq : World.drewN _ _ = wq
          have q0 : wq.cell? ⟨R, 0, none⟩ = some (.string s) := by rw [← hwq]; exact hc0
          have q1 : wq.cell? ⟨R, 1, none⟩ = some (.int .i64 i) := by rw [← hwq]; exact hc1
          have hqb : Below w.heap.size w wq := by rw [← hwq]; exact ⟨rfl, rfl, rfl, Nat.le_refl _, fun _ _ => rfl⟩
          have HQ := Lib.hid hqb
          clear hwq hqb
          go_region_held3 (fun W => W.cell? ⟨R, 0, none⟩ = some (.string s) ∧ W.cell? ⟨R, 1, none⟩ = some (.int .i64 i)) (first | assumption | exact ⟨hc0, hc1⟩ | go_keep) (fail)
          go_wp2_with fail
          rw [← HS.out]
          generalize hw3 : World.drew _ = w3
          have ht3 : TkB w3 wq.heap.size (.int .i64 1) (.int .i64 0) (.string sub) (.int .i64 0) (.int .i64 0) (.string ⟨#[]⟩) (.slice none 0 0) := by rw [← hw3]; exact TkB.new wq _ _ _ _ _ _ _
          have hb3 : Below w.heap.size w w3 := by rw [← hw3]; exact (HQ.out.alloc HQ.out.size _).drew
          have hz3 : wq.heap.size < w3.heap.size := by rw [← hw3]; show wq.heap.size < (wq.alloc _).heap.size; simp
          have hk2 := ht3.c2
          have K1 := Lib.hid (fun W (h : W.cell? ⟨wq.heap.size, 2, none⟩ = some (.string sub) ∧ Below w3.heap.size w3 W) => (keys_c W (HE.out.below (hb3.trans (below_le' h.2 hb3.size)) (by omega)).spc).mono (R' := fun e W' => ∃ kg, e = .returned (.slice (some ⟨kg, 0, none⟩) 19 19) ∧ StrsAt W' kg keysL ∧ (W'.cell? ⟨wq.heap.size, 2, none⟩ = some (.string sub) ∧ Below w3.heap.size w3 W')) fun e W' ⟨kg, h1, h2, h3, h4⟩ =>
            ⟨kg, h1, h3, cell_below7 h4 h.1 (by show wq.heap.size < W.heap.size; have := h.2.size; omega), h.2.trans (below_le' h4 h.2.size)⟩)
          have K2 := Lib.hid (fun W (kg : Nat) (h : StrsAt W kg keysL) => (Tryz.slices_Contains_string kg 0 19 19 keysL sub W (by decide) (by decide) (by exact h)).mono (R' := fun e W' => e = .returned (.bool true) ∧ W = W') fun e W' h' => ⟨by rw [h'.1, contains_keys, HK.out], h'.2.symm⟩)
          have K0 : w3.drew.cell? ⟨wq.heap.size, 2, none⟩ = some (.string sub) ∧ Below w3.heap.size w3 w3.drew := ⟨hk2, (Below.refl _ _).drew⟩
          have HT3 := Lib.hid ht3
          have HB3 := Lib.hid hb3
          clear hw3 ht3 hb3
          go_region_held3 (fun W => W.cell? ⟨wq.heap.size, 2, none⟩ = some (.string sub) ∧ Below w3.heap.size w3 W)
            (first | assumption | exact K0 | exact ⟨by assumption, by assumption⟩)
            (first
              | (go_at_call 8; refine (K1.out _ ?_).mono ?_; assumption; rintro e w5 ⟨kg, rfl, hst, hss⟩)
              | (go_at_call 71; refine (K2.out _ kg hst).mono ?_; rintro e w6 ⟨rfl, rfl⟩))
          clear K1 K2 K0 hk2
          obtain ⟨hs2, hs3⟩ := hss
          have t5 := HT3.out.below hs3 hz3
          have d0 := t5.c0; have d1 := t5.c1; have d2 := t5.c2; have d3 := t5.c3; have d4 := t5.c4; have d5 := t5.c5; have d6 := t5.c6; have f0 := t5.fr 0
          have hb5 := HB3.out.trans (below_le' hs3 HB3.out.size)
          have HB5 := Lib.hid hb5
          clear hs2 hs3 hst hb5 t5
          go_wp2_with fail
          refine (put_c R s i line l _ ?_ n hn1 hn2 hs ⟨2, 0, sub, 0, 0, ⟨#[]⟩⟩ 0 none 0).mono ?_
          · exact HH.out.below_self (HB5.out.setCell HQ.out.size _)
          rintro e w7 ⟨rfl, hb7, hst7⟩
          clear d0 d1 d2 d3 d4 d5 d6 f0
          go_wp2_with fail
          go_ret
          exact LxRes.mkWord HB2.out (Below.trans ((below_le' HB5.out (Nat.le_of_lt hlt)).setCell (Nat.le_trans (Nat.le_of_lt hlt) HQ.out.size) _) hb7) hst7
      | false =>
        have HK := Lib.hid hk
        have HB2 := Lib.hid (show r = .word n ⟨1, line, sub, 0, 0, ⟨#[]⟩⟩ by rw [HB.out, hk]; rfl)
        clear HB
        by_cases hin : i + n < s.size
        · have hg : gtB (pk s (i + n)) = false := by
            cases hq : gtB (pk s (i + n)) with
            | false => rfl
            | true => exact absurd ⟨hin, hq⟩ hbad
          have GC := Lib.hid (fun W => by have := great_c (pk s (i + n)) W; rw [hg, pk_in s (i + n) hin] at this; exact this)
          have hdx : decide ((i : Int) + (n : Int) < (s.size : Int)) = true := by simp; omega
          have hdy : (i : Int) + (n : Int) < (s.size : Int) := by omega
          clear hg
          clear HR hbad h32 hk hsub
          go_enter Tryz.func36, Tryz.ntmps36
          go_wp2_with fail
          refine RC.out.mono ?_
          rintro e w1 ⟨rfl, n1, rfl⟩
          go_wp2_with fail
          go_quiet ((go_at_call 39; exact quiet_add_left (GC.out _)))
          go_wp2_with fail
          generalize hwq : World.drewN _ _ = wq
          have q0 : wq.cell? ⟨R, 0, none⟩ = some (.string s) := by rw [← hwq]; exact hc0
          have q1 : wq.cell? ⟨R, 1, none⟩ = some (.int .i64 i) := by rw [← hwq]; exact hc1
          have hqb : Below w.heap.size w wq := by rw [← hwq]; exact ⟨rfl, rfl, rfl, Nat.le_refl _, fun _ _ => rfl⟩
          have HQ := Lib.hid hqb
          clear hwq hqb
          go_region_held3 (fun W => W.cell? ⟨R, 0, none⟩ = some (.string s) ∧ W.cell? ⟨R, 1, none⟩ = some (.int .i64 i)) (first | assumption | exact ⟨hc0, hc1⟩ | go_keep) (fail)
          go_wp2_with fail
          rw [← HS.out]
          generalize hw3 : World.drew _ = w3
          have ht3 : TkB w3 wq.heap.size (.int .i64 1) (.int .i64 0) (.string sub) (.int .i64 0) (.int .i64 0) (.string ⟨#[]⟩) (.slice none 0 0) := by rw [← hw3]; exact TkB.new wq _ _ _ _ _ _ _
          have hb3 : Below w.heap.size w w3 := by rw [← hw3]; exact (HQ.out.alloc HQ.out.size _).drew
          have hz3 : wq.heap.size < w3.heap.size := by rw [← hw3]; show wq.heap.size < (wq.alloc _).heap.size; simp
          have hk2 := ht3.c2
          have K1 := Lib.hid (fun W (h : W.cell? ⟨wq.heap.size, 2, none⟩ = some (.string sub) ∧ Below w3.heap.size w3 W) => (keys_c W (HE.out.below (hb3.trans (below_le' h.2 hb3.size)) (by omega)).spc).mono (R' := fun e W' => ∃ kg, e = .returned (.slice (some ⟨kg, 0, none⟩) 19 19) ∧ StrsAt W' kg keysL ∧ (W'.cell? ⟨wq.heap.size, 2, none⟩ = some (.string sub) ∧ Below w3.heap.size w3 W')) fun e W' ⟨kg, h1, h2, h3, h4⟩ =>
            ⟨kg, h1, h3, cell_below7 h4 h.1 (by show wq.heap.size < W.heap.size; have := h.2.size; omega), h.2.trans (below_le' h4 h.2.size)⟩)
          have K2 := Lib.hid (fun W (kg : Nat) (h : StrsAt W kg keysL) => (Tryz.slices_Contains_string kg 0 19 19 keysL sub W (by decide) (by decide) (by exact h)).mono (R' := fun e W' => e = .returned (.bool false) ∧ W = W') fun e W' h' => ⟨by rw [h'.1, contains_keys, HK.out], h'.2.symm⟩)
          have K0 : w3.drew.cell? ⟨wq.heap.size, 2, none⟩ = some (.string sub) ∧ Below w3.heap.size w3 w3.drew := ⟨hk2, (Below.refl _ _).drew⟩
          have HT3 := Lib.hid ht3
          have HB3 := Lib.hid hb3
          clear hw3 ht3 hb3
          go_region_held3 (fun W => W.cell? ⟨wq.heap.size, 2, none⟩ = some (.string sub) ∧ Below w3.heap.size w3 W)
            (first | assumption | exact K0 | exact ⟨by assumption, by assumption⟩)
            (first
              | (go_at_call 8; refine (K1.out _ ?_).mono ?_; assumption; rintro e w5 ⟨kg, rfl, hst, hss⟩)
              | (go_at_call 71; refine (K2.out _ kg hst).mono ?_; rintro e w6 ⟨rfl, rfl⟩))
          clear K1 K2 K0 hk2
          obtain ⟨hs2, hs3⟩ := hss
          have t5 := HT3.out.below hs3 hz3
          have d0 := t5.c0; have d1 := t5.c1; have d2 := t5.c2; have d3 := t5.c3; have d4 := t5.c4; have d5 := t5.c5; have d6 := t5.c6; have f0 := t5.fr 0
          have hb5 := HB3.out.trans (below_le' hs3 HB3.out.size)
          have HB5 := Lib.hid hb5
          clear hs2 hs3 hst hb5 t5
          go_wp2_with fail
          refine (put_c R s i line l _ ?_ n hn1 hn2 hs ⟨1, 0, sub, 0, 0, ⟨#[]⟩⟩ 0 none 0).mono ?_
          · exact HH.out.below_self HB5.out
          rintro e w7 ⟨rfl, hb7, hst7⟩
          clear d0 d1 d2 d3 d4 d5 d6 f0
          go_wp2_with fail
          go_ret
          exact LxRes.mkWord HB2.out (Below.trans (below_le' HB5.out (Nat.le_of_lt hlt)) hb7) hst7
        · have hdx : decide ((i : Int) + (n : Int) < (s.size : Int)) = false := by simp; omega
          clear HR hbad h32 hk hsub
          go_enter Tryz.func36, Tryz.ntmps36
          go_wp2_with fail
          refine RC.out.mono ?_
          rintro e w1 ⟨rfl, n1, rfl⟩
          go_wp2_with fail
          go_quiet (fail)
          go_wp2_with fail
          generalize hwq : World.drewN _ _ = wq
          have q0 : wq.cell? ⟨R, 0, none⟩ = some (.string s) := by rw [← hwq]; exact hc0
          have q1 : wq.cell? ⟨R, 1, none⟩ = some (.int .i64 i) := by rw [← hwq]; exact hc1
          have hqb : Below w.heap.size w wq := by rw [← hwq]; exact ⟨rfl, rfl, rfl, Nat.le_refl _, fun _ _ => rfl⟩
          have HQ := Lib.hid hqb
          clear hwq hqb
          go_region_held3 (fun W => W.cell? ⟨R, 0, none⟩ = some (.string s) ∧ W.cell? ⟨R, 1, none⟩ = some (.int .i64 i)) (first | assumption | exact ⟨hc0, hc1⟩ | go_keep) (fail)
          go_wp2_with fail
          rw [← HS.out]
          generalize hw3 : World.drew _ = w3
          have ht3 : TkB w3 wq.heap.size (.int .i64 1) (.int .i64 0) (.string sub) (.int .i64 0) (.int .i64 0) (.string ⟨#[]⟩) (.slice none 0 0) := by rw [← hw3]; exact TkB.new wq _ _ _ _ _ _ _
          have hb3 : Below w.heap.size w w3 := by rw [← hw3]; exact (HQ.out.alloc HQ.out.size _).drew
          have hz3 : wq.heap.size < w3.heap.size := by rw [← hw3]; show wq.heap.size < (wq.alloc _).heap.size; simp
          have hk2 := ht3.c2
          have K1 := Lib.hid (fun W (h : W.cell? ⟨wq.heap.size, 2, none⟩ = some (.string sub) ∧ Below w3.heap.size w3 W) => (keys_c W (HE.out.below (hb3.trans (below_le' h.2 hb3.size)) (by omega)).spc).mono (R' := fun e W' => ∃ kg, e = .returned (.slice (some ⟨kg, 0, none⟩) 19 19) ∧ StrsAt W' kg keysL ∧ (W'.cell? ⟨wq.heap.size, 2, none⟩ = some (.string sub) ∧ Below w3.heap.size w3 W')) fun e W' ⟨kg, h1, h2, h3, h4⟩ =>
            ⟨kg, h1, h3, cell_below7 h4 h.1 (by show wq.heap.size < W.heap.size; have := h.2.size; omega), h.2.trans (below_le' h4 h.2.size)⟩)
          have K2 := Lib.hid (fun W (kg : Nat) (h : StrsAt W kg keysL) => (Tryz.slices_Contains_string kg 0 19 19 keysL sub W (by decide) (by decide) (by exact h)).mono (R' := fun e W' => e = .returned (.bool false) ∧ W = W') fun e W' h' => ⟨by rw [h'.1, contains_keys, HK.out], h'.2.symm⟩)
          have K0 : w3.drew.cell? ⟨wq.heap.size, 2, none⟩ = some (.string sub) ∧ Below w3.heap.size w3 w3.drew := ⟨hk2, (Below.refl _ _).drew⟩
          have HT3 := Lib.hid ht3
          have HB3 := Lib.hid hb3
          clear hw3 ht3 hb3
          go_region_held3 (fun W => W.cell? ⟨wq.heap.size, 2, none⟩ = some (.string sub) ∧ Below w3.heap.size w3 W)
            (first | assumption | exact K0 | exact ⟨by assumption, by assumption⟩)
            (first
              | (go_at_call 8; refine (K1.out _ ?_).mono ?_; assumption; rintro e w5 ⟨kg, rfl, hst, hss⟩)
              | (go_at_call 71; refine (K2.out _ kg hst).mono ?_; rintro e w6 ⟨rfl, rfl⟩))
          clear K1 K2 K0 hk2
          obtain ⟨hs2, hs3⟩ := hss
          have t5 := HT3.out.below hs3 hz3
          have d0 := t5.c0; have d1 := t5.c1; have d2 := t5.c2; have d3 := t5.c3; have d4 := t5.c4; have d5 := t5.c5; have d6 := t5.c6; have f0 := t5.fr 0
          have hb5 := HB3.out.trans (below_le' hs3 HB3.out.size)
          have HB5 := Lib.hid hb5
          clear hs2 hs3 hst hb5 t5
          go_wp2_with fail
          refine (put_c R s i line l _ ?_ n hn1 hn2 hs ⟨1, 0, sub, 0, 0, ⟨#[]⟩⟩ 0 none 0).mono ?_
          · exact HH.out.below_self HB5.out
          rintro e w7 ⟨rfl, hb7, hst7⟩
          clear d0 d1 d2 d3 d4 d5 d6 f0
          go_wp2_with fail
          go_ret
          exact LxRes.mkWord HB2.out (Below.trans (below_le' HB5.out (Nat.le_of_lt hlt)) hb7) hst7
end Go.Proofs.YtfganjmadehhaaaGreatDoor
namespace Go.Proofs.YtfganjmadehhaaaGreatDoor
open Go.RowKit Go.Lib
set_option linter.unusedVariables false

theorem ba_ext0 {a b : ByteArray} (h : a.data.toList = b.data.toList) : a = b := by
  rcases a with ⟨⟨a⟩⟩; rcases b with ⟨⟨b⟩⟩
  simp only at h; rw [h]
def oneW (kind : Int) (x : ByteArray) : Bool := match allW x with
  | .inr [t] => decide (t.kind = kind ∧ t.s = x ∧ t.line = 1 ∧ t.k = 0 ∧ t.n = 0 ∧ t.t = ⟨#[]⟩)
  | _ => false
set_option maxRecDepth 100000 in
theorem keys_one : keysL.all (oneW 2) = true := by decide +kernel
set_option maxRecDepth 100000 in
theorem signs_one : signsL.all (oneW 4) = true := by decide +kernel
theorem oneW_of {kind : Int} {x : ByteArray} (h : oneW kind x = true) : allW x = .inr [⟨kind, 1, x, 0, 0, ⟨#[]⟩⟩] := by
  unfold oneW at h
  split at h
  · rename_i t e
    rw [e]
    obtain ⟨a, b, c, d, f, g⟩ := t
    rw [decide_eq_true_eq] at h
    obtain ⟨rfl, rfl, rfl, rfl, rfl, rfl⟩ := h
    rfl
  · cases h

/-- A row of one letter: a name, where it is not too long. -/
def xsB (n : Nat) : ByteArray := ⟨(List.replicate n 120).toArray⟩
theorem xsB_size (n : Nat) : (xsB n).size = n := by unfold xsB; show (List.replicate n (120 : UInt8)).toArray.size = n; simp
theorem xsB_pk (n i : Nat) (h : i < n) : pk (xsB n) i = 120 := by
  unfold pk xsB
  rw [List.getD_eq_getElem?_getD]
  simp [h]
theorem runN_all (s : ByteArray) (p : UInt8 → Bool) (h : ∀ i, i < s.size → p (pk s i) = true) : ∀ (f i : Nat), i ≤ s.size → s.size < i + f → runN s p f i = s.size - i
  | 0, i, hi, hf => by omega
  | f + 1, i, hi, hf => by
    unfold runN
    by_cases hlt : i < s.size
    · rw [if_pos ⟨hlt, h i hlt⟩, runN_all s p h f (i + 1) (by omega) (by omega)]; omega
    · rw [if_neg (fun hc => hlt hc.1)]; omega
theorem xs_word (n : Nat) (h1 : 1 ≤ n) : wordR (xsB n) 0 1 = if 32 < n then .bad 111 else .word n ⟨if keysL.contains (xsB n) then 2 else 1, 1, xsB n, 0, 0, ⟨#[]⟩⟩ := by
  have hz := xsB_size n
  have hr : run (xsB n) (fun c => smB c || digB c) 0 = n := by
    unfold run
    rw [runN_all _ _ (fun i hi => by rw [hz] at hi; rw [xsB_pk n i hi]; decide) _ 0 (by omega) (by omega), hz]; omega
  have hx : (xsB n).extract 0 (0 + n) = xsB n := by
    apply ba_ext0
    rw [ByteArray.data_extract, Array.toList_extract]
    simp [xsB]
  have hs : smB (pk (xsB n) 0) = true := by rw [xsB_pk n 0 h1]; decide
  unfold wordR
  simp only [hs, if_true, hr, hx]
  by_cases h : 32 < n
  · rw [if_pos (.inl h), if_pos h]
  · rw [if_neg (by rintro (h2 | ⟨h2, _⟩) <;> omega), if_neg h]
/-- What is read of such a row. -/
theorem xs_all (n : Nat) : allW (xsB n) = if 32 < n then .inl (111, 1) else if n = 0 then .inr [] else .inr [⟨if keysL.contains (xsB n) then 2 else 1, 1, xsB n, 0, 0, ⟨#[]⟩⟩] := by
  have hz := xsB_size n
  rcases Nat.eq_zero_or_pos n with h0 | h1
  · subst h0
    rw [if_neg (by omega), if_pos rfl]
    unfold allW; rw [hz]; unfold allSp; rw [if_neg (by omega)]
  · unfold allW
    rw [hz, allSp, if_pos (by omega), if_neg (by rw [xsB_pk n 0 h1]; decide), if_neg (by rw [xsB_pk n 0 h1]; decide), xs_word n h1]
    by_cases h : 32 < n
    · rw [if_pos h, if_pos h]
    · rw [if_neg h, if_neg h, if_neg (show ¬ n = 0 by omega)]
      obtain ⟨g, rfl⟩ : ∃ g, n = g + 1 := ⟨n - 1, by omega⟩
      simp only
      rw [allSp, if_neg (by omega)]; rfl
end Go.Proofs.YtfganjmadehhaaaGreatDoor
namespace Go.Proofs.YtfganjmadehhaaaGreatDoor
open Go.RowKit Go.Lib
set_option linter.unusedVariables false

/-- Are two lists of values alike? -/
def sameL : VL → VL → Bool
  | .nil, .nil => true
  | .cons k n s a r, .cons k' n' s' a' r' => (sameL a a' && decide (k = k') && decide (n = n') && decide (s = s')) && sameL r r'
  | _, _ => false
/-- Are two values alike? -/
def same1 (k n : Int) (s : ByteArray) (a : VL) (k' n' : Int) (s' : ByteArray) (a' : VL) : Bool := sameL a a' && decide (k = k') && decide (n = n') && decide (s = s')
theorem sameL_iff : ∀ a b : VL, sameL a b = true ↔ a = b
  | .nil, .nil => by simp [sameL]
  | .nil, .cons .. => by simp [sameL]
  | .cons .., .nil => by simp [sameL]
  | .cons k n s a r, .cons k' n' s' a' r' => by
    rw [sameL, Bool.and_eq_true, Bool.and_eq_true, Bool.and_eq_true, Bool.and_eq_true, sameL_iff a a', sameL_iff r r', decide_eq_true_eq, decide_eq_true_eq, decide_eq_true_eq]
    constructor
    · rintro ⟨⟨⟨⟨rfl, rfl⟩, rfl⟩, rfl⟩, rfl⟩; rfl
    · intro h; injection h with h1 h2 h3 h4 h5; exact ⟨⟨⟨⟨h4, h1⟩, h2⟩, h3⟩, h5⟩
theorem same1_iff {k n : Int} {s : ByteArray} {a : VL} {k' n' : Int} {s' : ByteArray} {a' : VL} : same1 k n s a k' n' s' a' = true ↔ k = k' ∧ n = n' ∧ s = s' ∧ a = a' := by
  unfold same1
  rw [Bool.and_eq_true, Bool.and_eq_true, Bool.and_eq_true, sameL_iff, decide_eq_true_eq, decide_eq_true_eq, decide_eq_true_eq]
  constructor
  · rintro ⟨⟨⟨rfl, rfl⟩, rfl⟩, rfl⟩; exact ⟨rfl, rfl, rfl, rfl⟩
  · rintro ⟨rfl, rfl, rfl, rfl⟩; exact ⟨⟨⟨rfl, rfl⟩, rfl⟩, rfl⟩
theorem sameL_len : ∀ a b : VL, a.len ≠ b.len → sameL a b = false
  | a, b, h => by
    cases hq : sameL a b with
    | false => rfl
    | true => rw [(sameL_iff a b).1 hq] at h; exact absurd rfl h
theorem sameL_drop {a b : VL} {i : Nat} {k n : Int} {s : ByteArray} {x : VL} {k' n' : Int} {s' : ByteArray} {x' : VL} (ha : a.drop i = .cons k n s x (a.drop (i + 1))) (hb : b.drop i = .cons k' n' s' x' (b.drop (i + 1))) :
    sameL (a.drop i) (b.drop i) = (same1 k n s x k' n' s' x' && sameL (a.drop (i + 1)) (b.drop (i + 1))) := by rw [ha, hb]; rfl
end Go.Proofs.YtfganjmadehhaaaGreatDoor
namespace Go.Proofs.YtfganjmadehhaaaGreatDoor
open Go.RowKit Go.Lib
set_option linter.unusedVariables false

/-- The variable of the strings' search. -/
def MaxAt (w : World) : Prop := ∃ m : Int, w.cell? ⟨20, 0, none⟩ = some (.int .i64 m)
theorem MaxAt.below {w w' : World} {B : Nat} (h : MaxAt w) (hb : Below B w w') (hB : 24 ≤ B) : MaxAt w' := by
  obtain ⟨m, hm⟩ := h
  exact ⟨m, (World.cell?_of_block (w := w) (hb.block _ (Nat.lt_of_lt_of_le (by decide) hB))).trans hm⟩
/-- What a value's text asks of the world. -/
structure TxAt (w : World) : Prop where
  tab : TabIs Tryz.prog w "internal/strconv.uint64pow10" .u64 pow10Tab
  room : 24 < w.heap.size
  mx : MaxAt w
theorem TxAt.below {w w' : World} {B : Nat} (h : TxAt w) (hb : Below B w w') (hB : w.heap.size ≤ B) : TxAt w' :=
  ⟨Joins.tab_stays (g := 19) rfl h.tab hb hB, by have := hb.size; have := h.room; omega, h.mx.below hb (by have := h.room; omega)⟩
theorem countB_sz (s old : ByteArray) (h : old.size = 1) : countB s old ≤ s.size := by
  have := countB_mul_le old (by omega) s.size s (Nat.le_refl _)
  rw [h] at this; omega

set_option maxHeartbeats 1000000 in
theorem quote_c (s : ByteArray) (w : World) (hs : s.size ≤ 1000000) (hr : 24 < w.heap.size) (hm : MaxAt w) :
    Calls Tryz.prog 108 #[.string s] w fun e w' => e = .returned (.string ⟨(quoL s.data.toList).toArray⟩) ∧ Below w.heap.size w w' := by
  obtain ⟨m, hmc⟩ := hm
  have hlen : s.data.toList.length = s.size := by rw [Array.length_toList]; rfl
  obtain ⟨t, ht⟩ : ∃ t : ByteArray, t = ⟨(repL 92 [92, 92] s.data.toList).toArray⟩ := ⟨_, rfl⟩
  have htl : t.data.toList = repL 92 [92, 92] s.data.toList := by rw [ht]
  have hts : t.size ≤ 2000000 := by
    have h1 : t.size = t.data.toList.length := by rw [Array.length_toList]; rfl
    have := rep92_len s.data.toList
    rw [h1, htl]; omega
  have A1 := Tryz.strings_ReplaceAll s ⟨#[92]⟩ ⟨#[92, 92]⟩ m w (by omega) hmc (by decide) (by
    have := countB_sz s ⟨#[92]⟩ rfl
    have : (⟨#[92, 92]⟩ : ByteArray).size = 2 := rfl
    rw [this]; omega)
  rw [show (⟨#[92]⟩ : ByteArray).data.toList = [92] from rfl, show (⟨#[92, 92]⟩ : ByteArray).data.toList = [92, 92] from rfl, replaceAll_one 92 [92, 92] _ (by decide), ← ht] at A1
  obtain ⟨u, hu⟩ : ∃ u : ByteArray, u = ⟨(escL s.data.toList).toArray⟩ := ⟨_, rfl⟩
  have A2 := fun W (hW : W.cell? ⟨20, 0, none⟩ = some (.int .i64 m)) => Tryz.strings_ReplaceAll t ⟨#[34]⟩ ⟨#[92, 34]⟩ m W (by omega) hW (by decide) (by
    have := countB_sz t ⟨#[34]⟩ rfl
    have : (⟨#[92, 34]⟩ : ByteArray).size = 2 := rfl
    rw [this]; omega)
  simp only [replaceAll_one 34 [92, 34] _ (show ([92, 34] : List UInt8) ≠ [34] by decide), htl, esc_rep, ← hu] at A2
  have HQ := Lib.hid (show (⟨(quoL s.data.toList).toArray⟩ : ByteArray) = ⟨#[34]⟩ ++ u ++ ⟨#[34]⟩ by
    rw [hu]; apply ByteArray.ext; simp [quoL])
  have hus : u.size ≤ 2000000 := by
    have h1 : u.size = u.data.toList.length := by rw [Array.length_toList]; rfl
    have h2 := escL_len s.data.toList
    rw [h1, hu]; simp only; omega
  rw [HQ.out]
  have H1 := Lib.hid A1
  have H2 := Lib.hid A2
  have HM := Lib.hid hmc
  clear A1 A2 hmc ht htl hu HQ
  go_enter Tryz.func108, Tryz.ntmps108
  go_wp2_with fail
  refine H1.out.mono ?_
  rintro e w2 ⟨rfl, hb2⟩
  have HB2 := Lib.hid hb2
  clear hb2
  go_wp2_with fail
  refine (H2.out _ ((World.cell?_of_block (w := w) (HB2.out.block _ (Nat.lt_trans (by decide) hr))).trans HM.out)).mono ?_
  rintro e w3 ⟨rfl, hb3⟩
  have HB3 := Lib.hid (HB2.out.trans (below_le' hb3 HB2.out.size))
  clear hb3
  go_wp2_with fail
  go_ret
  exact ⟨rfl, HB3.out⟩

theorem str_info : (Tryz.prog.info? 9).map (fun i => (i.zero, i.size, i.bytes)) = some (some (.string ⟨#[]⟩), 1, 16) := by kernel_rfl
def strs (l : List (List UInt8)) : List Value := l.map fun x => Value.string ⟨x.toArray⟩
theorem strs_snoc {W : World} {base : Nat} {v : Value} {l : List (List UInt8)} {y : List UInt8} (h : W.ownsRow base 9 1 v (l.length + 1) (strs l ++ [.string ⟨y.toArray⟩])) : W.ownsRow base 9 1 v (l ++ [y]).length (strs (l ++ [y])) := by
  have e1 : (l ++ [y]).length = l.length + 1 := by simp
  have e2 : strs (l ++ [y]) = strs l ++ [.string ⟨y.toArray⟩] := by simp [strs]
  rw [e1, e2]; exact h
theorem own_below {W W' : World} {base e size n : Nat} {v : Value} {xs : List Value} (h : W.ownsRow base e size v n xs) (hb : Below W.heap.size W W') : W'.ownsRow base e size v n xs := by
  refine ⟨h.1, ?_⟩
  rcases h.2 with h0 | ⟨g, cap, cur, hv, hb1, hh, r⟩
  · exact .inl h0
  · have hlt : g < W.heap.size := by
      rcases Nat.lt_or_ge g W.heap.size with hlt | hge
      · exact hlt
      · rw [Array.getElem?_eq_none hge] at hh; cases hh
    exact .inr ⟨g, cap, cur, hv, hb1, (hb.block g hlt).trans hh, r⟩
/-- What was joined out of a row of the call's own. -/
theorem join_own {W : World} {base : Nat} {v : Value} {l : List (List UInt8)} (h : W.ownsRow base 9 1 v l.length (strs l)) (hn : l.length ≤ 140737488355328) (hl : (join l [44, 32]).length ≤ 140737488355328) :
    Calls Tryz.prog 110 #[v, .string ⟨#[44, 32]⟩] W fun e w' => e = .returned (.string ⟨(join l [44, 32]).toArray⟩) ∧ Below W.heap.size W w' := by
  have hmap : (l.map fun x => (⟨x.toArray⟩ : ByteArray)).map (fun b => b.data.toList) = l := by
    rw [List.map_map]
    conv => rhs; rw [← List.map_id l]
    rfl
  rcases h.2 with ⟨rfl, hz⟩ | ⟨g, cap, cur, rfl, _, hh, hc, _, hsz, ht⟩
  · obtain rfl : l = [] := List.eq_nil_of_length_eq_zero hz
    exact (Tryz.strings_Join_none none 0 ⟨#[44, 32]⟩ W).mono fun e w' ⟨he, hw⟩ => ⟨he, by rw [hw]; exact Below.refl _ _⟩
  · have hg : g < W.heap.size := by
      rcases Nat.lt_or_ge g W.heap.size with hlt | hge
      · exact hlt
      · rw [Array.getElem?_eq_none hge] at hh; cases hh
    have J := Tryz.strings_Join g 0 cap (l.map fun x => (⟨x.toArray⟩ : ByteArray)) ⟨#[44, 32]⟩ W (fun j x hx => by
      rw [Nat.zero_add, cell_of_row W g j cur _ _ hh]
      have h1 : (cur.toList.take (l.length * 1))[j]? = (strs l)[j]? := by rw [ht]
      rw [List.getElem?_map] at hx
      have hj : j < l.length := by
        rcases Nat.lt_or_ge j l.length with hlt | hge
        · exact hlt
        · rw [List.getElem?_eq_none hge] at hx; cases hx
      rw [List.getElem?_take_of_lt (by omega)] at h1
      rw [← Array.getElem?_toList, h1]
      unfold strs
      rw [List.getElem?_map]
      cases hq : l[j]? with
      | none => rw [hq] at hx; cases hx
      | some y => rw [hq] at hx; injection hx with hx; rw [← hx]; rfl) hg (by rw [List.length_map]; exact hn) (by rw [List.length_map]; exact hc) (by rw [hmap]; exact hl)
    rw [List.length_map, hmap] at J
    exact J
end Go.Proofs.YtfganjmadehhaaaGreatDoor
namespace Go.Proofs.YtfganjmadehhaaaGreatDoor
open Go.RowKit Go.Lib
set_option linter.unusedVariables false

theorem grown_below {B : Nat} {w w1 w2 : World} {row : Option Nat} (h : Below B w w1) (hz : B ≤ w1.heap.size) (hg : w1.grownBy w2 row) (hr : ∀ k, row = some k → B ≤ k) : Below B w w2 :=
  ⟨hg.os.trans h.os, hg.tape.trans h.tape, hg.output.trans h.output, Nat.le_trans h.size hg.size,
   fun k hk => (hg.block k (by omega) (fun e => by have := hr k e.symm; omega)).trans (h.block k hk)⟩
theorem i64_drop : ∀ (i : Nat) (l : VL), l.i64 → (l.drop i).i64
  | 0, l, h => by rw [VL.drop]; exact h
  | i + 1, .nil, h => h
  | i + 1, .cons _ _ _ _ r, h => i64_drop i r h.2.2.2
theorem ok_drop : ∀ (i : Nat) (l : VL) (d : Int), OkL l d → OkL (l.drop i) d
  | 0, l, d, h => by rw [VL.drop]; exact h
  | i + 1, .nil, d, h => h
  | i + 1, .cons _ _ _ _ r, d, h => ok_drop i r d h.2.2.2
theorem cost_drop : ∀ (i : Nat) (l : VL), cost (l.drop i) ≤ cost l
  | 0, l => by rw [VL.drop]; exact Int.le_refl _
  | i + 1, .nil => Int.le_refl _
  | i + 1, .cons k n s sub r => by have := cost_drop i r; have := cost_ge sub; have := mOf_ge k s; rw [VL.drop, cost]; omega
theorem len_cost : ∀ l : VL, (l.len : Int) ≤ cost l
  | .nil => Int.le_refl _
  | .cons k n s sub r => by have := len_cost r; have := cost_ge sub; have := mOf_ge k s; rw [VL.len, cost]; omega

/-- What a call of text is to show. -/
def TextC (N : Nat) : Prop := ∀ (k n : Int) (s : ByteArray) (sub : VL) (sa : Option Addr) (sc : Nat) (d : Int) (w : World), sub.size < N → OkL (val1 k n s sub) d → (val1 k n s sub).i64 → cost (val1 k n s sub) ≤ 4096 → sub.len ≤ sc →
  RpL w (fun b => b < w.heap.size) sub sa → TxAt w →
  Calls Tryz.prog 86 #[.agg #[.int .i64 k, .int .i64 n, .string s, .slice sa sub.len sc]] w fun e w' => e = .returned (.string ⟨(txt1 k n s (txtL sub)).toArray⟩) ∧ Below w.heap.size w w'

theorem str_nil_add (t : ByteArray) : (⟨#[]⟩ : ByteArray) ++ t = t := by apply ByteArray.ext; simp

set_option maxRecDepth 100000 in
set_option maxHeartbeats 2000000 in
theorem text_step (N : Nat) (ih : ∀ N', N' < N → TextC N') : TextC N := by
  intro k n s sub sa sc d w hN hok h64 hcost hsc hrep hst
  have hroom := hst.room
  obtain ⟨hown, hoks⟩ := OkL_one hok
  obtain ⟨hn0, hn1, h64s, _⟩ := h64
  obtain ⟨wa, hwa⟩ : ∃ wa, wa = w.alloc (.cells #[.int .i64 k, .int .i64 n, .string s, .slice sa sub.len sc] 32) := ⟨_, rfl⟩
  have hba : Below w.heap.size w wa := by rw [hwa]; exact (Below.refl _ _).alloc (Nat.le_refl _) _
  have hwz : wa.heap.size = w.heap.size + 1 := by rw [hwa]; simp
  have hV : StB wa w.heap.size (.int .i64 k) (.int .i64 n) (.string s) (.slice sa sub.len sc) := by rw [hwa]; exact StB.new w _ _ _ _
  have v0 := hV.c0; have v1 := hV.c1; have v2 := hV.c2; have v3 := hV.c3
  have hsta : TxAt wa := hst.below hba (Nat.le_refl _)
  have HBA := Lib.hid hba
  have HWA := Lib.hid hwa
  have HWZ := Lib.hid hwz
  have HST := Lib.hid hsta
  have hcs : cost (val1 k n s sub) = 1 + mOf k s + cost sub := by unfold val1; rw [cost, cost]; omega
  have FC := fun (W : World) (hW : TxAt W) => Lib.hid (Tryz.strconv_FormatInt_10 n (by omega) (by omega) W hW.tab)
  obtain ⟨t, ht⟩ : ∃ t : ByteArray, t = ⟨(itoa n).toArray⟩ := ⟨_, rfl⟩
  have htl : t.size ≤ 20 := by
    have h1 : t.size = t.data.toList.length := by rw [Array.length_toList]; rfl
    rw [h1, ht]; exact itoa_len hn0 hn1
  rw [← ht] at FC
  rw [hwa] at v0 v1 v2 v3
  rcases own_ok hown with ⟨rfl, -⟩ | ⟨rfl, -⟩ | ⟨rfl, -⟩ | ⟨rfl, hm0, hm1, -⟩ | ⟨rfl, -⟩
  · have HR := Lib.hid (show (⟨(txt1 0 n s (txtL sub)).toArray⟩ : ByteArray) = t by rw [ht]; rfl)
    rw [HR.out]
    clear hba hV hsta hwa hwz ht hrep hst hok hown hoks hcs HR
    go_enter Tryz.func86, Tryz.ntmps86
    go_wp2_with fail
    rw [← HWA.out]
    refine (FC _ HST.out).out.mono ?_
    rintro e w3 ⟨rfl, kk, os, hw3⟩
    have HB3 := Lib.hid (show Below w.heap.size w w3 by rw [hw3]; exact HBA.out.trans (below_grow _ _ HBA.out.size _ _))
    clear hw3
    go_wp2_with fail
    go_ret
    exact ⟨ret_str (str_nil_add t), HB3.out⟩
  · have HR := Lib.hid (show (⟨(txt1 1 n s (txtL sub)).toArray⟩ : ByteArray) = ⟨#[35]⟩ ++ t by rw [ht]; apply ByteArray.ext; simp [txt1])
    rw [HR.out]
    clear hba hV hsta hwa hwz ht hrep hst hok hown hoks hcs HR
    go_enter Tryz.func86, Tryz.ntmps86
    go_wp2_with fail
    rw [← HWA.out]
    refine (FC _ HST.out).out.mono ?_
    rintro e w3 ⟨rfl, kk, os, hw3⟩
    have HB3 := Lib.hid (show Below w.heap.size w w3 by rw [hw3]; exact HBA.out.trans (below_grow _ _ HBA.out.size _ _))
    clear hw3
    go_wp2_with fail
    go_ret
    exact ⟨rfl, HB3.out⟩
  · have QC := Lib.hid (quote_c s wa (by
      have : mOf 2 s = s.size := rfl
      have := cost_ge sub
      omega) HST.out.room HST.out.mx)
    rw [show (⟨(quoL s.data.toList).toArray⟩ : ByteArray) = ⟨(txt1 2 n s (txtL sub)).toArray⟩ from rfl] at QC
    clear hba hV hsta hwa hwz ht hrep hst hok hown hoks hcs FC
    go_enter Tryz.func86, Tryz.ntmps86
    go_wp2_with fail
    rw [← HWA.out]
    refine QC.out.mono ?_
    rintro e w3 ⟨rfl, hb3⟩
    have HB3 := Lib.hid (HBA.out.trans (below_le' hb3 HBA.out.size))
    clear hb3
    go_wp2_with fail
    go_ret
    exact ⟨rfl, HB3.out⟩
  · have NC := Lib.hid (name_l n wa hn0 hn1)
    rw [show nmS n = ⟨(txt1 3 n s (txtL sub)).toArray⟩ from rfl] at NC
    clear hba hV hsta hwa hwz ht hrep hst hok hown hoks hcs FC
    go_enter Tryz.func86, Tryz.ntmps86
    go_wp2_with fail
    rw [← HWA.out]
    refine NC.out.mono ?_
    rintro e w3 ⟨rfl, hb3⟩
    have HB3 := Lib.hid (HBA.out.trans (below_le' hb3 HBA.out.size))
    clear hb3
    go_wp2_with fail
    go_ret
    exact ⟨rfl, HB3.out⟩
  · obtain ⟨i0, hi0, hz0, hz1, hz2⟩ := info_parts str_info
    have hcsub : cost sub ≤ 4096 := by have : mOf 4 s = 0 := rfl; omega
    have HRP := Lib.hid (hrep.keep (w' := wa) (fun b hb => hba.block b hb) (fun b hb => hb))
    clear hba hV hsta hwa hwz ht hrep hst hok hown hcs FC
    go_enter Tryz.func86, Tryz.ntmps86
    go_wp2_with fail
    rw [← HWA.out]
    go_loopg [4, 31] sub.len (fun kk ov v wr => ∃ (bv : Value) (i : Nat), bv = ov ∧ v = .int .i64 i ∧ i + kk = sub.len ∧ wr.ownsRow (w.heap.size + 1) 9 1 bv (txtL (sub.take i)).length (strs (txtL (sub.take i))) ∧ Below (w.heap.size + 1) wa wr)
    case atStart => exact ⟨.slice none 0 0, 0, rfl, rfl, by omega, World.ownsRow_nil _ _ _ _, Below.refl _ _⟩
    case round =>
      obtain ⟨bv, i, rfl, rfl, hik, hrow, hbr⟩ := hrel
      have hrz := hbr.size
      have hwz := HWZ.out
      by_cases hi : i < sub.len
      · obtain ⟨g, rfl⟩ : ∃ g, gk = g + 1 := ⟨gk - 1, by omega⟩
        obtain ⟨k', n', s', sub', hd⟩ := VL.drop_of_lt i sub hi
        have hts := VL.take_succ i sub k' n' s' sub' hd
        have hrw := HRP.out.keep (w' := wr) (fun b hb => hbr.block b (by omega)) (fun b hb => hb)
        obtain ⟨b, o, hsa⟩ : ∃ b o, sa = some ⟨b, o, none⟩ := by
          cases sub with
          | nil => simp [VL.len] at hi
          | cons _ _ _ _ _ => obtain ⟨b, o, _, _, h, _⟩ := hrw; exact ⟨b, o, h⟩
        rw [hsa] at hrw
        have hdr := RpL.drop i sub b o hrw
        rw [hd] at hdr
        obtain ⟨b', o', sa', sc', hA, hSb, c0, c1, c2, c3, hcl, hrs, _⟩ := hdr
        injection hA with hA
        injection hA with hA1 hA2
        subst hA1
        subst hA2
        have hod := ok_drop i sub (d + 1) hoks
        rw [hd] at hod
        have h6d := i64_drop i sub h64s
        rw [hd] at h6d
        have hcd := cost_drop i sub
        rw [hd, cost] at hcd
        have hcr := cost_ge (sub.drop (i + 1))
        have hszd := VL.size_drop i sub
        rw [hd] at hszd
        simp only [VL.size] at hszd
        have hln := len_cost sub
        obtain ⟨wx, hwx⟩ : ∃ wx, wx = wr.alloc (.cells #[.int .i64 k', .int .i64 n', .string s', .slice sa' sub'.len sc'] 32) := ⟨_, rfl⟩
        have hbx : Below (w.heap.size + 1) wa wx := by rw [hwx]; exact hbr.alloc (by omega) _
        have hbx0 : Below wr.heap.size wr wx := by rw [hwx]; exact (Below.refl _ _).alloc (Nat.le_refl _) _
        have hxz : wx.heap.size = wr.heap.size + 1 := by rw [hwx]; simp
        have IHC := Lib.hid (ih (sub'.size + 1) (by omega) k' n' s' sub' sa' sc' (d + 1) wx (by omega) ⟨hod.1, hod.2.1, hod.2.2.1, trivial⟩ ⟨h6d.1, h6d.2.1, h6d.2.2.1, trivial⟩ (by unfold val1; rw [cost, cost]; omega) hcl
          (hrs.keep (fun b hb => hbx0.block b (by omega)) (fun b hb => by omega)) (HST.out.below hbx (by omega)))
        obtain ⟨x, hx⟩ : ∃ x, x = txt1 k' n' s' (txtL sub') := ⟨_, rfl⟩
        rw [← hx] at IHC
        have hrow1 := own_below hrow hbx0
        have HT := Lib.hid (show txtL (sub.take (i + 1)) = txtL (sub.take i) ++ [x] by rw [hts, txtL_app, hx]; rfl)
        have HROW := Lib.hid hrow1
        have HBX := Lib.hid hbx
        have HSA := Lib.hid hsa
        have HWX := Lib.hid hwx
        subst hsa
        have hll : (txtL (sub.take i)).length ≤ 4096 := by
          have := len_cost (sub.take i)
          have h2 : (sub.take i).len + (sub.drop i).len = sub.len := by rw [← VL.len_app, VL.take_app_drop]
          rw [txtL_len]; omega
        rw [Nat.mul_comm 4 i] at c0 c1 c2 c3
        clear hrw hrs hrow hrow1 hbr hbx hbx0 hd hts hod h6d hcd hx hwx
        go_wp2_with fail
        rw [← HWX.out]
        refine IHC.out.mono ?_
        rintro e w5 ⟨rfl, hb5⟩
        have hrow5 := Lib.hid (own_below HROW.out hb5)
        have hb5' := Lib.hid (HBX.out.trans (below_le' hb5 (by have := HBX.out.size; omega)))
        have h5z := hb5.size
        clear hb5
        go_wp2_with (at_builtin; refine wpList_append_own _ rfl (.tmp 35) (.tmp 38) 23 rfl (w.heap.size + 1) 9 i0 (.string ⟨#[]⟩) 1 16 Tryz.underlying23 hi0 hz0 hz1 hz2 rfl (by decide) bv (txtL (sub.take i)).length (strs (txtL (sub.take i))) rfl (own_below hrow5.out ((Below.refl _ _).alloc (Nat.le_refl _) _)) ⟨w5.heap.size, 0, none⟩ 1 1 [.string ⟨x.toArray⟩] rfl rfl ?c1 ?c2 ?c3 ?c4 ?c5 ?c6
                     case c1 => exact cell_one_new _ _ _
                     case c2 => intro u hu; simp at hu; subst hu; rfl
                     case c3 => unfold maxLen; omega
                     case c4 => omega
                     case c5 => simp; omega
                     intro v' w11 hown' hgrow _
                     have HB11 := Lib.hid (grown_below (hb5'.out.alloc (by omega) _) (by simp; omega) hgrow (fun k hk => own_ge hrow5.out k hk))
                     have HO11 := Lib.hid (strs_snoc hown')
                     clear hown' hgrow)
        go_roundg g
        case measure => omega
        case rel => exact ⟨v', i + 1, rfl, by go_num, by omega, by rw [HT.out]; exact HO11.out, HB11.out⟩
      · obtain rfl : i = sub.len := by omega
        rw [VL.take_len] at hrow
        have hjl : (join (txtL sub) [44, 32]).length ≤ 100000 := by
          have h1 := join_len (txtL sub)
          have h2 := txtL_len_le sub (d + 1) hoks h64s
          omega
        have JC := Lib.hid (join_own hrow (by rw [txtL_len]; have := len_cost sub; omega) (by omega))
        obtain ⟨j, hj⟩ : ∃ j : ByteArray, j = ⟨(join (txtL sub) [44, 32]).toArray⟩ := ⟨_, rfl⟩
        rw [← hj] at JC
        have hjs : j.size ≤ 100000 := by
          have h1 : j.size = j.data.toList.length := by rw [Array.length_toList]; rfl
          rw [h1, hj]; exact hjl
        have HR := Lib.hid (show (⟨(txt1 4 n s (txtL sub)).toArray⟩ : ByteArray) = ⟨#[123]⟩ ++ j ++ ⟨#[125]⟩ by rw [hj]; apply ByteArray.ext; simp [txt1])
        have HBR := Lib.hid (HBA.out.trans (below_le' hbr (by omega)))
        clear hrow hbr hj hjl
        go_wp2_with fail
        refine JC.out.mono ?_
        rintro e w6 ⟨rfl, hb6⟩
        have HB6 := Lib.hid (HBR.out.trans (below_le' hb6 HBR.out.size))
        clear hb6
        go_wp2_with fail
        go_ret
        exact ⟨ret_str HR.out.symm, HB6.out⟩

theorem text_c (N : Nat) : TextC N := by
  induction N using Nat.strongRecOn with
  | _ N ih => exact text_step N ih
end Go.Proofs.YtfganjmadehhaaaGreatDoor
namespace Go.Proofs.YtfganjmadehhaaaGreatDoor
open Go.RowKit Go.Lib
set_option linter.unusedVariables false

/-- The text of a value, empty where it is not right. -/
def txtV (k n : Int) (s : ByteArray) (sub : VL) : ByteArray := if (walk1 k n s sub 1 4096).1 = 0 then ⟨(txt1 k n s (txtL sub)).toArray⟩ else ⟨#[]⟩

set_option maxRecDepth 100000 in
set_option maxHeartbeats 2000000 in
theorem Text_c (k n : Int) (s : ByteArray) (sub : VL) (sa : Option Addr) (sc : Nat) (ea : Nat → Addr) (w : World) (he : ErrsAt w ea) (hst : TxAt w) (hfit : (val1 k n s sub).fit) (h64 : (val1 k n s sub).i64) (hsc : sub.len ≤ sc)
    (hrep : RpL w (fun b => b < w.heap.size) sub sa) :
    Calls Tryz.prog 55 #[.agg #[.int .i64 k, .int .i64 n, .string s, .slice sa sub.len sc]] w fun e w' => e = .returned (.string (txtV k n s sub)) ∧ Below w.heap.size w w' := by
  have hroom := hst.room
  obtain ⟨wa, hwa⟩ : ∃ wa, wa = w.alloc (.cells #[.int .i64 k, .int .i64 n, .string s, .slice sa sub.len sc] 32) := ⟨_, rfl⟩
  have hba : Below w.heap.size w wa := by rw [hwa]; exact (Below.refl _ _).alloc (Nat.le_refl _) _
  have hwz : wa.heap.size = w.heap.size + 1 := by rw [hwa]; simp
  have hV : StB wa w.heap.size (.int .i64 k) (.int .i64 n) (.string s) (.slice sa sub.len sc) := by rw [hwa]; exact StB.new w _ _ _ _
  have v0 := hV.c0; have v1 := hV.c1; have v2 := hV.c2; have v3 := hV.c3
  rw [hwa] at v0 v1 v2 v3
  have hrpa := hrep.keep (w' := wa) (fun b hb => hba.block b hb) (fun b hb => hb)
  have VC := Lib.hid (valid_c k n s sub sa sc ea wa (he.below hba (Nat.le_of_lt hroom)) hfit.1 hfit.2.1 hfit.2.2.1 hsc (hrpa.wide (fun b hb => by omega)))
  have HBA := Lib.hid hba
  have HWA := Lib.hid hwa
  have HV := Lib.hid hV
  have HST := Lib.hid (hst.below hba (Nat.le_refl _))
  have HRP := Lib.hid hrpa
  have HWZ := Lib.hid hwz
  clear hba hV hwa hwz hrep hrpa he hst
  by_cases hc : (walk1 k n s sub 1 4096).1 = 0
  · have HT := Lib.hid (show txtV k n s sub = ⟨(txt1 k n s (txtL sub)).toArray⟩ by unfold txtV; rw [if_pos hc])
    have hcost := walk1_cost k n s sub 1 4096 (by omega) hc
    have TC := Lib.hid (fun W (hb : Below (w.heap.size + 1) wa W) => text_c (sub.size + 1) k n s sub sa sc 1 W (by omega) (walk1_ok hc) h64 (by unfold val1; rw [cost, cost]; omega) hsc
      (HRP.out.keep (fun b hlt => hb.block b (by omega)) (fun b hlt => by have := hb.size; have := HWZ.out; omega)) (HST.out.below hb (by have := HWZ.out; omega)))
    rw [hc, show errV ea 0 = Value.nilIface from rfl] at VC
    rw [HT.out]
    clear hc hcost
    go_enter Tryz.func55, Tryz.ntmps55
    go_wp2_with fail
    rw [← HWA.out]
    refine VC.out.mono ?_
    rintro e w2 ⟨rfl, hb2⟩
    have hb2' : Below (w.heap.size + 1) wa w2 := by rw [← HWZ.out]; exact hb2
    have hV2 := HV.out.below' hb2
    have u0 := hV2.c0; have u1 := hV2.c1; have u2 := hV2.c2; have u3 := hV2.c3
    have HB2 := Lib.hid hb2'
    clear hb2 hb2' hV2 v0 v1 v2 v3
    go_wp2_with fail
    refine (TC.out _ HB2.out).mono ?_
    rintro e w3 ⟨rfl, hb3⟩
    have HB3 := Lib.hid (HBA.out.trans (below_le' (HB2.out.trans (below_le' hb3 (by have := HB2.out.size; have := HWZ.out; omega))) (show w.heap.size ≤ w.heap.size + 1 by omega)))
    clear hb3
    go_wp2_with fail
    go_ret
    exact ⟨rfl, HB3.out⟩
  · have HT := Lib.hid (show txtV k n s sub = ⟨#[]⟩ by unfold txtV; rw [if_neg hc])
    have HERR := Lib.hid (show errV ea (walk1 k n s sub 1 4096).1 = .iface 199 (.pointer (some (ea (walk1 k n s sub 1 4096).1))) by unfold errV; rw [if_neg hc])
    rw [HERR.out] at VC
    rw [HT.out]
    clear hc
    go_enter Tryz.func55, Tryz.ntmps55
    go_wp2_with fail
    rw [← HWA.out]
    refine VC.out.mono ?_
    rintro e w2 ⟨rfl, hb2⟩
    have HB2 := Lib.hid (HBA.out.trans (below_le' hb2 (by have := HWZ.out; omega)))
    clear hb2
    go_wp2_with fail
    go_ret
    exact ⟨rfl, HB2.out⟩
end Go.Proofs.YtfganjmadehhaaaGreatDoor
namespace Go.Proofs.YtfganjmadehhaaaGreatDoor
open Go.RowKit Go.Lib
set_option linter.unusedVariables false

/-- What is read of a number's sign and its digits. -/
theorem rdV_num (s : ByteArray) (n : Int) (hs : s.data.toList = 35 :: itoa n) :
    (-2147483648 ≤ n ∧ n ≤ 2147483647 → rdV s = (s.size, true, val1 1 n ByteArray.empty .nil)) ∧ (¬(-2147483648 ≤ n ∧ n ≤ 2147483647) → (rdV s).2.1 = false) := by
  have hsz : s.size = (itoa n).length + 1 := by
    have h1 : s.size = s.data.toList.length := by rw [Array.length_toList]; rfl
    rw [h1, hs, List.length_cons]
  obtain ⟨hk, hd⟩ := pk_drop (s := s) (i := 0) (c := 35) (r := itoa n) (by rw [List.drop_zero]; exact hs)
  have sp := numSp_itoa s 2147483648 2147483647 (by omega) (by omega) n [] (fun c t h => by cases h) 1 (by rw [List.append_nil]; exact hd)
  have hrd : rdV s = ((numSp s (-2147483648) 2147483647 1).1, (numSp s (-2147483648) 2147483647 1).2.1, val1 1 (numSp s (-2147483648) 2147483647 1).2.2 ByteArray.empty .nil) := by
    unfold rdV
    rw [valSp, if_pos hk]
  rw [hrd]
  constructor
  · intro hin
    rw [if_pos (by omega)] at sp
    rw [show ((-2147483648 : Int)) = -((2147483648 : Nat) : Int) from rfl, show ((2147483647 : Int)) = ((2147483647 : Nat) : Int) from rfl, sp, hsz]
    simp only [Prod.mk.injEq, and_true]; omega
  · intro hout
    rw [if_neg (by omega)] at sp
    obtain ⟨j, m, hj⟩ := sp
    rw [show ((-2147483648 : Int)) = -((2147483648 : Nat) : Int) from rfl, show ((2147483647 : Int)) = ((2147483647 : Nat) : Int) from rfl, hj]

theorem walk_num (k n : Int) (h : k = 0 ∨ (k = 1 ∧ -2147483648 ≤ n ∧ n ≤ 2147483647)) : (walk1 k n ⟨#[]⟩ .nil 1 4096).1 = 0 := by
  have hk2 : k ≠ 2 := by omega
  have hm : mOf k ⟨#[]⟩ = 0 := by unfold mOf; rw [if_neg hk2]
  have ho : ownE k n ⟨#[]⟩ VL.nil.len = 0 := by
    unfold ownE
    rw [if_neg (by omega), if_neg (by omega), if_neg (by omega), if_neg, if_neg (by decide)]
    rintro (⟨_, h⟩ | ⟨_, h⟩ | ⟨h, _⟩)
    · exact h rfl
    · exact absurd h (Nat.lt_irrefl _)
    · omega
  unfold walk1
  rw [if_neg (by decide), hm, if_neg (by decide), if_pos ho]; rfl

/-- What is handed back by Read, opened. -/
theorem rdOut_open {ea : Nat → Addr} {s : ByteArray} {w w' : World} {e : Ending} (h : RdOut ea s w e w') :
    ∃ (k n : Int) (t : ByteArray) (A : Option Addr) (L C : Nat) (ev : Value), e = .returned (.tuple #[.agg #[.int .i64 k, .int .i64 n, .string t, .slice A L C], ev]) ∧ Below w.heap.size w w' ∧
      ((∃ T V, ev = .iface T V) ∧ ((rdV s).2.1 = false ∨ (rdV s).1 < s.size ∨ ∃ k n t sub, (rdV s).2.2 = val1 k n t sub ∧ (walk1 k n t sub 1 4096).1 ≠ 0) ∨ (ev = .nilIface ∧ (rdV s).2.1 = true ∧ s.size ≤ (rdV s).1 ∧ ∃ sub, (rdV s).2.2 = val1 k n t sub ∧ (walk1 k n t sub 1 4096).1 = 0)) := by
  obtain ⟨hb, ⟨hbad, A, _, _, rfl⟩ | ⟨hgood, k, n, t, sub, hv, ⟨hne, rfl⟩ | ⟨h0, sa, sc, _, _, rfl⟩⟩⟩ := h
  · refine ⟨0, 0, ⟨#[]⟩, none, 0, 0, _, rfl, hb, .inl ⟨⟨_, _, rfl⟩, ?_⟩⟩
    unfold rdBad at hbad
    cases hq : (rdV s).2.1 with
    | false => exact .inl rfl
    | true => refine .inr (.inl ?_); rcases Nat.lt_or_ge (rdV s).1 s.size with h | h; exact h; exact absurd ⟨hq, h⟩ hbad
  · refine ⟨0, 0, ⟨#[]⟩, none, 0, 0, _, rfl, hb, .inl ⟨⟨_, _, by unfold errV; rw [if_neg hne]⟩, .inr (.inr ⟨k, n, t, sub, hv, hne⟩)⟩⟩
  · have hg : (rdV s).2.1 = true ∧ s.size ≤ (rdV s).1 := Classical.not_not.1 hgood
    exact ⟨k, n, t, sa, sub.len, sc, _, rfl, hb, .inr ⟨rfl, hg.1, hg.2, sub, hv, h0⟩⟩

/-- What is read of a number's sign and its digits, handed back. -/
theorem read_num {ea : Nat → Addr} {s : ByteArray} {v : Int} (hs : s.data.toList = 35 :: itoa v) {w w' : World} {e : Ending} (h : RdOut ea s w e w') :
    Below w.heap.size w w' ∧ ((-2147483648 ≤ v ∧ v ≤ 2147483647 ∧ ∃ t A L C, e = .returned (.tuple #[.agg #[.int .i64 1, .int .i64 v, .string t, .slice A L C], .nilIface])) ∨
      (¬(-2147483648 ≤ v ∧ v ≤ 2147483647) ∧ ∃ k n t A L C T V, e = .returned (.tuple #[.agg #[.int .i64 k, .int .i64 n, .string t, .slice A L C], .iface T V]))) := by
  obtain ⟨k, n, t, A, L, C, ev, rfl, hb, h⟩ := rdOut_open h
  obtain ⟨h1, h2⟩ := rdV_num s v hs
  refine ⟨hb, ?_⟩
  by_cases hin : -2147483648 ≤ v ∧ v ≤ 2147483647
  · have hr := h1 hin
    rcases h with ⟨_, h | h | ⟨k', n', t', sub, hv, hne⟩⟩ | ⟨rfl, _, _, sub, hv, _⟩
    · rw [hr] at h; cases h
    · rw [hr] at h; exact absurd h (Nat.lt_irrefl _)
    · rw [hr] at hv
      injection hv with e1 e2 e3 e4 _
      subst e1; subst e2; subst e3; subst e4
      exact absurd (walk_num 1 v (.inr ⟨rfl, hin⟩)) hne
    · rw [hr] at hv
      injection hv with e1 e2 e3 e4 _
      subst e1; subst e2; subst e3; subst e4
      exact .inl ⟨hin.1, hin.2, _, _, _, _, rfl⟩
  · have hr := h2 hin
    rcases h with ⟨⟨T, V, rfl⟩, _⟩ | ⟨_, h, _⟩
    · exact .inr ⟨hin, _, _, _, _, _, _, _, _, rfl⟩
    · rw [hr] at h; cases h
end Go.Proofs.YtfganjmadehhaaaGreatDoor
namespace Go.Proofs.YtfganjmadehhaaaGreatDoor
open Go.RowKit Go.Lib
set_option linter.unusedVariables false

theorem prB_app {a b : List UInt8} (h1 : prB a = true) (h2 : prB b = true) : prB (a ++ b) = true := by unfold prB at h1 h2 ⊢; rw [List.all_append, h1, h2]; rfl
theorem prB_cons {c : UInt8} {b : List UInt8} (h1 : prC c = true) (h2 : prB b = true) : prB (c :: b) = true := by unfold prB at h2 ⊢; rw [List.all_cons, h1, h2]; rfl
theorem prB_digits {l : List UInt8} (h : ∀ c ∈ l, isDg c = true) : prB l = true := by
  unfold prB
  rw [List.all_eq_true]
  intro c hc
  have := isDg_iff.1 (h c hc)
  exact decide_eq_true (by omega)
theorem itoa_print (v : Int) : prB (itoa v) = true := by
  by_cases hv : v < 0
  · obtain ⟨u, rfl⟩ : ∃ u : Nat, v = -(u : Int) := ⟨v.natAbs, by omega⟩
    rw [itoa_neg u (by omega)]
    exact prB_cons (by decide) (prB_digits (canon_dec u).1.2.1)
  · obtain ⟨u, rfl⟩ : ∃ u : Nat, v = (u : Int) := ⟨v.toNat, by omega⟩
    rw [itoa_nonneg]
    exact prB_digits (canon_dec u).1.2.1
theorem escL_print : ∀ l : List UInt8, prB l = true → prB (escL l) = true
  | [], _ => rfl
  | c :: r, h => by
    have hc : prC c = true ∧ prB r = true := by unfold prB at h ⊢; rw [List.all_cons, Bool.and_eq_true] at h; exact h
    rw [escL]
    split
    · exact prB_cons (by decide) (prB_cons hc.1 (escL_print r hc.2))
    · exact prB_cons hc.1 (escL_print r hc.2)
theorem nm_print : ∀ c : Fin 15, prB (nmAt c.val).data.toList = true := by decide +kernel
theorem join_print (l : List (List UInt8)) (h : ∀ x ∈ l, prB x = true) : prB (join l [44, 32]) = true := by
  cases l with
  | nil => rfl
  | cons a t =>
    rw [join_cons]
    refine prB_app (h a (by simp)) ?_
    have : ∀ t : List (List UInt8), (∀ x ∈ t, prB x = true) → prB (joinTail [44, 32] t) = true := by
      intro t
      induction t with
      | nil => intro _; rfl
      | cons x r ih =>
        intro h
        have e : joinTail [44, 32] (x :: r) = [44, 32] ++ x ++ joinTail [44, 32] r := by simp [joinTail]
        rw [e]
        exact prB_app (prB_app (by decide) (h x (by simp))) (ih (fun y hy => h y (by simp [hy])))
    exact this t (fun x hx => h x (by simp [hx]))
theorem txt1_print {k n : Int} {s : ByteArray} {len : Nat} {l : List (List UInt8)} (h : ownE k n s len = 0) (hl : ∀ x ∈ l, prB x = true) : prB (txt1 k n s l) = true := by
  rcases own_ok h with ⟨rfl, _⟩ | ⟨rfl, _⟩ | ⟨rfl, _, _, hp⟩ | ⟨rfl, h0, h1, _⟩ | ⟨rfl, _⟩
  · exact itoa_print n
  · exact prB_cons (by decide) (itoa_print n)
  · exact prB_cons (by decide) (prB_app (escL_print _ hp) (by decide))
  · obtain ⟨j, rfl⟩ : ∃ j : Nat, n = j := ⟨n.toNat, by omega⟩
    have hj : j < 15 := by omega
    show prB (nmS (j : Int)).data.toList = true
    rw [nmS_at j hj]
    exact nm_print ⟨j, hj⟩
  · exact prB_cons (by decide) (prB_app (join_print l hl) (by decide))
theorem txtL_print : ∀ (l : VL) (d : Int), OkL l d → ∀ x ∈ txtL l, prB x = true
  | .nil, _, _, x, hx => by cases hx
  | .cons k n s sub rest, d, h, x, hx => by
    rw [txtL] at hx
    rcases List.mem_cons.1 hx with rfl | hx
    · exact txt1_print h.1 (txtL_print sub (d + 1) h.2.2.1)
    · exact txtL_print rest d h.2.2.2 x hx

theorem numLoop_range (s : ByteArray) (low high : Int) (neg : Bool) (lim : Int) (hl : lim ≤ 9223372036854775808) (hn : neg = false → high ≤ lim) : ∀ (f i : Nat) (a j : Nat) (v : Int), (a : Int) ≤ lim → numLoop s low high neg f i (-(a : Int)) = (j, true, v) → (neg = true → lim = 9223372036854775808) → v ≤ 0 ∧ -lim ≤ v
  | 0, i, a, j, v, ha, h, _ => by
    unfold numLoop at h
    simp only [Prod.mk.injEq, true_and] at h
    omega
  | f + 1, i, a, j, v, ha, h, hng => by
    cases hd : digB (pk s i) with
    | false =>
      rw [numLoop_end _ _ _ _ _ _ _ hd] at h
      simp only [Prod.mk.injEq, true_and] at h
      omega
    | true =>
      have hr := digB_range hd
      have hg1 := dg1_eq (pk s i)
      by_cases hg : -(a : Int) < -922337203685477580 ∨ 10 * -(a : Int) < -9223372036854775808 + ((pk s i).toNat - 48 : Int) ∨ (neg = true ∧ 10 * -(a : Int) - ((pk s i).toNat - 48 : Int) < low) ∨ (neg = false ∧ 10 * -(a : Int) - ((pk s i).toNat - 48 : Int) < -high)
      · rw [numLoop_bad _ _ _ _ _ _ _ hd hg] at h
        simp at h
      · rw [numLoop_step _ _ _ _ _ _ _ hd hg, show 10 * -(a : Int) - (((pk s i).toNat : Int) - 48) = -((a * 10 + dg1 (pk s i) : Nat) : Int) by omega] at h
        refine numLoop_range s low high neg lim hl hn f (i + 1) _ j v ?_ h hng
        cases neg with
        | true => have := hng rfl; omega
        | false => have := hn rfl; simp only [true_and] at hg; omega
theorem numSp_range {s : ByteArray} {low high : Int} {i j : Nat} {v : Int} (hh : 0 ≤ high ∧ high ≤ 9223372036854775807) (h : numSp s low high i = (j, true, v)) : -9223372036854775808 ≤ v ∧ v ≤ 9223372036854775807 := by
  unfold numSp at h
  by_cases h45 : pk s i = 45
  · rw [if_pos h45] at h
    split at h
    · simp at h
    · have := numLoop_range s low high true 9223372036854775808 (by omega) (fun h => by cases h) (s.size + 1) (i + 1) 0 j v (by omega) h (fun _ => rfl)
      omega
  · rw [if_neg h45] at h
    split at h
    · simp only [Prod.mk.injEq, true_and] at h; omega
    · split at h
      · simp at h
      · obtain ⟨q, hq⟩ : ∃ q, q = numLoop s low high false (s.size + 1) i 0 := ⟨_, rfl⟩
        rw [← hq] at h
        obtain ⟨j', ok, v'⟩ := q
        unfold negR at h
        simp only [Prod.mk.injEq] at h
        obtain ⟨rfl, rfl, rfl⟩ := h
        have := numLoop_range s low high false high (by omega) (fun _ => Int.le_refl _) (s.size + 1) i 0 j' v' (by omega) hq.symm (fun h => by cases h)
        rw [if_pos rfl]; omega
theorem i64_app : ∀ a b : VL, a.i64 → b.i64 → (a.app b).i64
  | .nil, b, _, h => h
  | .cons _ _ _ _ r, b, h, h2 => ⟨h.1, h.2.1, h.2.2.1, i64_app r b h.2.2.2 h2⟩
mutual
theorem valSp_i64 (s : ByteArray) : ∀ (f i : Nat), (valSp s f i).2.1 = true → (valSp s f i).2.2.i64
  | 0, i, h => by rw [valSp] at h; cases h
  | f + 1, i, h => by
    rw [valSp] at h ⊢
    by_cases h35 : pk s i = 35
    · rw [if_pos h35] at h ⊢
      have := numSp_range (s := s) (low := -2147483648) (high := 2147483647) (i := i + 1) (j := (numSp s (-2147483648) 2147483647 (i + 1)).1) (v := (numSp s (-2147483648) 2147483647 (i + 1)).2.2) (by omega) (Prod.ext rfl (Prod.ext h rfl))
      exact ⟨this.1, this.2, trivial, trivial⟩
    rw [if_neg h35] at h ⊢
    by_cases hn : pk s i = 45 ∨ digB (pk s i) = true
    · rw [if_pos hn] at h ⊢
      have := numSp_range (s := s) (low := -9223372036854775808) (high := 9223372036854775807) (i := i) (j := (numSp s (-9223372036854775808) 9223372036854775807 i).1) (v := (numSp s (-9223372036854775808) 9223372036854775807 i).2.2) (by omega) (Prod.ext rfl (Prod.ext h rfl))
      exact ⟨this.1, this.2, trivial, trivial⟩
    rw [if_neg hn] at h ⊢
    by_cases h34 : pk s i = 34
    · rw [if_pos h34]; exact ⟨by decide, by decide, trivial, trivial⟩
    rw [if_neg h34] at h ⊢
    by_cases h123 : pk s i = 123
    · rw [if_pos h123] at h ⊢
      by_cases h125 : pk s (i + 1) = 125
      · rw [if_pos h125]; exact ⟨by decide, by decide, trivial, trivial⟩
      · rw [if_neg h125] at h ⊢
        exact ⟨by decide, by decide, lstSp_i64 s f (i + 1) .nil trivial h, trivial⟩
    · rw [if_neg h123] at h ⊢
      have := (codeSp_inv (s := s) (i := i) (j := (codeSp s i).1) (c := (codeSp s i).2.2) (Prod.ext rfl (Prod.ext h rfl))).2
      exact ⟨by omega, by omega, trivial, trivial⟩
theorem lstSp_i64 (s : ByteArray) : ∀ (f i : Nat) (acc : VL), acc.i64 → (lstSp s f i acc).2.1 = true → (lstSp s f i acc).2.2.i64
  | 0, i, acc, _, h => by rw [lstSp] at h; cases h
  | f + 1, i, acc, ha, h => by
    rw [lstSp] at h ⊢
    by_cases hok : (valSp s f i).2.1 = false
    · rw [if_pos hok] at h; cases h
    rw [if_neg hok] at h ⊢
    have hv := i64_app acc _ ha (valSp_i64 s f i (by simpa using hok))
    by_cases h44 : pk s (valSp s f i).1 = 44
    · rw [if_pos h44] at h ⊢
      by_cases h32 : pk s ((valSp s f i).1 + 1) = 32
      · rw [if_pos h32] at h ⊢
        exact lstSp_i64 s f _ _ hv h
      · rw [if_neg h32] at h; cases h
    · rw [if_neg h44] at h ⊢
      by_cases h125 : pk s (valSp s f i).1 = 125
      · rw [if_pos h125]; exact hv
      · rw [if_neg h125] at h; cases h
end

/-- A text with a sign that is none is not read. -/
theorem read_sign {ea : Nat → Addr} {s : ByteArray} {w w' : World} {e : Ending} (h1 : (1 : UInt8) ∈ s.data.toList) (h : RdOut ea s w e w') :
    ∃ (k n : Int) (t : ByteArray) (A : Option Addr) (L C : Nat) (T : TypeId) (V : Value), e = .returned (.tuple #[.agg #[.int .i64 k, .int .i64 n, .string t, .slice A L C], .iface T V]) ∧ Below w.heap.size w w' := by
  obtain ⟨hb, ⟨hbad, A, _, _, rfl⟩ | ⟨hgood, k, n, t, sub, hv, ⟨hne, rfl⟩ | ⟨h0, sa, sc, _, _, rfl⟩⟩⟩ := h
  · exact ⟨_, _, _, _, _, _, _, _, rfl, hb⟩
  · exact ⟨_, _, _, _, _, _, _, _, by unfold errV; rw [if_neg hne], hb⟩
  · exfalso
    have ht := rdV_inv hgood hv
    have hok := walk1_ok h0
    have hp := txt1_print (OkL_one hok).1 (txtL_print sub _ (OkL_one hok).2)
    rw [← ht] at hp
    unfold prB at hp
    rw [List.all_eq_true] at hp
    exact absurd (hp 1 h1) (by decide)
/-- What is read, opened: an error, or the value whose text it is. -/
theorem read_text {ea : Nat → Addr} {s : ByteArray} {w w' : World} {e : Ending} (hs : s.size ≤ 1000000000) (h : RdOut ea s w e w') :
    Below w.heap.size w w' ∧ ((∃ (k n : Int) (t : ByteArray) (A : Option Addr) (L C : Nat) (ev : Value), e = .returned (.tuple #[.agg #[.int .i64 k, .int .i64 n, .string t, .slice A L C], ev]) ∧ (∃ p : Addr, ev = .iface 70 (.pointer (some p)) ∨ ev = .iface 199 (.pointer (some p)))) ∨
      ∃ (k n : Int) (t : ByteArray) (sub : VL) (sa : Option Addr) (sc : Nat), e = .returned (.tuple #[.agg #[.int .i64 k, .int .i64 n, .string t, .slice sa sub.len sc], .nilIface]) ∧ sub.len ≤ sc ∧ RpL w' (fun b => w.heap.size ≤ b ∧ b < w'.heap.size) sub sa ∧
        (walk1 k n t sub 1 4096).1 = 0 ∧ s.data.toList = txt1 k n t (txtL sub) ∧ (val1 k n t sub).fit ∧ (val1 k n t sub).i64) := by
  obtain ⟨hb, ⟨hbad, A, _, _, rfl⟩ | ⟨hgood, k, n, t, sub, hv, ⟨hne, rfl⟩ | ⟨h0, sa, sc, hsc, hrep, rfl⟩⟩⟩ := h
  · exact ⟨hb, .inl ⟨_, _, _, _, _, _, _, rfl, _, .inl rfl⟩⟩
  · exact ⟨hb, .inl ⟨_, _, _, _, _, _, _, rfl, ea (walk1 k n t sub 1 4096).1, .inr (by unfold errV; rw [if_neg hne])⟩⟩
  · have hg : (rdV s).2.1 = true ∧ s.size ≤ (rdV s).1 := Classical.not_not.1 hgood
    have hfit := valSp_fit s hs (2 * s.size + 2) 0 (Nat.zero_le _)
    have h64 := valSp_i64 s (2 * s.size + 2) 0 hg.1
    rw [show (valSp s (2 * s.size + 2) 0).2.2 = val1 k n t sub from hv] at hfit h64
    exact ⟨hb, .inr ⟨k, n, t, sub, sa, sc, rfl, hsc, hrep, h0, rdV_inv hgood hv, hfit, h64⟩⟩
end Go.Proofs.YtfganjmadehhaaaGreatDoor
namespace Go.Proofs.YtfganjmadehhaaaGreatDoor
open Go.RowKit Go.Lib
set_option linter.unusedVariables false

/-- None of a sort goes on. -/
def NoP (p : UInt8 → Bool) (r : List UInt8) : Prop := ∀ c t, r = c :: t → p c = false
theorem runN_split {s : ByteArray} {p : UInt8 → Bool} {r : List UInt8} (hr : NoP p r) : ∀ (a : List UInt8) (f i : Nat), (∀ c ∈ a, p c = true) → s.data.toList.drop i = a ++ r → a.length < f → runN s p f i = a.length
  | a, 0, i, _, _, hf => absurd hf (Nat.not_lt_zero _)
  | [], f + 1, i, _, hd, _ => by
    unfold runN
    rw [if_neg]
    · rfl
    · rintro ⟨h1, h2⟩
      rw [drop_pk h1] at hd
      have := hr _ _ hd.symm
      rw [h2] at this; cases this
  | c :: t, f + 1, i, ha, hd, hf => by
    obtain ⟨k1, d1⟩ := pk_drop hd
    have hlt : i < s.size := by
      rcases Nat.lt_or_ge i s.size with h | h
      · exact h
      · exfalso
        have hs : s.data.toList.length = s.size := by rw [Array.length_toList]; rfl
        rw [List.drop_of_length_le (by omega)] at hd; cases hd
    unfold runN
    rw [if_pos ⟨hlt, by rw [k1]; exact ha c (by simp)⟩, runN_split hr t f (i + 1) (fun x hx => ha x (by simp [hx])) d1 (by rw [List.length_cons] at hf; omega)]; rfl
theorem drop_len_le {s : ByteArray} {i : Nat} {a r : List UInt8} (h : s.data.toList.drop i = a ++ r) (ha : a ≠ []) : i + a.length + r.length = s.size := by
  have hs : s.data.toList.length = s.size := by rw [Array.length_toList]; rfl
  have := congrArg List.length h
  rw [List.length_drop, List.length_append, hs] at this
  have hl : 0 < a.length := List.length_pos_iff.2 ha
  omega
theorem run_split {s : ByteArray} {p : UInt8 → Bool} {a r : List UInt8} {i : Nat} (hr : NoP p r) (ha : ∀ c ∈ a, p c = true) (hd : s.data.toList.drop i = a ++ r) (hne : a ≠ []) : run s p i = a.length := by
  have := drop_len_le hd hne
  unfold run
  exact runN_split hr a _ i ha hd (by omega)
theorem ext_split {s : ByteArray} {a r : List UInt8} {i : Nat} (hd : s.data.toList.drop i = a ++ r) : (s.extract i (i + a.length)).data.toList = a := by
  rw [ByteArray.data_extract, Array.toList_extract, List.extract_eq_take_drop, hd, show i + a.length - i = a.length by omega, List.take_left]
theorem pk_behind {s : ByteArray} {a r : List UInt8} {i : Nat} (hd : s.data.toList.drop i = a ++ r) : s.data.toList.drop (i + a.length) = r := drop_add hd
/-- No letter and no digit goes on. -/
def Stop (r : List UInt8) : Prop := ∀ c t, r = c :: t → smB c = false ∧ gtB c = false ∧ digB c = false
theorem stop_next {s : ByteArray} {r : List UInt8} {j : Nat} (hd : s.data.toList.drop j = r) (hr : Stop r) : smB (pk s j) = false ∧ gtB (pk s j) = false ∧ digB (pk s j) = false := by
  cases r with
  | nil => rw [pk_end hd]; decide
  | cons c t => rw [(pk_drop hd).1]; exact hr c t rfl
theorem dig_dg {l : List UInt8} (h : ∀ c ∈ l, isDg c = true) : ∀ c ∈ l, digB c = true := fun c hc => by rw [digB_isDg]; exact h c hc

/-- The digits of a number, as the words have it. -/
theorem dgs_ok {s : ByteArray} {i u : Nat} {r : List UInt8} (hd : s.data.toList.drop i = decDigits u ++ r) (hr : Stop r) : dgsSp s i = if 9223372036854775807 < u then .inl 105 else .inr ((u : Int), (decDigits u).length) := by
  obtain ⟨⟨hne, hdg, hz⟩, hval, hpos⟩ := canon_dec u
  have hrun : run s digB i = (decDigits u).length := run_split (fun c t e => (hr c t e).2.2) (dig_dg hdg) hd hne
  have hnext := stop_next (pk_behind hd) hr
  have hl : 0 < (decDigits u).length := List.length_pos_iff.2 hne
  unfold dgsSp
  simp only [hrun, ext_split hd, hval]
  rw [if_neg]
  rintro (h | ⟨h1, h2⟩ | ⟨h1, h2 | h2⟩)
  · omega
  · have : (decDigits u).head? = some 48 := by
      cases hq : decDigits u with
      | nil => exact absurd hq hne
      | cons a t =>
        rw [hq] at hd
        rw [(pk_drop hd).1] at h2
        rw [h2]; rfl
    have := hz this
    omega
  · rw [hnext.1] at h2; cases h2
  · rw [hnext.2.1] at h2; cases h2
/-- .. and with a letter behind. -/
theorem dgs_bad {s : ByteArray} {i u : Nat} {r : List UInt8} {c : UInt8} (hd : s.data.toList.drop i = decDigits u ++ c :: r) (hc : smB c = true ∨ gtB c = true) (hn : digB c = false) : dgsSp s i = .inl 111 := by
  obtain ⟨⟨hne, hdg, hz⟩, hval, hpos⟩ := canon_dec u
  have hrun : run s digB i = (decDigits u).length := run_split (fun x t e => by injection e with e _; rw [← e]; exact hn) (dig_dg hdg) hd hne
  have hlen := drop_len_le hd hne
  have hp := (pk_drop (pk_behind hd)).1
  unfold dgsSp
  simp only [hrun]
  rw [if_pos (.inr (.inr ⟨by rw [List.length_cons] at hlen; omega, by rw [hp]; exact hc⟩))]

theorem dec_head (u : Nat) : ∃ c t, decDigits u = c :: t ∧ digB c = true := by
  obtain ⟨⟨hne, hdg, hz⟩, hval, hpos⟩ := canon_dec u
  cases hq : decDigits u with
  | nil => exact absurd hq hne
  | cons c t => exact ⟨c, t, rfl, by rw [digB_isDg]; exact hdg c (by rw [hq]; simp)⟩
theorem dig_not {c : UInt8} (h : digB c = true) : smB c = false ∧ gtB c = false ∧ c ≠ 35 ∧ c ≠ 34 ∧ c ≠ 45 := by
  unfold digB at h
  rw [decide_eq_true_eq] at h
  refine ⟨?_, ?_, ?_, ?_, ?_⟩
  · unfold smB
    rw [Bool.or_eq_false_iff, decide_eq_false_iff_not, beq_eq_false_iff_ne]
    exact ⟨by omega, fun e => by rw [e] at h; exact absurd h (by decide)⟩
  · unfold gtB; rw [decide_eq_false_iff_not]; omega
  · intro e; rw [e] at h; exact absurd h (by decide)
  · intro e; rw [e] at h; exact absurd h (by decide)
  · intro e; rw [e] at h; exact absurd h (by decide)

/-- An Int that is not below 0, as a word. -/
theorem int_word {s : ByteArray} {i u : Nat} {r : List UInt8} {line : Int} (hd : s.data.toList.drop i = decDigits u ++ r) (hr : Stop r) : wordR s i line = if 9223372036854775807 < u then .bad 105 else .word (decDigits u).length ⟨3, line, ⟨#[]⟩, 0, u, ⟨#[]⟩⟩ := by
  obtain ⟨c, t, hq, hc⟩ := dec_head u
  have hp : pk s i = c := by rw [hq] at hd; exact (pk_drop hd).1
  have hn := dig_not hc
  unfold wordR
  simp only [hp, hn.1, hc, Bool.false_eq_true, if_false, if_true, dgs_ok hd hr]
  by_cases hb : 9223372036854775807 < u
  · simp only [if_pos hb]
  · simp only [if_neg hb]
theorem int_bad {s : ByteArray} {i u : Nat} {r : List UInt8} {line : Int} {x : UInt8} (hd : s.data.toList.drop i = decDigits u ++ x :: r) (hx : smB x = true ∨ gtB x = true) (hxd : digB x = false) : wordR s i line = .bad 111 := by
  obtain ⟨c, t, hq, hc⟩ := dec_head u
  have hp : pk s i = c := by rw [hq] at hd; exact (pk_drop hd).1
  have hn := dig_not hc
  unfold wordR
  simp only [hp, hn.1, hc, Bool.false_eq_true, if_false, if_true, dgs_bad hd hx hxd]

/-- An Obj, as a word. -/
theorem obj_word {s : ByteArray} {i : Nat} {n : Int} {r : List UInt8} {line : Int} (hd : s.data.toList.drop i = 35 :: (itoa n ++ r)) (hr : Stop r) (hn0 : -9223372036854775807 ≤ n) (hn1 : n ≤ 9223372036854775807) :
    wordR s i line = if n < -2147483648 ∨ 2147483647 < n then .bad 105 else .word (1 + (itoa n).length) ⟨3, line, ⟨#[]⟩, 1, n, ⟨#[]⟩⟩ := by
  obtain ⟨hp, d1⟩ := pk_drop hd
  have h1 : smB (35 : UInt8) = false := by decide
  have h2 : digB (35 : UInt8) = false := by decide
  have h3 : gtB (35 : UInt8) = false := by decide
  by_cases hv : n < 0
  · obtain ⟨u, rfl⟩ : ∃ u : Nat, n = -(u : Int) := ⟨n.natAbs, by omega⟩
    have hu : 1 ≤ u := by omega
    rw [itoa_neg u hu] at d1 ⊢
    obtain ⟨p1, d2⟩ := pk_drop (show s.data.toList.drop (i + 1) = 45 :: (decDigits u ++ r) from d1)
    have hg := dgs_ok d2 hr
    rw [if_neg (by omega)] at hg
    have hu0 : ¬ ((u : Int) = 0) := by omega
    unfold wordR
    simp only [hp, h1, h2, h3, Bool.false_eq_true, if_false, if_true, p1, beq_self_eq_true, hg, hu0, and_false]
    by_cases hb : -(u : Int) < -2147483648 ∨ 2147483647 < -(u : Int)
    · rw [if_pos hb, if_pos hb]
    · rw [if_neg hb, if_neg hb, List.length_cons, show i + 1 + 1 + (decDigits u).length - i = 1 + ((decDigits u).length + 1) by omega]
  · obtain ⟨u, rfl⟩ : ∃ u : Nat, n = (u : Int) := ⟨n.toNat, by omega⟩
    rw [itoa_nonneg] at d1 ⊢
    obtain ⟨c, t, hq, hc⟩ := dec_head u
    have p1 : pk s (i + 1) = c := by rw [hq] at d1; exact (pk_drop d1).1
    have hne : (c == 45) = false := by rw [beq_eq_false_iff_ne]; exact (dig_not hc).2.2.2.2
    have hg := dgs_ok d1 hr
    rw [if_neg (by omega)] at hg
    unfold wordR
    simp only [hp, h1, h2, h3, Bool.false_eq_true, if_false, if_true, p1, hne, hg, false_and]
    by_cases hb : (u : Int) < -2147483648 ∨ 2147483647 < (u : Int)
    · rw [if_pos hb, if_pos hb]
    · rw [if_neg hb, if_neg hb, show i + 1 + (decDigits u).length - i = 1 + (decDigits u).length by omega]
theorem obj_bad {s : ByteArray} {i : Nat} {n : Int} {r : List UInt8} {line : Int} {x : UInt8} (hd : s.data.toList.drop i = 35 :: (itoa n ++ x :: r)) (hx : smB x = true ∨ gtB x = true) (hxd : digB x = false) : wordR s i line = .bad 111 := by
  obtain ⟨hp, d1⟩ := pk_drop hd
  have h1 : smB (35 : UInt8) = false := by decide
  have h2 : digB (35 : UInt8) = false := by decide
  have h3 : gtB (35 : UInt8) = false := by decide
  by_cases hv : n < 0
  · obtain ⟨u, rfl⟩ : ∃ u : Nat, n = -(u : Int) := ⟨n.natAbs, by omega⟩
    rw [itoa_neg u (by omega)] at d1
    obtain ⟨p1, d2⟩ := pk_drop (show s.data.toList.drop (i + 1) = 45 :: (decDigits u ++ x :: r) from d1)
    have hg := dgs_bad d2 hx hxd
    unfold wordR
    simp only [hp, h1, h2, h3, Bool.false_eq_true, if_false, if_true, p1, beq_self_eq_true, hg]
  · obtain ⟨u, rfl⟩ : ∃ u : Nat, n = (u : Int) := ⟨n.toNat, by omega⟩
    rw [itoa_nonneg] at d1
    obtain ⟨c, t, hq, hc⟩ := dec_head u
    have p1 : pk s (i + 1) = c := by rw [hq] at d1; exact (pk_drop d1).1
    have hne : (c == 45) = false := by rw [beq_eq_false_iff_ne]; exact (dig_not hc).2.2.2.2
    have hg := dgs_bad d1 hx hxd
    unfold wordR
    simp only [hp, h1, h2, h3, Bool.false_eq_true, if_false, if_true, p1, hne, hg]

/-- An Err, as a word. -/
def geB (c : UInt8) : Bool := gtB c || c == 95
theorem nm_size0 : ∀ a : Fin 15, 0 < (nmAt a.val).size := by decide +kernel
theorem nm_letters : ∀ c : Fin 15, (nmAt c.val).data.toList.all geB = true := by decide +kernel
theorem err_word {s : ByteArray} {i c : Nat} {r : List UInt8} {line : Int} (hc : c < 15) (hd : s.data.toList.drop i = (nmAt c).data.toList ++ r) (hr : NoP geB r) :
    wordR s i line = if smB (pk s (i + (nmAt c).size)) = true ∧ i + (nmAt c).size < s.size ∨ digB (pk s (i + (nmAt c).size)) = true ∧ i + (nmAt c).size < s.size then .bad 111 else .word (nmAt c).size ⟨3, line, ⟨#[]⟩, 3, c, ⟨#[]⟩⟩ := by
  have hz : (nmAt c).data.toList.length = (nmAt c).size := by rw [Array.length_toList]; rfl
  have hne : (nmAt c).data.toList ≠ [] := by
    intro e; rw [e] at hz
    have := nm_size0 ⟨c, hc⟩
    simp only [List.length_nil] at hz this; omega
  have hrun : run s (fun c => gtB c || c == 95) i = (nmAt c).size := by
    rw [← hz]; exact run_split hr (fun x hx => List.all_eq_true.1 (nm_letters ⟨c, hc⟩) x hx) hd hne
  have hsub : s.extract i (i + (nmAt c).size) = nmAt c := ba_ext0 (by rw [← hz]; exact ext_split hd)
  have hcode : codeOf (nmAt c) = c := by
    refine codeOf_hit _ c hc rfl (fun j hj e => ?_)
    have e' : nmAt j = nmAt c := e
    obtain ⟨k, hk1, hk2, hne⟩ := nm_apart ⟨j, by omega⟩ ⟨c, hc⟩ (by simp; omega)
    simp only at hk1 hk2 hne
    exact hne (by rw [e'])
  have hh := nm_head ⟨c, hc⟩
  have hp : pk s i = 69 := by
    cases hq : (nmAt c).data.toList with
    | nil => exact absurd hq hne
    | cons a t =>
      rw [show (nmAt (⟨c, hc⟩ : Fin 15).val).data.toList = a :: t from hq] at hh
      injection hh with hh
      rw [hq, hh] at hd
      exact (pk_drop hd).1
  have h1 : smB (69 : UInt8) = false := by decide
  have h2 : digB (69 : UInt8) = false := by decide
  have h3 : gtB (69 : UInt8) = true := by decide
  have hk : ¬ ((c : Int) < 0) := by omega
  unfold wordR
  simp only [hp, h1, h2, h3, Bool.false_eq_true, if_false, if_true, hrun, hsub, hcode, hk, false_or]
  congr 1
  apply propext
  constructor
  · rintro ⟨a, b | b⟩
    · exact .inl ⟨b, a⟩
    · exact .inr ⟨b, a⟩
  · rintro (⟨a, b⟩ | ⟨a, b⟩)
    · exact ⟨b, .inl a⟩
    · exact ⟨b, .inr a⟩

/-- A Str, as a word. -/
theorem quoEnd_ok {s : ByteArray} {r : List UInt8} : ∀ (l : List UInt8) (f i : Nat), prB l = true → s.data.toList.drop i = escL l ++ 34 :: r → (escL l).length < f → quoEnd s f i = some (i + (escL l).length + 1)
  | l, 0, i, _, _, hf => absurd hf (Nat.not_lt_zero _)
  | [], f + 1, i, _, hd, _ => by
    have hlen := drop_len_le (a := [34]) (r := r) hd (by simp)
    simp only [List.length_singleton] at hlen
    have k := (pk_drop hd).1
    unfold quoEnd
    rw [if_pos ⟨by omega, by rw [k]; decide⟩, if_pos k]; rfl
  | c :: t, f + 1, i, hp, hd, hf => by
    have hpc : prC c = true ∧ prB t = true := by unfold prB at hp ⊢; rw [List.all_cons, Bool.and_eq_true] at hp; exact hp
    have hlen := drop_len_le hd (by rw [escL]; split <;> simp)
    by_cases hq : c = 34 ∨ c = 92
    · rw [escL, if_pos hq] at hd hf hlen ⊢
      obtain ⟨k1, d1⟩ := pk_drop hd
      obtain ⟨k2, d2⟩ := pk_drop d1
      simp only [List.length_cons] at hf hlen
      unfold quoEnd
      rw [if_pos ⟨by omega, by rw [k1]; decide⟩, if_neg (by rw [k1]; decide), if_pos k1, quoEnd_ok t f (i + 2) hpc.2 d2 (by omega)]
      simp only [List.length_cons, Option.some.injEq]; omega
    · rw [escL, if_neg hq] at hd hf hlen ⊢
      obtain ⟨k1, d1⟩ := pk_drop hd
      simp only [List.length_cons] at hf hlen
      unfold quoEnd
      rw [if_pos ⟨by omega, by rw [k1]; exact hpc.1⟩, if_neg (by rw [k1]; exact fun e => hq (.inl e)), if_neg (by rw [k1]; exact fun e => hq (.inr e)), quoEnd_ok t f (i + 1) hpc.2 d1 (by omega)]
      simp only [List.length_cons, Option.some.injEq]; omega
theorem str_word {s t : ByteArray} {i : Nat} {r : List UInt8} {line : Int} (hd : s.data.toList.drop i = quoL t.data.toList ++ r) (hp : prB t.data.toList = true) :
    wordR s i line = if 4096 ≤ t.size then .bad 105 else .word (quoL t.data.toList).length ⟨3, line, ⟨#[]⟩, 2, 0, t⟩ := by
  have hlen := drop_len_le hd (by unfold quoL; simp)
  have k0 := (pk_drop (show s.data.toList.drop i = 34 :: (escL t.data.toList ++ [34] ++ r) from hd)).1
  have d1 : s.data.toList.drop (i + 1) = escL t.data.toList ++ 34 :: r := by
    have := (pk_drop (show s.data.toList.drop i = 34 :: (escL t.data.toList ++ [34] ++ r) from hd)).2
    simpa using this
  have hl : (quoL t.data.toList).length = (escL t.data.toList).length + 2 := by unfold quoL; simp
  have he := quoEnd_ok t.data.toList (s.size + 1) (i + 1) hp d1 (by omega)
  have hsub := ext_split hd
  have hb := strSp_back (s.extract i (i + (quoL t.data.toList).length)) [] t.data.toList 0 hp (by rw [hsub, List.drop_zero, List.append_nil])
  have hz : (s.extract i (i + (quoL t.data.toList).length)).size = (quoL t.data.toList).length := by
    have h1 : ∀ b : ByteArray, b.size = b.data.toList.length := fun b => by rw [Array.length_toList]; rfl
    rw [h1, hsub]
  have htz : t.data.toList.length = t.size := by rw [Array.length_toList]; rfl
  have h1 : smB (34 : UInt8) = false := by decide
  have h2 : digB (34 : UInt8) = false := by decide
  have h3 : gtB (34 : UInt8) = false := by decide
  have h4 : ¬ (34 : UInt8) = 35 := by decide
  have hj : i + 1 + (escL t.data.toList).length + 1 = i + (quoL t.data.toList).length := by omega
  have hw : strW (s.extract i (i + (quoL t.data.toList).length)) = if 4096 ≤ t.size then .inl 105 else .inr t := by
    unfold strW
    simp only [hb, hz]
    rw [if_pos ⟨trivial, by omega⟩, htz]
  unfold wordR
  simp only [k0, h1, h2, h3, h4, Bool.false_eq_true, if_false, if_true, he, hj, hw]
  by_cases h : 4096 ≤ t.size
  · simp only [if_pos h]
  · simp only [if_neg h, Nat.add_sub_cancel_left]
end Go.Proofs.YtfganjmadehhaaaGreatDoor
