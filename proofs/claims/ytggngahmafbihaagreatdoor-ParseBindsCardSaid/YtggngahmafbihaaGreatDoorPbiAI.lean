/- Contracts of the functions that the statement reaches, and the plain mathematics beneath: several texts joined. -/
import Derived.Sort.Grow
import Derived.Sort.Row
import Derived.Maps.AppendAt
import Derived.Deep.RegionHeld3
import Derived.StillTailTactics
import Derived.IntWalk
import Derived.LaidEql
import Derived.Test.YtggngahmafbihaaGreatDoorPbiAF
import Derived.Test.YtggngahmafbihaaGreatDoorShelf
import Derived.Test.YtggngahmafbihaaGreatDoorPbiAG
namespace Go.Proofs.YtggngahmafbihaaGreatDoor
open Go.RowKit Go.Lib Go.Sort
set_option linter.unusedVariables false

theorem sort_const {a b : List (List UInt8)} (hp : b.Perm a) (hs : b.Pairwise (fun x y => decide (x ≤ y) = true)) : a.mergeSort (fun x y => decide (x ≤ y)) = b := by
  have h1 : (a.mergeSort (fun x y => decide (x ≤ y))).Perm b := (List.mergeSort_perm a _).trans hp.symm
  refine List.Perm.eq_of_pairwise (le := fun x y : List UInt8 => decide (x ≤ y) = true) ?_ ?_ hs h1
  · intro x y _ _ h1 h2
    exact List.le_antisymm (of_decide_eq_true h1) (of_decide_eq_true h2)
  · refine List.pairwise_mergeSort ?_ ?_ a
    · intro x y z h1 h2; exact decide_eq_true (List.le_trans (of_decide_eq_true h1) (of_decide_eq_true h2))
    · intro x y
      rw [Bool.or_eq_true]
      rcases List.le_total x y with h | h
      · exact .inl (decide_eq_true h)
      · exact .inr (decide_eq_true h)

/-- Texts that lie in a row. -/
def StrsAt (w : World) (g : Nat) (l : List ByteArray) : Prop := ∀ j, j < l.length → w.cell? ⟨g, 0 + j, none⟩ = some (.string (l.getD j ByteArray.empty))
theorem StrsAt.below {w w' : World} {g : Nat} {l : List ByteArray} {B : Nat} (h : StrsAt w g l) (hb : Below B w w') (hg : g < B) : StrsAt w' g l := fun j hj => (hb.cell (p := ⟨g, 0 + j, none⟩) hg).trans (h j hj)

/-- What sorting leaves. -/
theorem sorted_at {w w' : World} {g n : Nat} {os : Array Obj} {ss : List (List UInt8)} {l : List ByteArray} (hH : Holds encStr w g 0 ss.toArray) (hg : g < w.heap.size)
    (hl : ss.mergeSort (fun x y => decide (x ≤ y)) = l.map (·.data.toList)) (he : w' = grow (putRow encStr (Sort.ahead w n) g 0 (ss.mergeSort fun x y => decide (x ≤ y)).toArray) os) :
    StrsAt w' g l ∧ Below g w w' := by
  have hsz : (ss.mergeSort fun x y => decide (x ≤ y)).toArray.size = ss.toArray.size := by simp
  have hh := holds_putRow encStr (Sort.ahead w n) g 0 ss.toArray (ss.mergeSort fun x y => decide (x ≤ y)).toArray (holds_ahead _ _ _ _ _ _ hH) hsz
  have hlt : g < (putRow encStr (Sort.ahead w n) g 0 (ss.mergeSort fun x y => decide (x ≤ y)).toArray).heap.size := by
    have : (putRow encStr (Sort.ahead w n) g 0 (ss.mergeSort fun x y => decide (x ≤ y)).toArray).heap.size = w.heap.size := by unfold putRow mapBlock Sort.ahead; simp
    omega
  have hg' := holds_grow encStr _ os g 0 _ hlt hh
  rw [← he] at hg'
  refine ⟨fun j hj => ?_, ?_⟩
  · have := (hg' j (by rw [hl]; simpa using hj)).1
    rw [this, hl]
    congr 1
    unfold encStr
    congr 1
    rw [List.getElem!_toArray]
    rw [getElem!_pos _ _ (by simpa using hj), List.getElem_map, List.getD_eq_getElem?_getD, List.getElem?_eq_getElem hj]
    rfl
  · rw [he]
    refine ⟨rfl, rfl, rfl, ?_, fun k hk => ?_⟩
    · unfold grow putRow mapBlock Sort.ahead; simp
    · unfold grow putRow mapBlock Sort.ahead
      simp only
      rw [Array.getElem?_append_left (by simp; omega), Array.getElem?_modify, if_neg (by omega)]

def keysT : List UInt8 := [105, 102, 32, 101, 108, 115, 101, 105, 102, 32, 101, 108, 115, 101, 32, 101, 110, 100, 105, 102, 32, 102, 111, 114, 32, 105, 110, 32, 101, 110, 100, 102, 111, 114, 32, 119, 104, 105, 108, 101, 32, 101, 110, 100, 119, 104, 105, 108, 101, 32, 98, 114, 101, 97, 107, 32, 99, 111, 110, 116, 105, 110, 117, 101, 32, 114, 101, 116, 117, 114, 110, 32, 102, 111, 114, 107, 32, 101, 110, 100, 102, 111, 114, 107, 32, 116, 114, 121, 32, 101, 120, 99, 101, 112, 116, 32, 102, 105, 110, 97, 108, 108, 121, 32, 101, 110, 100, 116, 114, 121, 32, 97, 110, 121]
def keysF : List (List UInt8) := [[105, 102], [101, 108, 115, 101, 105, 102], [101, 108, 115, 101], [101, 110, 100, 105, 102], [102, 111, 114], [105, 110], [101, 110, 100, 102, 111, 114], [119, 104, 105, 108, 101], [101, 110, 100, 119, 104, 105, 108, 101], [98, 114, 101, 97, 107], [99, 111, 110, 116, 105, 110, 117, 101], [114, 101, 116, 117, 114, 110], [102, 111, 114, 107], [101, 110, 100, 102, 111, 114, 107], [116, 114, 121], [101, 120, 99, 101, 112, 116], [102, 105, 110, 97, 108, 108, 121], [101, 110, 100, 116, 114, 121], [97, 110, 121]]
def signsT : List UInt8 := [40, 32, 41, 32, 123, 32, 125, 32, 91, 32, 93, 32, 44, 32, 59, 32, 46, 32, 58, 32, 33, 32, 63, 32, 124, 32, 61, 32, 43, 32, 45, 32, 42, 32, 47, 32, 37, 32, 60, 32, 62, 32, 64, 32, 39, 32, 36, 32, 61, 61, 32, 33, 61, 32, 60, 61, 32, 62, 61, 32, 38, 38, 32, 124, 124, 32, 61, 62, 32, 46, 46]
def signsF : List (List UInt8) := [[40], [41], [123], [125], [91], [93], [44], [59], [46], [58], [33], [63], [124], [61], [43], [45], [42], [47], [37], [60], [62], [64], [39], [36], [61, 61], [33, 61], [60, 61], [62, 61], [38, 38], [124, 124], [61, 62], [46, 46]]
set_option maxRecDepth 100000 in
theorem keys_fields : Lib.fields keysT = keysF := by decide +kernel
set_option maxRecDepth 100000 in
theorem signs_fields : Lib.fields signsT = signsF := by decide +kernel
theorem keys_sorted : keysF.mergeSort (fun x y => decide (x ≤ y)) = keysL.map (·.data.toList) := sort_const (List.isPerm_iff.1 (by decide +kernel)) (by decide +kernel)
theorem signs_sorted : (signsF ++ [[96]]).mergeSort (fun x y => decide (x ≤ y)) = signsL.map (·.data.toList) := sort_const (List.isPerm_iff.1 (by decide +kernel)) (by decide +kernel)
theorem ascii_all {l : List UInt8} (h : l.all (fun b => decide (b.toNat < 128)) = true) : ∀ (j : Nat) b, l[j]? = some b → b.toNat < 128 := fun j b hb =>
  of_decide_eq_true (List.all_eq_true.1 h b (List.mem_of_getElem? hb))
abbrev SpaceAt (w : World) : Prop := Lib.TabIs Tryz.prog w "strings.asciiSpace" .u8 Lib.asciiSpaceTab

theorem keysFields_c (w : World) (ht : SpaceAt w) : Calls Tryz.prog 154 #[.string ⟨keysT.toArray⟩] w fun e w' =>
    e = .returned (.slice (some ⟨w.heap.size, 0, none⟩) 19 19) ∧ w.alloc (.cells (keysF.map fun l => Value.string ⟨l.toArray⟩).toArray 9) = w' := by
  refine (Tryz.strings_Fields_laid ⟨keysT.toArray⟩ w (by decide) (ascii_all (l := keysT) (by decide +kernel)) ht).mono ?_
  rintro e w' ⟨rfl, rfl⟩
  rw [show (⟨keysT.toArray⟩ : ByteArray).data.toList = keysT from rfl, keys_fields]
  exact ⟨rfl, rfl⟩
theorem signsFields_c (w : World) (ht : SpaceAt w) : Calls Tryz.prog 154 #[.string ⟨signsT.toArray⟩] w fun e w' =>
    e = .returned (.slice (some ⟨w.heap.size, 0, none⟩) 32 32) ∧ w.alloc (.cells (signsF.map fun l => Value.string ⟨l.toArray⟩).toArray 9) = w' := by
  refine (Tryz.strings_Fields_laid ⟨signsT.toArray⟩ w (by decide) (ascii_all (l := signsT) (by decide +kernel)) ht).mono ?_
  rintro e w' ⟨rfl, rfl⟩
  rw [show (⟨signsT.toArray⟩ : ByteArray).data.toList = signsT from rfl, signs_fields]
  exact ⟨rfl, rfl⟩

/-- A new row of texts, as sorting asks for it. -/
theorem holds_new (w : World) (ss : List (List UInt8)) : Holds encStr (w.alloc (.cells (ss.map fun l => Value.string ⟨l.toArray⟩).toArray 9)) w.heap.size 0 ss.toArray := by
  intro j hj
  have hb := heap_alloc_new w (.cells (ss.map fun l => Value.string ⟨l.toArray⟩).toArray 9)
  refine ⟨?_, by unfold World.frozen?; rw [hb]; simp⟩
  rw [Nat.zero_add, cell_of_row _ _ j _ _ _ hb]
  have hj' : j < ss.length := by simpa using hj
  simp [hj', encStr]

set_option maxRecDepth 100000 in
theorem keys_c (w : World) (ht : SpaceAt w) : Calls Tryz.prog 118 #[] w fun e w' =>
    ∃ g, e = .returned (.slice (some ⟨g, 0, none⟩) 19 19) ∧ g < w'.heap.size ∧ StrsAt w' g keysL ∧ Below w.heap.size w w' := by
  have FK := Lib.hid (keysFields_c w ht)
  obtain ⟨w1, hw1⟩ : ∃ w1, w1 = w.alloc (.cells (keysF.map fun l => Value.string ⟨l.toArray⟩).toArray 9) := ⟨_, rfl⟩
  have hH : Holds encStr w1 w.heap.size 0 keysF.toArray := by rw [hw1]; exact holds_new w keysF
  have hz : w.heap.size < w1.heap.size := by rw [hw1]; simp
  have hb : Below w.heap.size w w1 := by rw [hw1]; exact (Below.refl _ _).alloc (Nat.le_refl _) _
  have SC := Lib.hid (Tryz.slices_Sort_string w.heap.size 0 19 keysF w1 hH hz (by decide))
  rw [show keysF.length = 19 from rfl] at SC
  rw [← hw1] at FK
  have HH := Lib.hid hH
  have HB := Lib.hid hb
  clear hH hb hw1
  go_enter Tryz.func118, Tryz.ntmps118
  go_wp2_with fail
  refine FK.out.mono ?_
  rintro e w2 ⟨rfl, rfl⟩
  go_wp2_with fail
  refine SC.out.mono ?_
  rintro e w2 ⟨rfl, n, os, he⟩
  have SA := Lib.hid (sorted_at HH.out hz keys_sorted he)
  clear he
  go_wp2_with fail
  go_ret
  exact ⟨_, rfl, Nat.lt_of_lt_of_le hz SA.out.2.size, SA.out.1, HB.out.trans SA.out.2⟩

theorem lstr_info : (Tryz.prog.info? 9).map (fun i => (i.zero, i.size, i.bytes)) = some (some (.string ⟨#[]⟩), 1, 16) := by kernel_rfl
/-- A row of texts that the call owns, as sorting asks for it. -/
theorem holds_own {w : World} {base g n cap : Nat} {ss : List (List UInt8)} (h : w.ownsRow base 9 1 (.slice (some ⟨g, 0, none⟩) n cap) n (ss.map fun l => Value.string ⟨l.toArray⟩)) : Holds encStr w g 0 ss.toArray := by
  intro j hj
  have hj' : j < ss.length := by simpa using hj
  have hc := h.cells (g := g) rfl j (.string ⟨(ss[j]).toArray⟩) (by simp [hj'])
  have hadd : (⟨g, 0, none⟩ : Addr).add j = ⟨g, j, none⟩ := by unfold Addr.add; split <;> simp_all
  rw [hadd] at hc
  refine ⟨by rw [Nat.zero_add, hc]; simp [hj', encStr], ?_⟩
  rcases h.2 with ⟨e, _⟩ | ⟨g', cap', cur, e, _, hh, _⟩
  · cases e
  · injection e with e _ _; injection e with e; injection e with e _ _; subst e
    unfold World.frozen?; rw [hh]; simp
theorem own_new (w : World) (ss : List (List UInt8)) (hm : ss.length ≤ maxLen) : (w.alloc (.cells (ss.map fun l => Value.string ⟨l.toArray⟩).toArray 9)).ownsRow w.heap.size 9 1 (.slice (some ⟨w.heap.size, 0, none⟩) ss.length ss.length) ss.length (ss.map fun l => Value.string ⟨l.toArray⟩) :=
  ⟨by simp, .inr ⟨w.heap.size, ss.length, _, rfl, Nat.le_refl _, heap_alloc_new w _, Nat.le_refl _, hm, by simp, by simp only [Nat.mul_one]; exact List.take_of_length_le (by simp)⟩⟩

set_option maxRecDepth 100000 in
set_option maxHeartbeats 1000000 in
theorem signs_c (w : World) (ht : SpaceAt w) : Calls Tryz.prog 124 #[] w fun e w' =>
    ∃ g cap, e = .returned (.slice (some ⟨g, 0, none⟩) 33 cap) ∧ w.heap.size ≤ g ∧ g < w'.heap.size ∧ StrsAt w' g signsL ∧ Below w.heap.size w w' := by
  obtain ⟨i0, hi0, hz0, hz1, hz2⟩ := info_parts lstr_info
  have FK := Lib.hid (signsFields_c w ht)
  obtain ⟨w1, hw1⟩ : ∃ w1, w1 = w.alloc (.cells (signsF.map fun l => Value.string ⟨l.toArray⟩).toArray 9) := ⟨_, rfl⟩
  have hO : w1.ownsRow w.heap.size 9 1 (.slice (some ⟨w.heap.size, 0, none⟩) 32 32) 32 (signsF.map fun l => Value.string ⟨l.toArray⟩) := by rw [hw1]; exact own_new w signsF (by decide)
  have hz : w.heap.size < w1.heap.size := by rw [hw1]; simp
  have hb : Below w.heap.size w w1 := by rw [hw1]; exact (Below.refl _ _).alloc (Nat.le_refl _) _
  rw [← hw1] at FK
  have HO := Lib.hid hO
  have HB := Lib.hid hb
  clear hO hb hw1
  go_enter Tryz.func124, Tryz.ntmps124
  go_wp2_with fail
  refine FK.out.mono ?_
  rintro e w2 ⟨rfl, rfl⟩
  go_wp2_with (at_builtin; refine wpList_append_own_at _ rfl (.tmp 3) (.tmp 4) 23 rfl w.heap.size 9 i0 _ 1 16 Tryz.underlying23 hi0 hz0 hz1 hz2 rfl (by decide) (.slice (some ⟨w.heap.size, 0, none⟩) 32 32) 32 _ rfl (HO.out.alloc _) ⟨w1.heap.size, 0, none⟩ 1 1 [.string ⟨#[96]⟩] rfl rfl ?c1 ?c2 ?c3 ?c4 ?c5 ?_
               case c1 => exact World.news_of_block (cs := #[.string ⟨#[96]⟩]) (heap_alloc_new w1 _)
               case c2 => intro u hu; simp at hu; subst hu; rfl
               case c3 => decide
               case c4 => decide
               case c5 => simp; omega
               intro v' w3 hown' hgrow _ hob
               have HO3 := Lib.hid hown'
               have HG3 := Lib.hid hgrow
               clear hown' hgrow hob)
  obtain ⟨g, cap, hv, hbg, hlt⟩ := HO3.out.form (by decide)
  subst hv
  have hHs : Holds encStr w3 g 0 (signsF ++ [[96]]).toArray := holds_own (ss := signsF ++ [[96]]) (by rw [List.map_append]; exact HO3.out)
  have SC := Lib.hid (Tryz.slices_Sort_string g 0 cap (signsF ++ [[96]]) w3 hHs hlt (by decide))
  have HH := Lib.hid hHs
  rw [show (signsF ++ ([[96]] : List (List UInt8))).length = 33 from rfl] at SC
  clear hHs
  go_wp2_with fail
  refine SC.out.mono ?_
  rintro e w4 ⟨rfl, n, os, he⟩
  have SA := Lib.hid (sorted_at HH.out hlt signs_sorted he)
  have hz4 : w3.heap.size ≤ w4.heap.size := SA.out.2.size
  clear he
  go_wp2_with fail
  go_ret
  exact ⟨g, cap, rfl, hbg, by omega, SA.out.1, (Below.grown (HB.out.alloc (by omega) _) HG3.out (by simp; omega) (fun k hk => by injection hk with hk; subst hk; exact Nat.le_refl _)).trans (below_le' SA.out.2 hbg)⟩
end Go.Proofs.YtggngahmafbihaaGreatDoor
namespace Go.Proofs.YtggngahmafbihaaGreatDoor
open Go.RowKit Go.Lib
set_option linter.unusedVariables false

theorem quiet_add_left {P : Program} {f : FuncId} {args : Array Value} {w : World} {a n : Nat} {v : Value}
    (h : Calls P f args (w.drewN (a + n)) fun e w' => e = .returned v ∧ w.drewN (a + n) = w') :
    Calls P f args (w.drewN (a + n)) fun e w'' => e = .returned v ∧ ∃ m, w'' = w.drewN (a + m) :=
  h.mono fun _ _ ⟨he, hm⟩ => ⟨he, n, hm.symm⟩
theorem quiet_left {P : Program} {f : FuncId} {args : Array Value} {w : World} {n : Nat} {v : Value}
    (h : Calls P f args (w.drewN n) fun e w' => e = .returned v ∧ w.drewN n = w') : Calls P f args (w.drewN n) fun e w'' => e = .returned v ∧ ∃ m, w'' = w.drewN m :=
  h.mono fun _ _ ⟨he, hm⟩ => ⟨he, n, hm.symm⟩
theorem tab_keep {P : Program} {w w' : World} {n : String} {g : Nat} {k : IntKind} {zs : List Int} (hg : P.globalNamed n = some g) (h : TabIs P w n k zs) (e : w'.heap[g]? = w.heap[g]?) : TabIs P w' n k zs := by
  unfold TabIs World.var? at *
  rw [hg] at h ⊢
  simp only [Option.bind_some] at h ⊢
  rw [e]; exact h
/-- What lex asks of the variables. -/
structure LxEnv (w : World) (ea : Nat → Addr) : Prop where
  err : ErrsAt w ea
  spc : SpaceAt w
  str : StrcAt w
theorem LxEnv.below {w w' : World} {ea : Nat → Addr} {B : Nat} (h : LxEnv w ea) (hb : Below B w w') (hB : 24 ≤ B) : LxEnv w' ea := by
  have hk : ∀ p : Addr, p.block < 24 → w'.cell? p = w.cell? p := fun p hp => World.cell?_of_block (w := w) (hb.block p.block (by omega))
  obtain ⟨t1, p1, h1⟩ := h.str.syn
  obtain ⟨t2, p2, h2⟩ := h.str.rng
  refine ⟨h.err.below hb hB, tab_keep (g := 17) rfl h.spc (hb.block _ (Nat.lt_of_lt_of_le (by decide) hB)), ⟨⟨t1, p1, (hk ⟨21, 0, none⟩ (by decide)).trans h1⟩, ⟨t2, p2, (hk ⟨22, 0, none⟩ (by decide)).trans h2⟩, tab_keep (g := 20) rfl h.str.tab (hb.block _ (Nat.lt_of_lt_of_le (by decide) hB)), ?_⟩⟩
  have := h.str.room; have := hb.size; omega

/-- An error around a line. -/
def LxBad (B : Nat) (line : Int) (ev : Value) (e : Ending) (w' : World) : Prop :=
  ∃ A, B ≤ A ∧ w'.heap[A]? = some (.cells #[.int .i64 line, ev] 73 (0, 0)) ∧ e = .returned (.iface 70 (.pointer (some ⟨A, 0, none⟩)))
/-- What a word's walk shows. -/
def LxRes (ea : Nat → Addr) (R : Nat) (s : ByteArray) (i : Nat) (line : Int) (l : List Tok) (r : WR) (w : World) (e : Ending) (w' : World) : Prop :=
  Below R w w' ∧ match r with
  | .bad c => LxBad R line (.iface 270 (.pointer (some (ea c)))) e w'
  | .word n t => e = .returned .nilIface ∧ LxSt w' R s (i + n) line (l ++ [t])
theorem LxRes.mkBad {ea : Nat → Addr} {R c : Nat} {s : ByteArray} {i : Nat} {line : Int} {l : List Tok} {r : WR} {w w1 : World} (hr : r = .bad c) (hb : Below R w w1) (hR : R ≤ w1.heap.size) :
    LxRes ea R s i line l r w (.returned (.iface 70 (.pointer (some ⟨w1.heap.size, 0, none⟩)))) (w1.alloc (.cells #[.int .i64 line, .iface 270 (.pointer (some (ea c)))] 73)) := by
  subst hr
  exact ⟨hb.alloc hR _, _, hR, heap_alloc_new w1 _, rfl⟩
theorem LxRes.mkWord {ea : Nat → Addr} {R n : Nat} {s : ByteArray} {i : Nat} {line : Int} {l : List Tok} {r : WR} {t : Tok} {w w1 : World} (hr : r = .word n t) (hb : Below R w w1) (h : LxSt w1 R s (i + n) line (l ++ [t])) :
    LxRes ea R s i line l r w (.returned .nilIface) w1 := by
  subst hr
  exact ⟨hb, rfl, h⟩
theorem below_drewN {B : Nat} {w w' : World} (h : Below B w w') (n : Nat) : Below B w (w'.drewN n) := ⟨h.os, h.tape, h.output, h.size, h.block⟩
theorem contains_keys (x : ByteArray) : containsS (keysL.take 19) x = keysL.contains x := by
  have hlaw : ∀ a b : ByteArray, (a == b) = true ↔ a = b := fun a b => by
    show (a.data == b.data) = true ↔ a = b
    rw [beq_iff_eq]
    exact ⟨fun e => by cases a; cases b; simp only at e; rw [e], fun e => by rw [e]⟩
  rw [show keysL.take 19 = keysL from rfl, Bool.eq_iff_iff, containsS_iff, List.contains_iff_exists_mem_beq]
  constructor
  · intro h; exact ⟨x, h, (hlaw x x).2 rfl⟩
  · rintro ⟨y, h1, h2⟩; rw [(hlaw x y).1 h2]; exact h1
theorem sum_in (i n : Nat) (h : i + n ≤ 1000000000) : IntKind.i64.wrap ((i : Int) + (n : Int)) = (i : Int) + (n : Int) ∧ (0 : Int) ≤ (i : Int) + (n : Int) ∧ ((i : Int) + (n : Int)).toNat = i + n := ⟨IntWalk.i64_in _ (by omega), by omega, by omega⟩
/-- A word in a block of its own. -/
def TkB (w : World) (g : Nat) (a b c d e f h : Value) : Prop := w.heap[g]? = some (.cells #[a, b, c, d, e, f, h] 55 (0, 0))
section
variable {w w' : World} {g : Nat} {a b c d e f h : Value}
theorem TkB.new (w : World) (a b c d e f h : Value) : TkB (w.alloc (.cells #[a, b, c, d, e, f, h] 55)) w.heap.size a b c d e f h := heap_alloc_new w _
theorem TkB.c0 (H : TkB w g a b c d e f h) : w.cell? ⟨g, 0, none⟩ = some a := cell_of_row w g 0 _ _ _ H
theorem TkB.c1 (H : TkB w g a b c d e f h) : w.cell? ⟨g, 1, none⟩ = some b := cell_of_row w g 1 _ _ _ H
theorem TkB.c2 (H : TkB w g a b c d e f h) : w.cell? ⟨g, 2, none⟩ = some c := cell_of_row w g 2 _ _ _ H
theorem TkB.c3 (H : TkB w g a b c d e f h) : w.cell? ⟨g, 3, none⟩ = some d := cell_of_row w g 3 _ _ _ H
theorem TkB.c4 (H : TkB w g a b c d e f h) : w.cell? ⟨g, 4, none⟩ = some e := cell_of_row w g 4 _ _ _ H
theorem TkB.c5 (H : TkB w g a b c d e f h) : w.cell? ⟨g, 5, none⟩ = some f := cell_of_row w g 5 _ _ _ H
theorem TkB.c6 (H : TkB w g a b c d e f h) : w.cell? ⟨g, 6, none⟩ = some h := cell_of_row w g 6 _ _ _ H
theorem TkB.fr (H : TkB w g a b c d e f h) (k : Nat) : w.frozen? ⟨g, k, none⟩ = false := by unfold TkB at H; simp [World.frozen?, H]
theorem TkB.below {B : Nat} (H : TkB w g a b c d e f h) (hb : Below B w w') (hB : g < B) : TkB w' g a b c d e f h := (hb.block g hB).trans H
theorem TkB.set0 (H : TkB w g a b c d e f h) (u : Value) : TkB (w.setCell ⟨g, 0, none⟩ u) g u b c d e f h := by
  unfold TkB at H ⊢; simp [World.setCell, Array.getElem?_modify, H]
end
theorem cell_below7 {B : Nat} {w w' : World} (hb : Below B w w') {p : Addr} {v : Value} (h : w.cell? p = some v) (hp : p.block < B) : w'.cell? p = some v := (hb.cell hp).trans h
theorem run_le (s : ByteArray) (p : UInt8 → Bool) (i : Nat) (h : i ≤ s.size) : i + run s p i ≤ s.size := runN_le s p _ i h
theorem run_pos (s : ByteArray) (p : UInt8 → Bool) (i : Nat) (h : i < s.size) (hp : p (pk s i) = true) : 1 ≤ run s p i := by
  unfold run; rw [runN_step h hp]; omega
theorem enters_name1 : ∀ (args : Array Value) (w : World), (callFunc 115 args).run Tryz.prog w = .ok (.enter 115 args) w := enters_of Tryz.func115 (by kernel_rfl) rfl
theorem enters_code1 : ∀ (args : Array Value) (w : World), (callFunc 121 args).run Tryz.prog w = .ok (.enter 121 args) w := enters_of Tryz.func121 (by kernel_rfl) rfl
theorem enters_digit : ∀ (args : Array Value) (w : World), (callFunc 75 args).run Tryz.prog w = .ok (.enter 75 args) w := enters_of Tryz.func75 (by kernel_rfl) rfl

def nameR (s : ByteArray) (i : Nat) (line : Int) : WR :=
  let n := run s (fun c => smB c || digB c) i
  if 32 < n ∨ (i + n < s.size ∧ gtB (pk s (i + n)) = true) then .bad 111
  else .word n ⟨if keysL.contains (s.extract i (i + n)) then 2 else 1, line, s.extract i (i + n), 0, 0, ⟨#[]⟩⟩
theorem wordR_name {s : ByteArray} {i : Nat} {line : Int} (h : smB (pk s i) = true) : wordR s i line = nameR s i line := by
  unfold wordR nameR
  simp only [h, if_true]

set_option maxRecDepth 100000 in
set_option maxHeartbeats 2000000 in
theorem name_c (R : Nat) (s : ByteArray) (i : Nat) (line : Int) (l : List Tok) (ea : Nat → Addr) (w : World) (h : LxSt w R s i line l) (he : LxEnv w ea) (hi : i < s.size) (hs : s.size ≤ 1000000000) (hR : 24 ≤ R) (hsm : smB (pk s i) = true) :
    Calls Tryz.prog 74 #[.pointer (some ⟨R, 0, none⟩)] w (LxRes ea R s i line l (nameR s i line) w) := by
  have hlt := h.lt
  obtain ⟨v, L, ha, _⟩ := id h
  have hc0 := ha.c0; have hc1 := ha.c1
  have RC := Lib.hid (run_c _ _ enters_name1 name_is R s i line v i w ha (by omega) hs)
  obtain ⟨n, hn⟩ : ∃ n, n = run s (fun c => smB c || digB c) i := ⟨_, rfl⟩
  have hn1 : 1 ≤ n := by rw [hn]; exact run_pos s _ i hi (by simp [hsm])
  have hn2 : i + n ≤ s.size := by rw [hn]; exact run_le s _ i (by omega)
  obtain ⟨r, hr⟩ : ∃ r, r = nameR s i line := ⟨_, rfl⟩
  have HR : Hid (r = if 32 < n ∨ (i + n < s.size ∧ gtB (pk s (i + n)) = true) then .bad 111
    else .word n ⟨if keysL.contains (s.extract i (i + n)) then 2 else 1, line, s.extract i (i + n), 0, 0, ⟨#[]⟩⟩) := by rw [hr, hn]; rfl
  rw [← hr]
  rw [← hn] at RC
  have HH := Lib.hid h
  have HA := Lib.hid ha
  have HE := Lib.hid he
  clear hr hn h he ha
  by_cases h32 : 32 < n
  · have HB := Lib.hid (HR.out.trans (if_pos (.inl h32)))
    have hd : decide ((n : Int) > 32) = true := by simp; omega
    have hd' : decide (32 < (n : Int)) = true := by simp; omega
    have e1 := HE.out.err.syn
    clear HR
    go_enter Tryz.func74, Tryz.ntmps74
    go_wp2_with fail
    refine RC.out.mono ?_
    rintro e w1 ⟨rfl, n1, rfl⟩
    go_wp2_with fail
    go_quiet (fail)
    go_wp2_with fail
    refine (bad_c R s i line v _ _ (by exact HA.out)).mono ?_
    rintro e w2 ⟨rfl, rfl⟩
    go_wp2_with fail
    go_ret
    exact LxRes.mkBad HB.out (below_drewN (Below.refl _ _) _) (Nat.le_of_lt hlt)
  · have hle : (n : Int) ≤ 32 := by omega
    have hd : decide ((n : Int) > 32) = false := by simp; omega
    have hd' : decide (32 < (n : Int)) = false := by simp; omega
    by_cases hbad : i + n < s.size ∧ gtB (pk s (i + n)) = true
    · have HB := Lib.hid (HR.out.trans (if_pos (.inr hbad)))
      have hlt2 := hbad.1
      have GC := Lib.hid (fun W => by have := great_c (pk s (i + n)) W; rw [hbad.2, pk_in s (i + n) hlt2] at this; exact this)
      have hdx : decide ((i : Int) + (n : Int) < (s.size : Int)) = true := by simp; omega
      have hdy : (i : Int) + (n : Int) < (s.size : Int) := by omega
      have e1 := HE.out.err.syn
      obtain ⟨g1, g2, g3⟩ := sum_in i n (by omega)
      clear HR hbad h32
      go_enter Tryz.func74, Tryz.ntmps74
      go_wp2_with fail
      refine RC.out.mono ?_
      rintro e w1 ⟨rfl, n1, rfl⟩
      go_wp2_with fail
      go_quiet ((go_at_call 77; exact quiet_add_left (GC.out _)))
      go_wp2_with fail
      refine (bad_c R s i line v _ _ (by exact HA.out)).mono ?_
      rintro e w2 ⟨rfl, rfl⟩
      go_wp2_with fail
      go_ret
      exact LxRes.mkBad HB.out (below_drewN (Below.refl _ _) _) (Nat.le_of_lt hlt)
    · have HB := Lib.hid (HR.out.trans (if_neg (by rintro (h | h); exact h32 h; exact hbad h)))
      obtain ⟨g1, g2, g3⟩ := sum_in i n (by omega)
      have hdz : (i : Int) + (n : Int) ≤ (s.size : Int) := by omega
      have hdw : (i : Int) ≤ (i : Int) + (n : Int) := by omega
      obtain ⟨sub, hsub⟩ : ∃ sub, sub = s.extract i (i + n) := ⟨_, rfl⟩
      have HS := Lib.hid hsub
      rw [← hsub] at HB
      cases hk : keysL.contains sub with
      | true =>
        have HK := Lib.hid hk
        have HB2 := Lib.hid (show r = .word n ⟨2, line, sub, 0, 0, ⟨#[]⟩⟩ by rw [HB.out, hk]; rfl)
        clear HB
        by_cases hin : i + n < s.size
        · have hg : gtB (pk s (i + n)) = false := by
            cases hq : gtB (pk s (i + n)) with
            | false => rfl
            | true => exact absurd ⟨hin, hq⟩ hbad
          have GC := Lib.hid (fun W => by have := great_c (pk s (i + n)) W; rw [hg, pk_in s (i + n) hin] at this; exact this)
          have hdx : decide ((i : Int) + (n : Int) < (s.size : Int)) = true := by simp; omega
          have hdy : (i : Int) + (n : Int) < (s.size : Int) := by omega
          clear hg
          clear HR hbad h32 hk hsub
          go_enter Tryz.func74, Tryz.ntmps74
          go_wp2_with fail
          refine RC.out.mono ?_
          rintro e w1 ⟨rfl, n1, rfl⟩
          go_wp2_with fail
          go_quiet ((go_at_call 77; exact quiet_add_left (GC.out _)))
          go_wp2_with fail
          generalize hwq : World.drewN _ _ = wq
          have q0 : wq.cell? ⟨R, 0, none⟩ = some (.string s) := by rw [← hwq]; exact hc0
          have q1 : wq.cell? ⟨R, 1, none⟩ = some (.int .i64 i) := by rw [← hwq]; exact hc1
          have hqb : Below w.heap.size w wq := by rw [← hwq]; exact ⟨rfl, rfl, rfl, Nat.le_refl _, fun _ _ => rfl⟩
          have HQ := Lib.hid hqb
          clear hwq hqb
          go_region_held3 (fun W => W.cell? ⟨R, 0, none⟩ = some (.string s) ∧ W.cell? ⟨R, 1, none⟩ = some (.int .i64 i)) (first | assumption | exact ⟨hc0, hc1⟩ | go_keep) (fail)
          go_wp2_with fail
          rw [← HS.out]
          generalize hw3 : World.drew _ = w3
          have ht3 : TkB w3 wq.heap.size (.int .i64 1) (.int .i64 0) (.string sub) (.int .i64 0) (.int .i64 0) (.string ⟨#[]⟩) (.slice none 0 0) := by rw [← hw3]; exact TkB.new wq _ _ _ _ _ _ _
          have hb3 : Below w.heap.size w w3 := by rw [← hw3]; exact (HQ.out.alloc HQ.out.size _).drew
          have hz3 : wq.heap.size < w3.heap.size := by rw [← hw3]; show wq.heap.size < (wq.alloc _).heap.size; simp
          have hk2 := ht3.c2
          have K1 := Lib.hid (fun W (h : W.cell? ⟨wq.heap.size, 2, none⟩ = some (.string sub) ∧ Below w3.heap.size w3 W) => (keys_c W (HE.out.below (hb3.trans (below_le' h.2 hb3.size)) (by omega)).spc).mono (R' := fun e W' => ∃ kg, e = .returned (.slice (some ⟨kg, 0, none⟩) 19 19) ∧ StrsAt W' kg keysL ∧ (W'.cell? ⟨wq.heap.size, 2, none⟩ = some (.string sub) ∧ Below w3.heap.size w3 W')) fun e W' ⟨kg, h1, h2, h3, h4⟩ =>
            ⟨kg, h1, h3, cell_below7 h4 h.1 (by show wq.heap.size < W.heap.size; have := h.2.size; omega), h.2.trans (below_le' h4 h.2.size)⟩)
          have K2 := Lib.hid (fun W (kg : Nat) (h : StrsAt W kg keysL) => (Tryz.slices_Contains_string kg 0 19 19 keysL sub W (by decide) (by decide) (by exact h)).mono (R' := fun e W' => e = .returned (.bool true) ∧ W = W') fun e W' h' => ⟨by rw [h'.1, contains_keys, HK.out], h'.2.symm⟩)
          have K0 : w3.drew.cell? ⟨wq.heap.size, 2, none⟩ = some (.string sub) ∧ Below w3.heap.size w3 w3.drew := ⟨hk2, (Below.refl _ _).drew⟩
          have HT3 := Lib.hid ht3
          have HB3 := Lib.hid hb3
          clear hw3 ht3 hb3
          go_region_held3 (fun W => W.cell? ⟨wq.heap.size, 2, none⟩ = some (.string sub) ∧ Below w3.heap.size w3 W)
            (first | assumption | exact K0 | exact ⟨by assumption, by assumption⟩)
            (first
              | (go_at_call 118; refine (K1.out _ ?_).mono ?_; assumption; rintro e w5 ⟨kg, rfl, hst, hss⟩)
              | (go_at_call 117; refine (K2.out _ kg hst).mono ?_; rintro e w6 ⟨rfl, rfl⟩))
          clear K1 K2 K0 hk2
          obtain ⟨hs2, hs3⟩ := hss
          have t5 := HT3.out.below hs3 hz3
          have d0 := t5.c0; have d1 := t5.c1; have d2 := t5.c2; have d3 := t5.c3; have d4 := t5.c4; have d5 := t5.c5; have d6 := t5.c6; have f0 := t5.fr 0
          have hb5 := HB3.out.trans (below_le' hs3 HB3.out.size)
          have HB5 := Lib.hid hb5
          clear hs2 hs3 hst hb5 t5
          go_wp2_with fail
          refine (put_c R s i line l _ ?_ n hn1 hn2 hs ⟨2, 0, sub, 0, 0, ⟨#[]⟩⟩ 0 none 0).mono ?_
          · exact HH.out.below_self (HB5.out.setCell HQ.out.size _)
          rintro e w7 ⟨rfl, hb7, hst7⟩
          clear d0 d1 d2 d3 d4 d5 d6 f0
          go_wp2_with fail
          go_ret
          exact LxRes.mkWord HB2.out (Below.trans ((below_le' HB5.out (Nat.le_of_lt hlt)).setCell (Nat.le_trans (Nat.le_of_lt hlt) HQ.out.size) _) hb7) hst7
        · have hdx : decide ((i : Int) + (n : Int) < (s.size : Int)) = false := by simp; omega
          clear HR hbad h32 hk hsub
          go_enter Tryz.func74, Tryz.ntmps74
          go_wp2_with fail
          refine RC.out.mono ?_
          rintro e w1 ⟨rfl, n1, rfl⟩
          go_wp2_with fail
          go_quiet (fail)
          go_wp2_with fail
          generalize hwq : World.drewN _ _ = wq
          have q0 : wq.cell? ⟨R, 0, none⟩ = some (.string s) := by rw [← hwq]; exact hc0
          have q1 : wq.cell? ⟨R, 1, none⟩ = some (.int .i64 i) := by rw [← hwq]; exact hc1
          have hqb : Below w.heap.size w wq := by rw [← hwq]; exact ⟨rfl, rfl, rfl, Nat.le_refl _, fun _ _ => rfl⟩
          have HQ := Lib.hid hqb
          clear hwq hqb
          go_region_held3 (fun W => W.cell? ⟨R, 0, none⟩ = some (.string s) ∧ W.cell? ⟨R, 1, none⟩ = some (.int .i64 i)) (first | assumption | exact ⟨hc0, hc1⟩ | go_keep) (fail)
          go_wp2_with fail
          rw [← HS.out]
          generalize hw3 : World.drew _ = w3
          have ht3 : TkB w3 wq.heap.size (.int .i64 1) (.int .i64 0) (.string sub) (.int .i64 0) (.int .i64 0) (.string ⟨#[]⟩) (.slice none 0 0) := by rw [← hw3]; exact TkB.new wq _ _ _ _ _ _ _
          have hb3 : Below w.heap.size w w3 := by rw [← hw3]; exact (HQ.out.alloc HQ.out.size _).drew
          have hz3 : wq.heap.size < w3.heap.size := by rw [← hw3]; show wq.heap.size < (wq.alloc _).heap.size; simp
          have hk2 := ht3.c2
          have K1 := Lib.hid (fun W (h : W.cell? ⟨wq.heap.size, 2, none⟩ = some (.string sub) ∧ Below w3.heap.size w3 W) => (keys_c W (HE.out.below (hb3.trans (below_le' h.2 hb3.size)) (by omega)).spc).mono (R' := fun e W' => ∃ kg, e = .returned (.slice (some ⟨kg, 0, none⟩) 19 19) ∧ StrsAt W' kg keysL ∧ (W'.cell? ⟨wq.heap.size, 2, none⟩ = some (.string sub) ∧ Below w3.heap.size w3 W')) fun e W' ⟨kg, h1, h2, h3, h4⟩ =>
            ⟨kg, h1, h3, cell_below7 h4 h.1 (by show wq.heap.size < W.heap.size; have := h.2.size; omega), h.2.trans (below_le' h4 h.2.size)⟩)
          have K2 := Lib.hid (fun W (kg : Nat) (h : StrsAt W kg keysL) => (Tryz.slices_Contains_string kg 0 19 19 keysL sub W (by decide) (by decide) (by exact h)).mono (R' := fun e W' => e = .returned (.bool true) ∧ W = W') fun e W' h' => ⟨by rw [h'.1, contains_keys, HK.out], h'.2.symm⟩)
          have K0 : w3.drew.cell? ⟨wq.heap.size, 2, none⟩ = some (.string sub) ∧ Below w3.heap.size w3 w3.drew := ⟨hk2, (Below.refl _ _).drew⟩
          have HT3 := Lib.hid ht3
          have HB3 := Lib.hid hb3
          clear hw3 ht3 hb3
          go_region_held3 (fun W => W.cell? ⟨wq.heap.size, 2, none⟩ = some (.string sub) ∧ Below w3.heap.size w3 W)
            (first | assumption | exact K0 | exact ⟨by assumption, by assumption⟩)
            (first
              | (go_at_call 118; refine (K1.out _ ?_).mono ?_; assumption; rintro e w5 ⟨kg, rfl, hst, hss⟩)
              | (go_at_call 117; refine (K2.out _ kg hst).mono ?_; rintro e w6 ⟨rfl, rfl⟩))
          clear K1 K2 K0 hk2
          obtain ⟨hs2, hs3⟩ := hss
          have t5 := HT3.out.below hs3 hz3
          have d0 := t5.c0; have d1 := t5.c1; have d2 := t5.c2; have d3 := t5.c3; have d4 := t5.c4; have d5 := t5.c5; have d6 := t5.c6; have f0 := t5.fr 0
          have hb5 := HB3.out.trans (below_le' hs3 HB3.out.size)
          have HB5 := Lib.hid hb5
          clear hs2 hs3 hst hb5 t5
          go_wp2_with fail
          refine (put_c R s i line l _ ?_ n hn1 hn2 hs ⟨2, 0, sub, 0, 0, ⟨#[]⟩⟩ 0 none 0).mono ?_
          · exact HH.out.below_self (HB5.out.setCell HQ.out.size _)
          rintro e w7 ⟨rfl, hb7, hst7⟩
          clear d0 d1 d2 d3 d4 d5 d6 f0
          go_wp2_with fail
          go_ret
          exact LxRes.mkWord HB2.out (Below.trans ((below_le' HB5.out (Nat.le_of_lt hlt)).setCell (Nat.le_trans (Nat.le_of_lt hlt) HQ.out.size) _) hb7) hst7
      | false =>
        have HK := Lib.hid hk
        have HB2 := Lib.hid (show r = .word n ⟨1, line, sub, 0, 0, ⟨#[]⟩⟩ by rw [HB.out, hk]; rfl)
        clear HB
        by_cases hin : i + n < s.size
        · have hg : gtB (pk s (i + n)) = false := by
            cases hq : gtB (pk s (i + n)) with
            | false => rfl
            | true => exact absurd ⟨hin, hq⟩ hbad
          have GC := Lib.hid (fun W => by have := great_c (pk s (i + n)) W; rw [hg, pk_in s (i + n) hin] at this; exact this)
          have hdx : decide ((i : Int) + (n : Int) < (s.size : Int)) = true := by simp; omega
          have hdy : (i : Int) + (n : Int) < (s.size : Int) := by omega
          clear hg
          clear HR hbad h32 hk hsub
          go_enter Tryz.func74, Tryz.ntmps74
          go_wp2_with fail
          refine RC.out.mono ?_
          rintro e w1 ⟨rfl, n1, rfl⟩
          go_wp2_with fail
          go_quiet ((go_at_call 77; exact quiet_add_left (GC.out _)))
          go_wp2_with fail
          generalize hwq : World.drewN _ _ = wq
          have q0 : wq.cell? ⟨R, 0, none⟩ = some (.string s) := by rw [← hwq]; exact hc0
          have q1 : wq.cell? ⟨R, 1, none⟩ = some (.int .i64 i) := by rw [← hwq]; exact hc1
          have hqb : Below w.heap.size w wq := by rw [← hwq]; exact ⟨rfl, rfl, rfl, Nat.le_refl _, fun _ _ => rfl⟩
          have HQ := Lib.hid hqb
          clear hwq hqb
          go_region_held3 (fun W => W.cell? ⟨R, 0, none⟩ = some (.string s) ∧ W.cell? ⟨R, 1, none⟩ = some (.int .i64 i)) (first | assumption | exact ⟨hc0, hc1⟩ | go_keep) (fail)
          go_wp2_with fail
          rw [← HS.out]
          generalize hw3 : World.drew _ = w3
          have ht3 : TkB w3 wq.heap.size (.int .i64 1) (.int .i64 0) (.string sub) (.int .i64 0) (.int .i64 0) (.string ⟨#[]⟩) (.slice none 0 0) := by rw [← hw3]; exact TkB.new wq _ _ _ _ _ _ _
          have hb3 : Below w.heap.size w w3 := by rw [← hw3]; exact (HQ.out.alloc HQ.out.size _).drew
          have hz3 : wq.heap.size < w3.heap.size := by rw [← hw3]; show wq.heap.size < (wq.alloc _).heap.size; simp
          have hk2 := ht3.c2
          have K1 := Lib.hid (fun W (h : W.cell? ⟨wq.heap.size, 2, none⟩ = some (.string sub) ∧ Below w3.heap.size w3 W) => (keys_c W (HE.out.below (hb3.trans (below_le' h.2 hb3.size)) (by omega)).spc).mono (R' := fun e W' => ∃ kg, e = .returned (.slice (some ⟨kg, 0, none⟩) 19 19) ∧ StrsAt W' kg keysL ∧ (W'.cell? ⟨wq.heap.size, 2, none⟩ = some (.string sub) ∧ Below w3.heap.size w3 W')) fun e W' ⟨kg, h1, h2, h3, h4⟩ =>
            ⟨kg, h1, h3, cell_below7 h4 h.1 (by show wq.heap.size < W.heap.size; have := h.2.size; omega), h.2.trans (below_le' h4 h.2.size)⟩)
          have K2 := Lib.hid (fun W (kg : Nat) (h : StrsAt W kg keysL) => (Tryz.slices_Contains_string kg 0 19 19 keysL sub W (by decide) (by decide) (by exact h)).mono (R' := fun e W' => e = .returned (.bool false) ∧ W = W') fun e W' h' => ⟨by rw [h'.1, contains_keys, HK.out], h'.2.symm⟩)
          have K0 : w3.drew.cell? ⟨wq.heap.size, 2, none⟩ = some (.string sub) ∧ Below w3.heap.size w3 w3.drew := ⟨hk2, (Below.refl _ _).drew⟩
          have HT3 := Lib.hid ht3
          have HB3 := Lib.hid hb3
          clear hw3 ht3 hb3
          go_region_held3 (fun W => W.cell? ⟨wq.heap.size, 2, none⟩ = some (.string sub) ∧ Below w3.heap.size w3 W)
            (first | assumption | exact K0 | exact ⟨by assumption, by assumption⟩)
            (first
              | (go_at_call 118; refine (K1.out _ ?_).mono ?_; assumption; rintro e w5 ⟨kg, rfl, hst, hss⟩)
              | (go_at_call 117; refine (K2.out _ kg hst).mono ?_; rintro e w6 ⟨rfl, rfl⟩))
          clear K1 K2 K0 hk2
          obtain ⟨hs2, hs3⟩ := hss
          have t5 := HT3.out.below hs3 hz3
          have d0 := t5.c0; have d1 := t5.c1; have d2 := t5.c2; have d3 := t5.c3; have d4 := t5.c4; have d5 := t5.c5; have d6 := t5.c6; have f0 := t5.fr 0
          have hb5 := HB3.out.trans (below_le' hs3 HB3.out.size)
          have HB5 := Lib.hid hb5
          clear hs2 hs3 hst hb5 t5
          go_wp2_with fail
          refine (put_c R s i line l _ ?_ n hn1 hn2 hs ⟨1, 0, sub, 0, 0, ⟨#[]⟩⟩ 0 none 0).mono ?_
          · exact HH.out.below_self HB5.out
          rintro e w7 ⟨rfl, hb7, hst7⟩
          clear d0 d1 d2 d3 d4 d5 d6 f0
          go_wp2_with fail
          go_ret
          exact LxRes.mkWord HB2.out (Below.trans (below_le' HB5.out (Nat.le_of_lt hlt)) hb7) hst7
        · have hdx : decide ((i : Int) + (n : Int) < (s.size : Int)) = false := by simp; omega
          clear HR hbad h32 hk hsub
          go_enter Tryz.func74, Tryz.ntmps74
          go_wp2_with fail
          refine RC.out.mono ?_
          rintro e w1 ⟨rfl, n1, rfl⟩
          go_wp2_with fail
          go_quiet (fail)
          go_wp2_with fail
          generalize hwq : World.drewN _ _ = wq
          have q0 : wq.cell? ⟨R, 0, none⟩ = some (.string s) := by rw [← hwq]; exact hc0
          have q1 : wq.cell? ⟨R, 1, none⟩ = some (.int .i64 i) := by rw [← hwq]; exact hc1
          have hqb : Below w.heap.size w wq := by rw [← hwq]; exact ⟨rfl, rfl, rfl, Nat.le_refl _, fun _ _ => rfl⟩
          have HQ := Lib.hid hqb
          clear hwq hqb
          go_region_held3 (fun W => W.cell? ⟨R, 0, none⟩ = some (.string s) ∧ W.cell? ⟨R, 1, none⟩ = some (.int .i64 i)) (first | assumption | exact ⟨hc0, hc1⟩ | go_keep) (fail)
          go_wp2_with fail
          rw [← HS.out]
          generalize hw3 : World.drew _ = w3
          have ht3 : TkB w3 wq.heap.size (.int .i64 1) (.int .i64 0) (.string sub) (.int .i64 0) (.int .i64 0) (.string ⟨#[]⟩) (.slice none 0 0) := by rw [← hw3]; exact TkB.new wq _ _ _ _ _ _ _
          have hb3 : Below w.heap.size w w3 := by rw [← hw3]; exact (HQ.out.alloc HQ.out.size _).drew
          have hz3 : wq.heap.size < w3.heap.size := by rw [← hw3]; show wq.heap.size < (wq.alloc _).heap.size; simp
          have hk2 := ht3.c2
          have K1 := Lib.hid (fun W (h : W.cell? ⟨wq.heap.size, 2, none⟩ = some (.string sub) ∧ Below w3.heap.size w3 W) => (keys_c W (HE.out.below (hb3.trans (below_le' h.2 hb3.size)) (by omega)).spc).mono (R' := fun e W' => ∃ kg, e = .returned (.slice (some ⟨kg, 0, none⟩) 19 19) ∧ StrsAt W' kg keysL ∧ (W'.cell? ⟨wq.heap.size, 2, none⟩ = some (.string sub) ∧ Below w3.heap.size w3 W')) fun e W' ⟨kg, h1, h2, h3, h4⟩ =>
            ⟨kg, h1, h3, cell_below7 h4 h.1 (by show wq.heap.size < W.heap.size; have := h.2.size; omega), h.2.trans (below_le' h4 h.2.size)⟩)
          have K2 := Lib.hid (fun W (kg : Nat) (h : StrsAt W kg keysL) => (Tryz.slices_Contains_string kg 0 19 19 keysL sub W (by decide) (by decide) (by exact h)).mono (R' := fun e W' => e = .returned (.bool false) ∧ W = W') fun e W' h' => ⟨by rw [h'.1, contains_keys, HK.out], h'.2.symm⟩)
          have K0 : w3.drew.cell? ⟨wq.heap.size, 2, none⟩ = some (.string sub) ∧ Below w3.heap.size w3 w3.drew := ⟨hk2, (Below.refl _ _).drew⟩
          have HT3 := Lib.hid ht3
          have HB3 := Lib.hid hb3
          clear hw3 ht3 hb3
          go_region_held3 (fun W => W.cell? ⟨wq.heap.size, 2, none⟩ = some (.string sub) ∧ Below w3.heap.size w3 W)
            (first | assumption | exact K0 | exact ⟨by assumption, by assumption⟩)
            (first
              | (go_at_call 118; refine (K1.out _ ?_).mono ?_; assumption; rintro e w5 ⟨kg, rfl, hst, hss⟩)
              | (go_at_call 117; refine (K2.out _ kg hst).mono ?_; rintro e w6 ⟨rfl, rfl⟩))
          clear K1 K2 K0 hk2
          obtain ⟨hs2, hs3⟩ := hss
          have t5 := HT3.out.below hs3 hz3
          have d0 := t5.c0; have d1 := t5.c1; have d2 := t5.c2; have d3 := t5.c3; have d4 := t5.c4; have d5 := t5.c5; have d6 := t5.c6; have f0 := t5.fr 0
          have hb5 := HB3.out.trans (below_le' hs3 HB3.out.size)
          have HB5 := Lib.hid hb5
          clear hs2 hs3 hst hb5 t5
          go_wp2_with fail
          refine (put_c R s i line l _ ?_ n hn1 hn2 hs ⟨1, 0, sub, 0, 0, ⟨#[]⟩⟩ 0 none 0).mono ?_
          · exact HH.out.below_self HB5.out
          rintro e w7 ⟨rfl, hb7, hst7⟩
          clear d0 d1 d2 d3 d4 d5 d6 f0
          go_wp2_with fail
          go_ret
          exact LxRes.mkWord HB2.out (Below.trans (below_le' HB5.out (Nat.le_of_lt hlt)) hb7) hst7
end Go.Proofs.YtggngahmafbihaaGreatDoor
namespace Go.Proofs.YtggngahmafbihaaGreatDoor
open Go.RowKit Go.Lib
set_option linter.unusedVariables false

def signR (s : ByteArray) (i : Nat) (line : Int) : WR :=
  let b := signAt s i signsL ⟨#[]⟩
  if b.size = 0 then .bad 111 else .word b.size ⟨4, line, b, 0, 0, ⟨#[]⟩⟩
theorem wordR_sign {s : ByteArray} {i : Nat} {line : Int} (h0 : smB (pk s i) = false) (h1 : digB (pk s i) = false) (h2 : gtB (pk s i) = false) (h3 : pk s i ≠ 35) (h4 : pk s i ≠ 34) : wordR s i line = signR s i line := by
  unfold wordR signR
  simp only [h0, h1, h2, h3, h4, Bool.false_eq_true, if_false]
theorem signAt_step {s : ByteArray} {i : Nat} {x : ByteArray} {l : List ByteArray} {b : ByteArray} (h : b.size < x.size ∧ x.data.toList.isPrefixOf (s.data.toList.drop i) = true) : signAt s i (x :: l) b = signAt s i l x := by
  rw [signAt, if_pos h]
theorem signAt_skip {s : ByteArray} {i : Nat} {x : ByteArray} {l : List ByteArray} {b : ByteArray} (h : ¬ (b.size < x.size ∧ x.data.toList.isPrefixOf (s.data.toList.drop i) = true)) : signAt s i (x :: l) b = signAt s i l b := by
  rw [signAt, if_neg h]
theorem signs_drop (j : Nat) (hj : j < 33) : signsL.drop j = signsL.getD j ByteArray.empty :: signsL.drop (j + 1) := by
  have h33 : signsL.length = 33 := rfl
  rw [List.getD_eq_getElem?_getD, List.getElem?_eq_getElem (by omega)]
  exact (List.drop_eq_getElem_cons (by omega))
/-- Behind a place: what is left of a text. -/
theorem ext_to_end (s : ByteArray) (i : Nat) : (s.extract i s.size).data.toList = s.data.toList.drop i := by
  rw [ByteArray.data_extract, Array.toList_extract, List.extract_eq_take_drop]
  exact List.take_of_length_le (by rw [List.length_drop, Array.length_toList]; exact Nat.le_refl _)
theorem signAt_ok (s : ByteArray) (i : Nat) (hi : i ≤ s.size) : ∀ (l : List ByteArray) (b : ByteArray), i + b.size ≤ s.size → i + (signAt s i l b).size ≤ s.size
  | [], b, h => h
  | x :: l, b, h => by
    rw [signAt]
    split
    · rename_i hc
      refine signAt_ok s i hi l x ?_
      obtain ⟨r, hr⟩ := List.isPrefixOf_iff_prefix.1 hc.2
      have := congrArg List.length hr
      have e1 : x.data.toList.length = x.size := by rw [Array.length_toList]; rfl
      have e2 : s.data.toList.length = s.size := by rw [Array.length_toList]; rfl
      rw [List.length_append, List.length_drop, e1, e2] at this
      omega
    · exact signAt_ok s i hi l b h

set_option maxRecDepth 100000 in
set_option maxHeartbeats 4000000 in
theorem sign_c (R : Nat) (s : ByteArray) (i : Nat) (line : Int) (l : List Tok) (ea : Nat → Addr) (w : World) (h : LxSt w R s i line l) (he : LxEnv w ea) (hi : i < s.size) (hs : s.size ≤ 1000000000) (hR : 24 ≤ R) :
    Calls Tryz.prog 81 #[.pointer (some ⟨R, 0, none⟩)] w (LxRes ea R s i line l (signR s i line) w) := by
  have hlt := h.lt
  obtain ⟨v, L, ha, _⟩ := id h
  have SC := Lib.hid (signs_c w he.spc)
  obtain ⟨r, hr⟩ : ∃ r, r = signR s i line := ⟨_, rfl⟩
  obtain ⟨B, hB⟩ : ∃ B, B = signAt s i signsL ⟨#[]⟩ := ⟨_, rfl⟩
  have HR : Hid (r = if B.size = 0 then .bad 111 else .word B.size ⟨4, line, B, 0, 0, ⟨#[]⟩⟩) := by rw [hr, hB]; rfl
  have HBS : i + B.size ≤ s.size := by rw [hB]; exact signAt_ok s i (by omega) signsL ⟨#[]⟩ (by show i + 0 ≤ s.size; omega)
  rw [← hr]
  have HH := Lib.hid h
  have HA := Lib.hid ha
  have HE := Lib.hid he
  have HBB := Lib.hid hB
  clear hr h he ha hB
  go_enter Tryz.func81, Tryz.ntmps81
  go_wp2_with fail
  refine SC.out.mono ?_
  rintro e w1 ⟨g, cap, rfl, hg1, hg2, hst, hb⟩
  have HB1 := Lib.hid hb
  have HST := Lib.hid hst
  have HA1 := Lib.hid (HA.out.below hb hlt)
  clear hst hb
  go_wp2_with fail
  go_loopg [3, 8] 33 (fun k bv jv wr => ∃ (j : Nat) (b : ByteArray), bv = .string b ∧ jv = .int .i64 (j : Int) ∧ j + k = 33 ∧ b.size ≤ 2 ∧ Below w1.heap.size w1 wr ∧ Hid (signAt s i (signsL.drop j) b = B))
  case atStart => exact ⟨0, ⟨#[]⟩, rfl, rfl, rfl, Nat.zero_le _, Below.refl _ _, HBB.out.symm⟩
  case round =>
    obtain ⟨j, b, rfl, rfl, hk, hbs, hbw, hq⟩ := hrel
    have HBW := Lib.hid hbw
    have ha2 := HA1.out.below hbw HA1.out.lt
    have c0 := ha2.c0
    have c1 := ha2.c1
    have HA2 := Lib.hid ha2
    by_cases hj : j < 33
    · obtain ⟨k, rfl⟩ : ∃ k, gk = k + 1 := ⟨gk - 1, by omega⟩
      obtain ⟨x, hx⟩ : ∃ x, x = signsL.getD j ByteArray.empty := ⟨_, rfl⟩
      have hcj := (HST.out.below hbw hg2) j hj
      rw [← hx, Nat.zero_add] at hcj
      have hqq := hq.out
      rw [signs_drop j hj, ← hx] at hqq
      have PC := fun W => Tryz.strings_HasPrefix (s.extract i s.size) x W
      rw [ext_to_end] at PC
      have hib : (i : Int) ≤ (s.size : Int) := by omega
      have hxs : x.size ≤ 2 := by
        rw [hx]
        have : ∀ y ∈ signsL, y.size ≤ 2 := by decide +kernel
        refine this _ ?_
        rw [List.getD_eq_getElem?_getD, List.getElem?_eq_getElem (show j < signsL.length from hj)]; exact List.getElem_mem _
      by_cases hlen : b.size < x.size
      · have hd1 : decide (b.size < x.size) = true := by simp; exact hlen
        have hd2 : decide ((b.size : Int) < (x.size : Int)) = true := by simp; exact hlen
        cases hp : Lib.hasPrefix (s.data.toList.drop i) x.data.toList with
        | true =>
          have HQ := Lib.hid ((signAt_step ⟨hlen, hp⟩).symm.trans hqq)
          rw [hp] at PC
          have PC2 := Lib.hid (fun W => (PC W).mono (R' := fun e w' => e = .returned (.bool true) ∧ W = w') fun e w' h => ⟨h.1, h.2.symm⟩)
          clear PC hp hq hqq hx hbw ha2 hlen
          go_wp2_with fail
          go_quiet ((go_at_call 83; exact quiet_left (PC2.out _)))
          go_wp2_with fail
          go_roundg k
          case measure => omega
          case rel => exact ⟨j + 1, x, rfl, by go_num, by omega, by omega, below_drewN HBW.out _, HQ.out⟩
        | false =>
          have HQ := Lib.hid ((signAt_skip (by rintro ⟨_, h2⟩; rw [show List.isPrefixOf x.data.toList (s.data.toList.drop i) = false from hp] at h2; cases h2)).symm.trans hqq)
          rw [hp] at PC
          have PC2 := Lib.hid (fun W => (PC W).mono (R' := fun e w' => e = .returned (.bool false) ∧ W = w') fun e w' h => ⟨h.1, h.2.symm⟩)
          clear PC hp hq hqq hx hbw ha2 hlen
          go_wp2_with fail
          go_quiet ((go_at_call 83; exact quiet_left (PC2.out _)))
          go_wp2_with fail
          go_roundg k
          case measure => omega
          case rel => exact ⟨j + 1, b, rfl, by go_num, by omega, by omega, below_drewN HBW.out _, HQ.out⟩
      · have hd1 : decide (b.size < x.size) = false := by simp; omega
        have hd2 : decide ((b.size : Int) < (x.size : Int)) = false := by simp; omega
        have HQ := Lib.hid ((signAt_skip (fun h => hlen h.1)).symm.trans hqq)
        clear PC hq hqq hx hbw ha2 hlen
        go_wp2_with fail
        go_quiet (fail)
        go_wp2_with fail
        go_roundg k
        case measure => omega
        case rel => exact ⟨j + 1, b, rfl, by go_num, by omega, by omega, below_drewN HBW.out _, HQ.out⟩
    · obtain rfl : j = 33 := by omega
      have hbB : b = B := hq.out
      subst hbB
      have e5 := (HE.out.below (HB1.out.trans (below_le' hbw HB1.out.size)) (by omega)).err.syn
      have HB5 := Lib.hid (HB1.out.trans (below_le' hbw HB1.out.size))
      clear hq hbw ha2
      by_cases h0 : b.size = 0
      · have HRR := Lib.hid (HR.out.trans (if_pos h0))
        have hb0 := bytes_empty (t := b) (by rw [← List.length_eq_zero_iff, Array.length_toList]; exact h0)
        clear HR
        subst hb0
        clear h0
        go_wp2_with fail
        refine (bad_c R s i line v _ _ (by exact HA2.out)).mono ?_
        rintro e w3 ⟨rfl, rfl⟩
        go_wp2_with fail
        go_ret
        exact LxRes.mkBad HRR.out (below_le' HB5.out (Nat.le_of_lt hlt)) (Nat.le_trans (Nat.le_of_lt hlt) HB5.out.size)
      · have HRR := Lib.hid (HR.out.trans (if_neg h0))
        have hne : b.data.toList ≠ [] := by intro e; apply h0; rw [← List.length_eq_zero_iff, Array.length_toList] at e; exact e
        have hs1 : ¬ b.toList = [] := by rw [Lib.toList_data]; exact hne
        have hs0 : b.toList.isEmpty = false := by rw [Lib.toList_data]; simpa using hne
        have hb1 : 1 ≤ b.size := by omega
        clear HR hne h0
        go_wp2_with fail
        refine (put_c R s i line l _ ?_ b.size hb1 HBS hs ⟨4, 0, b, 0, 0, ⟨#[]⟩⟩ 0 none 0).mono ?_
        · exact HH.out.below_self HB5.out
        rintro e w3 ⟨rfl, hb3, hst⟩
        go_wp2_with fail
        go_ret
        exact LxRes.mkWord HRR.out (Below.trans (below_le' HB5.out (Nat.le_of_lt hlt)) hb3) hst
end Go.Proofs.YtggngahmafbihaaGreatDoor
namespace Go.Proofs.YtggngahmafbihaaGreatDoor
open Go.RowKit Go.Lib
set_option linter.unusedVariables false

/-- The sentinels' variables, in their order. -/
def seeG : List Nat := [4, 5, 6, 0, 3, 7, 8, 9, 10,
  11, 1, 2, 12, 13, 14, 15, 16]
/-- All of api's errors lie where they are told to, each in a place of its own. -/
structure SeesAt (w : World) (ea : Nat → Addr) : Prop where
  at_ : ∀ k, k < 17 → w.cell? ⟨seeG.getD k 0, 0, none⟩ = some (.iface 270 (.pointer (some (ea (101 + k)))))
  row : ∀ k, k < 17 → ∃ c t, w.heap[(ea (101 + k)).block]? = some (.cells c t (0, 0))
  apart : ∀ i j, i < 17 → j < 17 → ea (101 + i) = ea (101 + j) → i = j
  room : 24 < w.heap.size

theorem seeG_small : ∀ k : Fin 17, seeG.getD k.val 0 < 24 := by decide
theorem SeesAt.below {w w' : World} {ea : Nat → Addr} (h : SeesAt w ea) (hb : Below w.heap.size w w') : SeesAt w' ea := by
  have hlt : ∀ k, k < 17 → (ea (101 + k)).block < w.heap.size := fun k hk => by
    obtain ⟨c, t, h1⟩ := h.row k hk
    rcases Nat.lt_or_ge (ea (101 + k)).block w.heap.size with hlt | hge
    · exact hlt
    · rw [Array.getElem?_eq_none hge] at h1; cases h1
  have hroom := h.room
  refine ⟨fun k hk => ?_, fun k hk => ?_, h.apart, by have := hb.size; omega⟩
  · have hs := seeG_small ⟨k, hk⟩
    simp only at hs
    exact (World.cell?_of_block (w := w) (hb.block (seeG.getD k 0) (by omega))).trans (h.at_ k hk)
  · obtain ⟨c, t, h1⟩ := h.row k hk
    exact ⟨c, t, (hb.block _ (hlt k hk)).trans h1⟩
theorem info_part {P : Program} {t : TypeId} {α : Type} {f : TypeInfo → α} {b : α} (h : (P.info? t).map f = some b) : ∃ i, P.info? t = some i ∧ f i = b := by
  cases hq : P.info? t with
  | none => rw [hq] at h; cases h
  | some i => rw [hq] at h; exact ⟨i, rfl, Option.some.inj h⟩

end Go.Proofs.YtggngahmafbihaaGreatDoor
namespace Go.Proofs.YtggngahmafbihaaGreatDoor
open Go.RowKit Go.Lib
set_option linter.unusedVariables false

def SamesC (N : Nat) : Prop := ∀ (la lb : VL) (sa sb : Option Addr) (ca cb : Nat) (w : World), la.size < N → la.len ≤ 140737488351232 → lb.len ≤ 140737488351232 → la.fit → lb.fit → la.len ≤ ca → lb.len ≤ cb → RpL w (fun b => b < w.heap.size) la sa → RpL w (fun b => b < w.heap.size) lb sb →
  Calls Tryz.prog 62 #[.slice sa la.len ca, .slice sb lb.len cb] w fun e w' => e = .returned (.bool (sameL la lb)) ∧ Below w.heap.size w w'

theorem beq_dec (a b : Int) : (a == b) = decide (a = b) := by
  by_cases h : a = b
  · subst h; simp
  · rw [decide_eq_false h, beq_eq_false_iff_ne]; exact h
theorem sbeq_dec (a b : ByteArray) : (a.toList == b.toList) = decide (a = b) := by
  by_cases h : a = b
  · subst h; simp
  · rw [decide_eq_false h]; exact str_ne h

set_option maxRecDepth 100000 in
set_option maxHeartbeats 2000000 in
theorem sameV_of (k n : Int) (s : ByteArray) (a : VL) (sa : Option Addr) (ca : Nat) (k' n' : Int) (s' : ByteArray) (a' : VL) (sa' : Option Addr) (ca' : Nat) (w : World) (ih : SamesC (a.size + 1))
    (hf : (val1 k n s a).fit) (hf' : (val1 k' n' s' a').fit) (hc : a.len ≤ ca) (hc' : a'.len ≤ ca') (hr : RpL w (fun b => b < w.heap.size) a sa) (hr' : RpL w (fun b => b < w.heap.size) a' sa') :
    Calls Tryz.prog 29 #[.agg #[.int .i64 k, .int .i64 n, .string s, .slice sa a.len ca], .agg #[.int .i64 k', .int .i64 n', .string s', .slice sa' a'.len ca']] w fun e w' => e = .returned (.bool (same1 k n s a k' n' s' a')) ∧ Below w.heap.size w w' := by
  obtain ⟨wa, hwa⟩ : ∃ wa, wa = (w.alloc (.cells #[.int .i64 k, .int .i64 n, .string s, .slice sa a.len ca] 28)).alloc (.cells #[.int .i64 k', .int .i64 n', .string s', .slice sa' a'.len ca'] 28) := ⟨_, rfl⟩
  have hba : Below w.heap.size w wa := by rw [hwa]; exact ((Below.refl _ _).alloc (Nat.le_refl _) _).alloc (by simp) _
  have hwz : wa.heap.size = w.heap.size + 2 := by rw [hwa]; simp
  have hV : StB wa w.heap.size (.int .i64 k) (.int .i64 n) (.string s) (.slice sa a.len ca) := by rw [hwa]; exact (StB.new w _ _ _ _).alloc _
  have hV' : StB wa (w.heap.size + 1) (.int .i64 k') (.int .i64 n') (.string s') (.slice sa' a'.len ca') := by
    rw [hwa]; have := StB.new (w.alloc (.cells #[.int .i64 k, .int .i64 n, .string s, .slice sa a.len ca] 28)) (.int .i64 k') (.int .i64 n') (.string s') (.slice sa' a'.len ca')
    simpa using this
  have IH := Lib.hid (ih a a' sa sa' ca ca' wa (by omega) hf.2.1 hf'.2.1 hf.2.2.1 hf'.2.2.1 hc hc' (hr.keep (fun b hb => hba.block b hb) (fun b hb => by omega)) (hr'.keep (fun b hb => hba.block b hb) (fun b hb => by omega)))
  have v3 := hV.c3; have v3' := hV'.c3
  rw [hwa] at v3 v3'
  have HV := Lib.hid hV
  have HV' := Lib.hid hV'
  have HB := Lib.hid hba
  have HWA := Lib.hid hwa
  have HWZ := Lib.hid hwz
  have e1 := beq_dec k k'
  have e2 := beq_dec n n'
  have e3 := sbeq_dec s s'
  have HS := Lib.hid (show same1 k n s a k' n' s' a' = (sameL a a' && decide (k = k') && decide (n = n') && decide (s = s')) from rfl)
  rw [HS.out]
  obtain ⟨q, hq⟩ : ∃ q, q = sameL a a' := ⟨_, rfl⟩
  obtain ⟨b1, hb1⟩ : ∃ b1, b1 = decide (k = k') := ⟨_, rfl⟩
  obtain ⟨b2, hb2⟩ : ∃ b2, b2 = decide (n = n') := ⟨_, rfl⟩
  obtain ⟨b3, hb3⟩ : ∃ b3, b3 = decide (s = s') := ⟨_, rfl⟩
  rw [← hq] at IH ⊢
  rw [← hb1] at e1 ⊢
  rw [← hb2] at e2 ⊢
  rw [← hb3] at e3 ⊢
  clear hba hwz hV hV' hwa hr hr' hq hb1 hb2 hb3 HS ih
  have fin : ∀ w5, Below wa.heap.size wa w5 → Below w.heap.size w w5 := fun w5 h => HB.out.trans (below_le' h HB.out.size)
  have FIN := Lib.hid fin
  clear fin
  cases q with
  | false =>
    clear e1 e2 e3
    go_enter Tryz.func29, Tryz.ntmps29
    go_wp2_with fail
    rw [← HWA.out]
    refine IH.out.mono ?_
    rintro e w5 ⟨rfl, hb5⟩
    have HB5 := Lib.hid (FIN.out _ hb5)
    clear hb5
    go_wp2_with fail
    go_ret
    exact ⟨rfl, HB5.out⟩
  | true =>
    cases b1 with
    | false =>
      clear e2 e3
      go_enter Tryz.func29, Tryz.ntmps29
      go_wp2_with fail
      rw [← HWA.out]
      refine IH.out.mono ?_
      rintro e w5 ⟨rfl, hb5⟩
      have hv5 := HV.out.below' hb5
      have hv5' := HV'.out.below' hb5
      have u0 := hv5.c0; have u0' := hv5'.c0
      have HB5 := Lib.hid (FIN.out _ hb5)
      clear hb5 hv5 hv5' v3 v3'
      go_wp2_with fail
      go_ret
      exact ⟨rfl, HB5.out⟩
    | true =>
      cases b2 with
      | false =>
        clear e3
        go_enter Tryz.func29, Tryz.ntmps29
        go_wp2_with fail
        rw [← HWA.out]
        refine IH.out.mono ?_
        rintro e w5 ⟨rfl, hb5⟩
        have hv5 := HV.out.below' hb5
        have hv5' := HV'.out.below' hb5
        have u0 := hv5.c0; have u0' := hv5'.c0
        have u1 := hv5.c1; have u1' := hv5'.c1
        have HB5 := Lib.hid (FIN.out _ hb5)
        clear hb5 hv5 hv5' v3 v3'
        go_wp2_with fail
        go_ret
        exact ⟨rfl, HB5.out⟩
      | true =>
        go_enter Tryz.func29, Tryz.ntmps29
        go_wp2_with fail
        rw [← HWA.out]
        refine IH.out.mono ?_
        rintro e w5 ⟨rfl, hb5⟩
        have hv5 := HV.out.below' hb5
        have hv5' := HV'.out.below' hb5
        have u0 := hv5.c0; have u0' := hv5'.c0
        have u1 := hv5.c1; have u1' := hv5'.c1
        have u2 := hv5.c2; have u2' := hv5'.c2
        have HB5 := Lib.hid (FIN.out _ hb5)
        clear hb5 hv5 hv5' v3 v3'
        go_wp2_with fail
        go_ret
        exact ⟨ret_bool (by simp), HB5.out⟩
end Go.Proofs.YtggngahmafbihaaGreatDoor
namespace Go.Proofs.YtggngahmafbihaaGreatDoor
open Go.RowKit Go.Lib
set_option linter.unusedVariables false

end Go.Proofs.YtggngahmafbihaaGreatDoor
namespace Go.Proofs.YtggngahmafbihaaGreatDoor
open Go.RowKit Go.Lib
set_option linter.unusedVariables false

end Go.Proofs.YtggngahmafbihaaGreatDoor
