/- Contracts of the functions that the statement reaches, and the plain mathematics beneath: several texts joined. -/
import Derived.Laws.AppendOwnNone
import Derived.Maps.AppendAt
import Derived.Test.YtbalpfpcbckghaaGreatDoorRows
import Derived.Stop.LaidErr
import Derived.Lib.LaidTab
import Derived.ProofKit
import Derived.Test.YtbalpfpcbckghaaGreatDoorTie
import Derived.Test.YtbalpfpcbckghaaGreatDoorCards
import Derived.SevenTiedAt
import Derived.LaidMore
import Derived.Stop.Joined
import Derived.HandedShaped
import Derived.OpenShut
import Derived.ShutString
import Derived.Lay
import Derived.Carry
import Derived.Test.YtbalpfpcbckghaaGreatDoorFlsAD
import Derived.Test.YtbalpfpcbckghaaGreatDoorFlsAA
import Derived.Test.YtbalpfpcbckghaaGreatDoorFlsAE
namespace Go.Proofs.YtbalpfpcbckghaaGreatDoor
open Go.RowKit Go.Lib
set_option linter.unusedVariables false

set_option maxHeartbeats 400000 in
theorem printed_c (s : ByteArray) (w : World) (hs : s.size ≤ 140737488351232) :
    Calls Tryz.prog 22 #[.string s] w fun e w' => e = .returned (.bool (prB s.data.toList)) ∧ w = w' := by
  go_enter Tryz.func22, Tryz.ntmps22
  go_wp2
  go_loop [3] (fun i => ∃ k : Nat, k ≤ s.size ∧ i = .int .i64 k ∧ Hid (prB (s.data.toList.take k) = true)) (fun i => s.size - (RowKit.intOf i).toNat)
  case atStart => exact ⟨0, Nat.zero_le _, rfl, rfl⟩
  case round =>
    obtain ⟨k, hk, rfl, hall⟩ := hrel
    by_cases hlt : k < s.size
    · have hts := Lib.hid (take_snoc s k hlt)
      go_wp2
      all_goals first
        | (go_ret
           exact ⟨ret_bool (prB_bad s k hlt (by omega)).symm, rfl⟩)
        | (refine ⟨⟨k + 1, by omega, by go_num, ?_⟩, by simp [RowKit.intOf]; omega⟩
           show prB _ = true
           have hx := hall.out
           unfold prB at hx ⊢
           rw [hts.out, List.all_append, hx, List.all_cons, show prC s[k] = true from decide_eq_true (by omega)]
           rfl)
    · obtain rfl : k = s.size := by omega
      go_wp2
      go_ret
      refine ⟨ret_bool ?_, rfl⟩
      have := hall.out
      rw [List.take_of_length_le (by simp)] at this
      exact this.symm

/-- The reference's count: one number in a block of its own. -/
def RwAt (w : World) (L : Nat) (n : Int) : Prop := w.heap[L]? = some (.cells #[.int .i64 n] 64 (0, 0))
section
variable {w w' : World} {L : Nat} {left : Int}
theorem RwAt.lt (h : RwAt w L left) : L < w.heap.size := by
  rcases Nat.lt_or_ge L w.heap.size with hlt | hge
  · exact hlt
  · unfold RwAt at h; rw [Array.getElem?_eq_none hge] at h; cases h
theorem RwAt.c0 (h : RwAt w L left) : w.cell? ⟨L, 0, none⟩ = some (.int .i64 left) := cell_of_row w L 0 _ _ _ h
theorem RwAt.fr (h : RwAt w L left) : w.frozen? ⟨L, 0, none⟩ = false := by unfold RwAt at h; simp [World.frozen?, h]
theorem RwAt.alloc (h : RwAt w L left) (o : Obj) : RwAt (w.alloc o) L left := (Below.heap_alloc w o L h.lt).trans h
theorem RwAt.set (h : RwAt w L left) (n : Int) : RwAt (w.setCell ⟨L, 0, none⟩ (.int .i64 n)) L n := by
  unfold RwAt at h ⊢; simp [World.setCell, Array.getElem?_modify, h]
theorem RwAt.below (h : RwAt w L left) {B : Nat} (hb : Below B w w') (hL : L < B) : RwAt w' L left := (hb.block L hL).trans h
theorem RwAt.new (W : World) (n : Int) : RwAt (W.alloc (.cells #[.int .i64 n] 64)) W.heap.size n := by unfold RwAt World.alloc; simp
end

/-- What a call of odd is to show. -/
def POdd (w : World) (L : Nat) (r : Nat × Int) (e : Ending) (w' : World) : Prop := e = .returned (.int .i64 r.1) ∧ (∃ m, RwAt w' L m ∧ (r.1 = 0 → m = 4096 - r.2)) ∧ w.grownBy w' (some L)

def OddC (N : Nat) : Prop := ∀ (k n : Int) (s : ByteArray) (sub : VL) (sa : Option Addr) (sc : Nat) (deep left : Int) (L : Nat) (w : World), sub.size < N → RwAt w L (4096 - left) →
  s.size ≤ 140737488351232 → sub.len ≤ 140737488351232 → sub.fit → sub.len ≤ sc → RpL w (fun b => b < w.heap.size ∧ b ≠ L) sub sa → 1 ≤ deep → deep ≤ 41 → 0 ≤ left → left ≤ 4096 →
  Calls Tryz.prog 49 #[.pointer (some ⟨L, 0, none⟩), .agg #[.int .i64 k, .int .i64 n, .string s, .slice sa sub.len sc], .int .i64 deep] w (POdd w L (walk1 k n s sub deep left))

/-- Out of the loop over the items. -/
theorem bne_of {a b : Int} (h : a ≠ b) : (a != b) = true ∧ (a == b) = false := by simp [h]

/-- Where odd goes on to look at a value's kind, and it is not a Str. -/
theorem kind_cases {k n : Int} {s : ByteArray} {len : Nat} (hk : k ≠ 2) :
    (ownE k n s len = 105 ∧ (k < 0 ∨ (0 ≤ k ∧ 4 < k) ∨ (k = 1 ∧ n < -2147483648) ∨ (k = 1 ∧ -2147483648 ≤ n ∧ 2147483647 < n) ∨ (k = 3 ∧ n < 0) ∨ (k = 3 ∧ 0 ≤ n ∧ 14 < n))) ∨
    (ownE k n s len = 103 ∧ ((k = 0 ∧ s.toList.isEmpty = false) ∨ (k = 0 ∧ s.toList.isEmpty = true ∧ 0 < len) ∨ (k = 1 ∧ -2147483648 ≤ n ∧ n ≤ 2147483647 ∧ s.toList.isEmpty = false) ∨ (k = 1 ∧ -2147483648 ≤ n ∧ n ≤ 2147483647 ∧ s.toList.isEmpty = true ∧ 0 < len) ∨
      (k = 3 ∧ 0 ≤ n ∧ n ≤ 14 ∧ s.toList.isEmpty = false) ∨ (k = 3 ∧ 0 ≤ n ∧ n ≤ 14 ∧ s.toList.isEmpty = true ∧ 0 < len) ∨ (k = 4 ∧ n ≠ 0) ∨ (k = 4 ∧ n = 0 ∧ s.toList.isEmpty = false))) ∨
    (ownE k n s len = 0 ∧ s = ⟨#[]⟩ ∧ ((k = 0 ∧ len = 0) ∨ (k = 1 ∧ -2147483648 ≤ n ∧ n ≤ 2147483647 ∧ len = 0) ∨ (k = 3 ∧ 0 ≤ n ∧ n ≤ 14 ∧ len = 0) ∨ (k = 4 ∧ n = 0))) := by
  have hse : (s.toList.isEmpty = true ∧ s.data.toList = [] ∧ s = ⟨#[]⟩) ∨ (s.toList.isEmpty = false ∧ s.data.toList ≠ []) := by
    rw [Lib.toList_data]
    rcases s with ⟨⟨l⟩⟩
    cases l with
    | nil => exact .inl ⟨rfl, rfl, rfl⟩
    | cons a r => exact .inr ⟨rfl, by simp⟩
  unfold ownE
  by_cases h1 : k < 0 ∨ 4 < k
  · rw [if_pos h1]; exact .inl ⟨rfl, by omega⟩
  rw [if_neg h1]
  by_cases h2 : k = 1 ∧ (n < -2147483648 ∨ 2147483647 < n)
  · rw [if_pos h2]; exact .inl ⟨rfl, by omega⟩
  rw [if_neg h2]
  by_cases h3 : k = 3 ∧ (n < 0 ∨ 14 < n)
  · rw [if_pos h3]; exact .inl ⟨rfl, by omega⟩
  rw [if_neg h3]
  right
  have hkk : k = 0 ∨ k = 1 ∨ k = 3 ∨ k = 4 := by omega
  rcases hse with ⟨e1, e2, e3⟩ | ⟨e1, e2⟩
  · by_cases h4 : k ≠ 4 ∧ 0 < len
    · rw [if_pos (.inr (.inl h4))]
      left; refine ⟨rfl, ?_⟩
      simp only [e1]; simp; omega
    · by_cases h5 : k = 4 ∧ n ≠ 0
      · rw [if_pos (.inr (.inr ⟨.inr h5.1, h5.2⟩))]
        left; refine ⟨rfl, ?_⟩
        simp only [e1]; simp; omega
      · rw [if_neg (by rintro (⟨_, h⟩ | h | ⟨h, h'⟩); exact h e2; exact h4 h; rcases h with h | h; exact hk h; exact h5 ⟨h, h'⟩), if_neg (by rw [e2]; decide)]
        right; exact ⟨rfl, e3, by omega⟩
  · rw [if_pos (.inl ⟨hk, e2⟩)]
    left; refine ⟨rfl, ?_⟩
    simp only [e1]; simp; omega
/-- The same of a Str. -/
theorem str_cases {n : Int} {s : ByteArray} {len : Nat} :
    (ownE 2 n s len = 103 ∧ (n ≠ 0 ∨ (n = 0 ∧ 0 < len))) ∨ (ownE 2 n s len = 103 ∧ n = 0 ∧ len = 0 ∧ prB s.data.toList = false) ∨ (ownE 2 n s len = 0 ∧ n = 0 ∧ len = 0 ∧ prB s.data.toList = true) := by
  unfold ownE
  rw [if_neg (by decide), if_neg (by rintro ⟨h, _⟩; cases h), if_neg (by rintro ⟨h, _⟩; cases h)]
  by_cases h : n ≠ 0 ∨ 0 < len
  · rw [if_pos (by rcases h with h | h; exact .inr (.inr ⟨.inl rfl, h⟩); exact .inr (.inl ⟨by decide, h⟩))]
    left; exact ⟨rfl, by omega⟩
  · rw [if_neg (by rintro (⟨h', _⟩ | ⟨_, h'⟩ | ⟨_, h'⟩); exact h' rfl; exact h (.inr h'); exact h (.inl h'))]
    right
    by_cases hp : prB s.data.toList = false
    · rw [if_pos hp]; left; exact ⟨rfl, by omega, by omega, hp⟩
    · rw [if_neg hp]; right; exact ⟨rfl, by omega, by omega, by simpa using hp⟩
end Go.Proofs.YtbalpfpcbckghaaGreatDoor
namespace Go.Proofs.YtbalpfpcbckghaaGreatDoor
open Go.RowKit Go.Lib
set_option linter.unusedVariables false

set_option maxRecDepth 100000 in
set_option maxHeartbeats 4000000 in
theorem odd_step (N : Nat) (ih : ∀ N', N' < N → OddC N') : OddC N := by
  intro k n s sub sa sc deep left L w hN hlf hss hsl hfit hsc hrep hd1 hd2 hl1 hl2
  have hLl := hlf.lt
  obtain ⟨wa, hwa⟩ : ∃ wa, wa = w.alloc (.cells #[.int .i64 k, .int .i64 n, .string s, .slice sa sub.len sc] 24) := ⟨_, rfl⟩
  have hba : Below w.heap.size w wa := by rw [hwa]; exact (Below.refl _ _).alloc (Nat.le_refl _) _
  have hV : StB wa w.heap.size (.int .i64 k) (.int .i64 n) (.string s) (.slice sa sub.len sc) := by rw [hwa]; exact StB.new w _ _ _ _
  have hlfa : RwAt wa L (4096 - left) := hlf.below hba hLl
  have hwz : wa.heap.size = w.heap.size + 1 := by rw [hwa]; simp
  have v0 := hV.c0; have v1 := hV.c1; have v2 := hV.c2; have v3 := hV.c3
  have l0 := hlfa.c0
  have lf0 := hlfa.fr
  have HBA := Lib.hid hba
  have HV := Lib.hid hV
  have HLF := Lib.hid hlfa
  have HRP := Lib.hid hrep
  rw [hwa] at v0 v1 v2 v3 l0 lf0
  by_cases hdp : 40 < deep
  · have HS := Lib.hid (show walk1 k n s sub deep left = (112, left) by unfold walk1; rw [if_pos hdp])
    have HF := Lib.hid (show POdd w L (walk1 k n s sub deep left) (.returned (.int .i64 112)) wa by rw [HS.out]; exact ⟨rfl, ⟨_, HLF.out, fun h => by cases h⟩, only_below HBA.out _⟩)
    rw [hwa] at HF
    clear hba hV hlfa hwa hrep
    go_enter Tryz.func49, Tryz.ntmps49
    go_wp2_with fail
    go_ret
    exact HF.out
  have hdp' : deep ≤ 40 := by omega
  clear hdp
  obtain ⟨w1', hw1'⟩ : ∃ w1', w1' = (w.setCell ⟨L, 0, none⟩ (.int .i64 (4096 - left + 1))).alloc (.cells #[.int .i64 k, .int .i64 n, .string s, .slice sa sub.len sc] 24) := ⟨_, rfl⟩
  have hr1' : RwAt w1' L (4096 - left + 1) := by rw [hw1']; exact (hlf.set _).alloc _
  have hv1' : StB w1' w.heap.size (.int .i64 k) (.int .i64 n) (.string s) (.slice sa sub.len sc) := by rw [hw1']; have := StB.new (w.setCell ⟨L, 0, none⟩ (.int .i64 (4096 - left + 1))) (.int .i64 k) (.int .i64 n) (.string s) (.slice sa sub.len sc); simpa [World.setCell] using this
  have hg1' : w.grownBy w1' (some L) := by rw [hw1']; exact only_alloc (only_setCell (only_refl w _) (.inl rfl) _) _
  by_cases hk : k = 2
  · subst hk
    obtain ⟨w1, hw1⟩ : ∃ w1, w1 = (((w.setCell ⟨L, 0, none⟩ (.int .i64 (4096 - left + 1))).setCell ⟨L, 0, none⟩ (.int .i64 (4096 - left + 1 + (s.size : Int)))).alloc (.cells #[.int .i64 2, .int .i64 n, .string s, .slice sa sub.len sc] 24)).drew := ⟨_, rfl⟩
    have hr1 : RwAt w1 L (4096 - left + 1 + (s.size : Int)) := by rw [hw1]; exact (((hlf.set _).set _).alloc _)
    have hv1 : StB w1 w.heap.size (.int .i64 2) (.int .i64 n) (.string s) (.slice sa sub.len sc) := by rw [hw1]; have := StB.new ((w.setCell ⟨L, 0, none⟩ (.int .i64 (4096 - left + 1))).setCell ⟨L, 0, none⟩ (.int .i64 (4096 - left + 1 + (s.size : Int)))) (.int .i64 2) (.int .i64 n) (.string s) (.slice sa sub.len sc); simpa [World.setCell, StB, World.drew] using this
    have hg1 : w.grownBy w1 (some L) := by rw [hw1]; exact only_drew (only_alloc (only_setCell (only_setCell (only_refl w _) (.inl rfl) _) (.inl rfl) _) _)
    have p0 := hv1'.c0; have p2 := hv1'.c2; have q0 := hr1'.c0; have qf := hr1'.fr
    have u0 := hv1.c0; have u1 := hv1.c1; have u2 := hv1.c2; have u3 := hv1.c3; have r0 := hr1.c0
    have HG1 := Lib.hid hg1
    have hm : mOf 2 s = (s.size : Int) := rfl
    by_cases hlm : left ≤ (s.size : Int)
    · have HS := Lib.hid (show walk1 2 n s sub deep left = (104, left) by unfold walk1; rw [if_neg (by omega), hm, if_pos hlm])
      have HF := Lib.hid (show POdd w L (walk1 2 n s sub deep left) (.returned (.int .i64 104)) w1 by rw [HS.out]; exact ⟨rfl, ⟨_, hr1, fun h => by cases h⟩, hg1⟩)
      rw [hw1] at HF
      rw [hw1] at u0 u1 u2 u3 r0
      rw [hw1'] at p0 p2 q0 qf
      clear hba hV hlfa hwa hrep hw1' hr1' hv1' hg1' hw1 hr1 hv1 hg1
      go_enter Tryz.func49, Tryz.ntmps49
      go_wp2_with fail
      go_region
      go_wp2_with fail
      go_ret
      exact HF.out
    obtain ⟨lf, hlfe⟩ : ∃ lf : Int, lf = left - (1 + (s.size : Int)) := ⟨_, rfl⟩
    have HS := Lib.hid (show walk1 2 n s sub deep left = if ownE 2 n s sub.len = 0 then walkL sub (deep + 1) lf else (ownE 2 n s sub.len, lf) by unfold walk1; rw [if_neg (by omega), hm, if_neg (by omega), hlfe])
    have hlf0 : 0 ≤ lf := by omega
    have hlf4 : lf ≤ 4096 := by omega
    have HR1 := Lib.hid (show RwAt w1 L (4096 - lf) by rw [show 4096 - lf = 4096 - left + 1 + (s.size : Int) by omega]; exact hr1)
    have HV1 := Lib.hid hv1
    have PC := Lib.hid (fun W => printed_c s W hss)
    have HW1 := Lib.hid (show (((w.setCell ⟨L, 0, none⟩ (.int .i64 (4096 - left + 1))).setCell ⟨L, 0, none⟩ (.int .i64 (4096 - left + 1 + (s.size : Int)))).alloc (.cells #[.int .i64 2, .int .i64 n, .string s, .slice sa sub.len sc] 24)).drew = w1 by rw [hw1])
    rw [hw1] at u0 u1 u2 u3 r0
    rw [hw1'] at p0 p2 q0 qf
    clear hba hV hlfa hwa hrep hw1' hr1' hv1' hg1' hw1 hr1 hv1 hg1 hlfe
    rcases str_cases (n := n) (s := s) (len := sub.len) with ⟨hE, hcs⟩ | ⟨hE, rfl, h0, hp⟩ | ⟨hE, rfl, h0, hp⟩
    · rw [hE, if_neg (by decide)] at HS
      rcases hcs with hn | ⟨rfl, hl⟩
      · have hn1 := (bne_of hn).1
        have hn2 := (bne_of hn).2
        clear hn
        go_enter Tryz.func49, Tryz.ntmps49
        go_wp2_with fail
        go_region
        go_wp2_with fail
        go_ret
        rw [HW1.out, HS.out]
        exact ⟨rfl, ⟨_, HR1.out, fun h => by cases h⟩, HG1.out⟩
      · have hl' : (0 : Int) < (sub.len : Int) := by omega
        go_enter Tryz.func49, Tryz.ntmps49
        go_wp2_with fail
        go_region
        go_wp2_with fail
        go_ret
        rw [HW1.out, HS.out]
        exact ⟨rfl, ⟨_, HR1.out, fun h => by cases h⟩, HG1.out⟩
    · rw [hE, if_neg (by decide)] at HS
      rw [hp] at PC
      clear hp
      obtain rfl : sub = .nil := by cases sub with | nil => rfl | cons _ _ _ _ _ => exact absurd h0 (Nat.succ_ne_zero _)
      rw [show VL.nil.len = 0 from rfl] at v0 v1 v2 v3 l0 lf0 u0 u1 u2 u3 r0 HV1 HW1
      rw [show VL.nil.len = 0 from rfl] at p0 p2 q0 qf
      rw [show VL.nil.len = 0 from rfl]
      clear h0
      go_enter Tryz.func49, Tryz.ntmps49
      go_wp2_with fail
      go_region
      go_wp2_with fail
      rw [HW1.out]
      refine (PC.out _).mono ?_
      rintro e w' ⟨rfl, rfl⟩
      go_wp2_with fail
      go_ret
      rw [HS.out]
      exact ⟨rfl, ⟨_, HR1.out, fun h => by cases h⟩, HG1.out⟩
    · rw [hE, if_pos rfl] at HS
      rw [hp] at PC
      clear hp
      obtain rfl : sub = .nil := by cases sub with | nil => rfl | cons _ _ _ _ _ => exact absurd h0 (Nat.succ_ne_zero _)
      rw [show VL.nil.len = 0 from rfl] at v0 v1 v2 v3 l0 lf0 u0 u1 u2 u3 r0 HV1 HW1
      rw [show VL.nil.len = 0 from rfl] at p0 p2 q0 qf
      rw [show VL.nil.len = 0 from rfl]
      clear h0
      go_enter Tryz.func49, Tryz.ntmps49
      go_wp2_with fail
      go_region
      go_wp2_with fail
      rw [HW1.out]
      refine (PC.out _).mono ?_
      rintro e w' ⟨rfl, rfl⟩
      have x3 := HV1.out.c3
      go_wp2_with fail
      go_loopg [9] 0 (fun kk v wr => v = .int .i64 0 ∧ w1 = wr)
      case atStart => exact ⟨rfl, rfl⟩
      case round =>
        obtain ⟨rfl, rfl⟩ := hrel
        go_wp2_with fail
        go_ret
        rw [HS.out]
        exact ⟨rfl, ⟨_, HR1.out, fun _ => rfl⟩, HG1.out⟩
  · have hm : mOf k s = 0 := by unfold mOf; rw [if_neg hk]
    have hk1 := (bne_of hk).1
    have hk2 := (bne_of hk).2
    have u0 := hv1'.c0; have u1 := hv1'.c1; have u2 := hv1'.c2; have u3 := hv1'.c3; have r0 := hr1'.c0
    by_cases hlm : left ≤ 0
    · have HS := Lib.hid (show walk1 k n s sub deep left = (104, left) by unfold walk1; rw [if_neg (by omega), hm, if_pos hlm])
      have HF := Lib.hid (show POdd w L (walk1 k n s sub deep left) (.returned (.int .i64 104)) w1' by rw [HS.out]; exact ⟨rfl, ⟨_, hr1', fun h => by cases h⟩, hg1'⟩)
      rw [hw1'] at HF
      rw [hw1'] at u0 u1 u2 u3 r0
      clear hba hV hlfa hwa hrep hw1' hr1' hv1' hg1' hk
      go_enter Tryz.func49, Tryz.ntmps49
      go_wp2_with fail
      go_ret
      exact HF.out
    obtain ⟨lf, hlfe⟩ : ∃ lf : Int, lf = left - 1 := ⟨_, rfl⟩
    have HS := Lib.hid (show walk1 k n s sub deep left = if ownE k n s sub.len = 0 then walkL sub (deep + 1) lf else (ownE k n s sub.len, lf) by unfold walk1; rw [if_neg (by omega), hm, if_neg (by omega), hlfe, show left - (1 + 0) = left - 1 by omega])
    have hlf0 : 0 ≤ lf := by omega
    have hlf4 : lf ≤ 4096 := by omega
    obtain ⟨w1, hw1⟩ : ∃ w1, w1 = w1' := ⟨_, rfl⟩
    have HR1 := Lib.hid (show RwAt w1 L (4096 - lf) by rw [hw1, show 4096 - lf = 4096 - left + 1 by omega]; exact hr1')
    have HV1 := Lib.hid (show StB w1 w.heap.size (.int .i64 k) (.int .i64 n) (.string s) (.slice sa sub.len sc) by rw [hw1]; exact hv1')
    have HG1 := Lib.hid (show w.grownBy w1 (some L) by rw [hw1]; exact hg1')
    have HW1 := Lib.hid (show ((w.setCell ⟨L, 0, none⟩ (.int .i64 (4096 - left + 1))).alloc (.cells #[.int .i64 k, .int .i64 n, .string s, .slice sa sub.len sc] 24)) = w1 by rw [hw1, hw1'])
    rw [hw1'] at u0 u1 u2 u3 r0
    clear hba hV hlfa hwa hrep hw1' hr1' hv1' hg1' hw1 hlfe
    rcases kind_cases (n := n) (s := s) (len := sub.len) hk with ⟨hE, hcs⟩ | ⟨hE, hcs⟩ | ⟨hE, hs0, hcs⟩
    · rw [hE, if_neg (by decide)] at HS
      clear hk hE
      rcases hcs with h | ⟨h, h'⟩ | ⟨rfl, h⟩ | ⟨rfl, h, h'⟩ | ⟨rfl, h⟩ | ⟨rfl, h, h'⟩
      all_goals
        go_enter Tryz.func49, Tryz.ntmps49
        go_wp2_with fail
        go_ret
        rw [HW1.out, HS.out]
        exact ⟨rfl, ⟨_, HR1.out, fun h => by cases h⟩, HG1.out⟩
    · rw [hE, if_neg (by decide)] at HS
      clear hk hE
      have hln : 0 < sub.len → (0 : Int) < (sub.len : Int) := fun h => by omega
      have hnn : n ≠ 0 → (n != 0) = true ∧ (n == 0) = false := fun h => bne_of h
      have hsn : s.toList.isEmpty = false → ¬ s.toList = [] := fun h e => by rw [e] at h; cases h
      rcases hcs with ⟨rfl, he⟩ | ⟨rfl, he, hl⟩ | ⟨rfl, h1, h2, he⟩ | ⟨rfl, h1, h2, he, hl⟩ | ⟨rfl, h1, h2, he⟩ | ⟨rfl, h1, h2, he, hl⟩ | ⟨rfl, hn⟩ | ⟨rfl, rfl, he⟩
      all_goals
        try have hl' := hln hl
        try have he' := hsn he
        try (obtain ⟨hn1, hn2⟩ := hnn hn; clear hn)
        clear hln hnn hsn
        go_enter Tryz.func49, Tryz.ntmps49
        go_wp2_with fail
        go_ret
        rw [HW1.out, HS.out]
        exact ⟨rfl, ⟨_, HR1.out, fun h => by cases h⟩, HG1.out⟩
    · rw [hE, if_pos rfl] at HS
      have he : s.toList.isEmpty = true := by rw [hs0, Lib.toList_data]; rfl
      have he' : s.toList = [] := by rw [hs0, Lib.toList_data]
      have PC := Lib.hid (fun W => printed_c s W hss)
      rw [show prB s.data.toList = true by rw [hs0]; decide] at PC
      clear hk hE hs0
      rcases hcs with ⟨rfl, h0⟩ | ⟨rfl, h1, h2, h0⟩ | ⟨rfl, h1, h2, h0⟩ | ⟨rfl, rfl⟩
      · obtain rfl : sub = .nil := by cases sub with | nil => rfl | cons _ _ _ _ _ => exact absurd h0 (Nat.succ_ne_zero _)
        rw [show VL.nil.len = 0 from rfl] at v0 v1 v2 v3 l0 lf0 u0 u1 u2 u3 r0 HV1 HW1
        rw [show VL.nil.len = 0 from rfl]
        clear h0
        go_enter Tryz.func49, Tryz.ntmps49
        go_wp2_with fail
        rw [HW1.out]
        refine (PC.out _).mono ?_
        rintro e w' ⟨rfl, rfl⟩
        have x3 := HV1.out.c3
        go_wp2_with fail
        go_loopg [9] 0 (fun kk v wr => v = .int .i64 0 ∧ w1 = wr)
        case atStart => exact ⟨rfl, rfl⟩
        case round =>
          obtain ⟨rfl, rfl⟩ := hrel
          go_wp2_with fail
          go_ret
          rw [HS.out]
          exact ⟨rfl, ⟨_, HR1.out, fun _ => rfl⟩, HG1.out⟩
      · obtain rfl : sub = .nil := by cases sub with | nil => rfl | cons _ _ _ _ _ => exact absurd h0 (Nat.succ_ne_zero _)
        rw [show VL.nil.len = 0 from rfl] at v0 v1 v2 v3 l0 lf0 u0 u1 u2 u3 r0 HV1 HW1
        rw [show VL.nil.len = 0 from rfl]
        clear h0
        go_enter Tryz.func49, Tryz.ntmps49
        go_wp2_with fail
        rw [HW1.out]
        refine (PC.out _).mono ?_
        rintro e w' ⟨rfl, rfl⟩
        have x3 := HV1.out.c3
        go_wp2_with fail
        go_loopg [9] 0 (fun kk v wr => v = .int .i64 0 ∧ w1 = wr)
        case atStart => exact ⟨rfl, rfl⟩
        case round =>
          obtain ⟨rfl, rfl⟩ := hrel
          go_wp2_with fail
          go_ret
          rw [HS.out]
          exact ⟨rfl, ⟨_, HR1.out, fun _ => rfl⟩, HG1.out⟩
      · obtain rfl : sub = .nil := by cases sub with | nil => rfl | cons _ _ _ _ _ => exact absurd h0 (Nat.succ_ne_zero _)
        rw [show VL.nil.len = 0 from rfl] at v0 v1 v2 v3 l0 lf0 u0 u1 u2 u3 r0 HV1 HW1
        rw [show VL.nil.len = 0 from rfl]
        clear h0
        go_enter Tryz.func49, Tryz.ntmps49
        go_wp2_with fail
        rw [HW1.out]
        refine (PC.out _).mono ?_
        rintro e w' ⟨rfl, rfl⟩
        have x3 := HV1.out.c3
        go_wp2_with fail
        go_loopg [9] 0 (fun kk v wr => v = .int .i64 0 ∧ w1 = wr)
        case atStart => exact ⟨rfl, rfl⟩
        case round =>
          obtain ⟨rfl, rfl⟩ := hrel
          go_wp2_with fail
          go_ret
          rw [HS.out]
          exact ⟨rfl, ⟨_, HR1.out, fun _ => rfl⟩, HG1.out⟩
      · go_enter Tryz.func49, Tryz.ntmps49
        go_wp2_with fail
        rw [HW1.out]
        refine (PC.out _).mono ?_
        rintro e w' ⟨rfl, rfl⟩
        have x3 := HV1.out.c3
        go_wp2_with fail
        go_loopg [9] sub.len (fun kk v wr => ∃ (i : Nat) (l : Int), v = .int .i64 i ∧ i + kk = sub.len ∧ RwAt wr L (4096 - l) ∧ StB wr w.heap.size (.int .i64 4) (.int .i64 0) (.string s) (.slice sa sub.len sc) ∧ w1.grownBy wr (some L) ∧ 0 ≤ l ∧ l ≤ 4096 ∧ Hid (walkL (sub.drop i) (deep + 1) l = walkL sub (deep + 1) lf))
        case atStart => exact ⟨0, lf, rfl, by omega, HR1.out, HV1.out, only_refl _ _, hlf0, hlf4, by show walkL (sub.drop 0) _ _ = _; rw [VL.drop]⟩
        case round =>
          obtain ⟨i, l, rfl, hik, hlr, hvr, hgr, hl0, hl4, hwl⟩ := hrel
          have x3 := hvr.c3
          by_cases hi : i < sub.len
          · obtain ⟨g, rfl⟩ : ∃ g, gk = g + 1 := ⟨gk - 1, by omega⟩
            obtain ⟨k', n', s', sub', hd⟩ := VL.drop_of_lt i sub hi
            have hrw := HRP.out.grown (only_trans HG1.out hgr) (fun b hb => ⟨hb.1, fun e => by injection e with e; exact hb.2 e⟩)
            obtain ⟨b, o, hsa⟩ : ∃ b o, sa = some ⟨b, o, none⟩ := by
              cases sub with
              | nil => simp [VL.len] at hi
              | cons _ _ _ _ _ => obtain ⟨b, o, _, _, h, _⟩ := hrw; exact ⟨b, o, h⟩
            rw [hsa] at hrw
            have hdr := RpL.drop i sub b o hrw
            rw [hd] at hdr
            obtain ⟨b', o', sa', sc', hA, hSb, c0, c1, c2, c3, hcl, hrs, _⟩ := hdr
            injection hA with hA
            injection hA with hA1 hA2
            subst hA1
            subst hA2
            have hfd := VL.fit_drop i sub hfit
            rw [hd] at hfd
            obtain ⟨hf1, hf2, hf3, _⟩ := hfd
            have hszd := VL.size_drop i sub
            rw [hd] at hszd
            simp only [VL.size] at hszd
            have HWL := Lib.hid hwl
            have HDD := Lib.hid hd
            have HSA := Lib.hid hsa
            subst hsa
            have HRS := Lib.hid hrs
            have HLR := Lib.hid hlr
            have HVR := Lib.hid hvr
            have HGR := Lib.hid hgr
            clear hwl hd hrw hrs hlr hvr hgr
            rw [Nat.mul_comm 4 i] at c0 c1 c2 c3
            have IHC := Lib.hid (ih (sub'.size + 1) (by omega) k' n' s' sub' sa' sc' (deep + 1) l L wr (by omega) HLR.out hf1 hf2 hf3 hcl
              (HRS.out.keep (fun b hb => rfl) (fun b hb => ⟨by have := hb.1; have := HG1.out.size; have := HGR.out.size; omega, hb.2⟩)) (by omega) (by omega) hl0 hl4)
            have HST := Lib.hid (show walkL (sub.drop i) (deep + 1) l = if (walk1 k' n' s' sub' (deep + 1) l).1 = 0 then walkL (sub.drop (i + 1)) (deep + 1) (walk1 k' n' s' sub' (deep + 1) l).2 else walk1 k' n' s' sub' (deep + 1) l by rw [HDD.out, walkL_cons])
            have hrng := walk1_range k' n' s' sub' (deep + 1) l hl0
            obtain ⟨rc, rl, hrr⟩ : ∃ rc rl, walk1 k' n' s' sub' (deep + 1) l = (rc, rl) := ⟨_, _, rfl⟩
            rw [hrr] at IHC HST hrng
            simp only at hrng
            obtain ⟨hrg1, hrg2⟩ := hrng
            clear hrr
            go_wp2_with fail
            refine IHC.out.mono ?_
            rintro e w5 ⟨rfl, ⟨m5, hl5, hm5⟩, hg5⟩
            have HL5 := Lib.hid hl5
            have HG5 := Lib.hid (only_trans HGR.out hg5)
            have HV5 := Lib.hid (HVR.out.only hg5 (by intro e; injection e with e; omega))
            clear hl5 hg5
            by_cases hrc : rc = 0
            · subst hrc
              obtain rfl : m5 = 4096 - rl := hm5 rfl
              have HN := Lib.hid (HST.out.symm.trans HWL.out)
              rw [if_pos rfl] at HN
              rw [show (((0, rl) : Nat × Int).1 : Int) = 0 from rfl]
              go_wp2_with fail
              go_roundg g
              case measure => omega
              case rel => exact ⟨i + 1, rl, by go_num, by omega, HL5.out, HV5.out, HG5.out, hrg1, by omega, HN.out⟩
            · have HN := Lib.hid (HST.out.symm.trans HWL.out)
              rw [if_neg hrc] at HN
              have hb1 : (((rc : Nat) : Int) != 0) = true := (bne_of (by omega)).1
              have hb2 : (((rc : Nat) : Int) == 0) = false := (bne_of (by omega)).2
              rw [show (((rc, rl) : Nat × Int).1 : Int) = (rc : Int) from rfl]
              go_wp2_with fail
              go_ret
              rw [HS.out, ← HN.out]
              exact ⟨rfl, ⟨_, HL5.out, fun h => absurd h hrc⟩, only_trans HG1.out HG5.out⟩
          · obtain rfl : i = sub.len := by omega
            rw [VL.drop_len] at hwl
            have HN := Lib.hid hwl
            have HLR := Lib.hid hlr
            have HGR := Lib.hid hgr
            clear hwl hlr hgr hvr
            go_wp2_with fail
            go_ret
            rw [HS.out, ← HN.out]
            exact ⟨rfl, ⟨_, HLR.out, fun _ => rfl⟩, only_trans HG1.out HGR.out⟩

theorem odd_c (N : Nat) : OddC N := by
  induction N using Nat.strongRecOn with
  | _ N ih => exact odd_step N ih

end Go.Proofs.YtbalpfpcbckghaaGreatDoor
namespace Go.Proofs.YtbalpfpcbckghaaGreatDoor
open Go.RowKit Go.Lib
set_option linter.unusedVariables false

set_option maxHeartbeats 1000000 in
theorem validR_c (k n : Int) (s : ByteArray) (sub : VL) (sa : Option Addr) (sc : Nat) (w : World) (hs : s.size ≤ 140737488351232) (hl : sub.len ≤ 140737488351232) (hf : sub.fit) (hsc : sub.len ≤ sc)
    (hr : RpL w (fun b => b < w.heap.size) sub sa) :
    Calls Tryz.prog 28 #[.agg #[.int .i64 k, .int .i64 n, .string s, .slice sa sub.len sc]] w fun e w' => e = .returned (.int .i64 (walk1 k n s sub 1 4096).1) ∧ Below w.heap.size w w' := by
  obtain ⟨wa, hwa⟩ : ∃ wa, wa = (w.alloc (.cells #[.int .i64 k, .int .i64 n, .string s, .slice sa sub.len sc] 24)).alloc (.cells #[.int .i64 0] 64) := ⟨_, rfl⟩
  have hb : Below w.heap.size w wa := by rw [hwa]; exact ((Below.refl _ _).alloc (Nat.le_refl _) _).alloc (by simp) _
  have hV : StB wa w.heap.size (.int .i64 k) (.int .i64 n) (.string s) (.slice sa sub.len sc) := by rw [hwa]; exact (StB.new w _ _ _ _).alloc _
  have hL : RwAt wa (w.heap.size + 1) (4096 - 4096) := by rw [hwa]; have := RwAt.new (w.alloc (.cells #[.int .i64 k, .int .i64 n, .string s, .slice sa sub.len sc] 24)) 0; simpa using this
  have hwz : wa.heap.size = w.heap.size + 2 := by rw [hwa]; simp
  have WC := Lib.hid (odd_c (sub.size + 1) k n s sub sa sc 1 4096 (w.heap.size + 1) wa (by omega) hL hs hl hf hsc
    (hr.keep (fun b hlt => hb.block b hlt) (fun b hlt => ⟨by omega, by omega⟩)) (by omega) (by omega) (by omega) (by omega))
  have v0 := hV.c0; have v1 := hV.c1; have v2 := hV.c2; have v3 := hV.c3
  have HB := Lib.hid hb
  have HWA := Lib.hid hwa
  have HWZ := Lib.hid hwz
  rw [hwa] at v0 v1 v2 v3
  clear hb hV hL hwa hwz hr
  go_enter Tryz.func28, Tryz.ntmps28
  go_wp2_with fail
  rw [← HWA.out]
  refine WC.out.mono ?_
  rintro e w5 ⟨rfl, _, hg5⟩
  have HG := Lib.hid hg5
  clear hg5 HWA v0 v1 v2 v3
  go_wp2_with fail
  go_ret
  exact ⟨rfl, HB.out.trans ⟨HG.out.os, HG.out.tape, HG.out.output, HG.out.size, fun b hb => HG.out.block b (by have := HWZ.out; omega) (fun e => by injection e with e; omega)⟩⟩

/-- Is a value right? -/
def rightB (k n : Int) (s : ByteArray) (sub : VL) : Bool := decide ((walk1 k n s sub 1 4096).1 = 0)
set_option maxHeartbeats 1000000 in
theorem right_c (k n : Int) (s : ByteArray) (sub : VL) (sa : Option Addr) (sc : Nat) (w : World) (hf : (val1 k n s sub).fit) (hsc : sub.len ≤ sc)
    (hr : RpL w (fun b => b < w.heap.size) sub sa) :
    Calls Tryz.prog 9 #[.agg #[.int .i64 k, .int .i64 n, .string s, .slice sa sub.len sc]] w fun e w' => e = .returned (.bool (rightB k n s sub)) ∧ Below w.heap.size w w' := by
  obtain ⟨wa, hwa⟩ : ∃ wa, wa = w.alloc (.cells #[.int .i64 k, .int .i64 n, .string s, .slice sa sub.len sc] 24) := ⟨_, rfl⟩
  have hb : Below w.heap.size w wa := by rw [hwa]; exact (Below.refl _ _).alloc (Nat.le_refl _) _
  have hwz : wa.heap.size = w.heap.size + 1 := by rw [hwa]; simp
  have hV : StB wa w.heap.size (.int .i64 k) (.int .i64 n) (.string s) (.slice sa sub.len sc) := by rw [hwa]; exact StB.new w _ _ _ _
  have WC := Lib.hid (validR_c k n s sub sa sc wa hf.1 hf.2.1 hf.2.2.1 hsc (hr.keep (fun b hlt => hb.block b hlt) (fun b hlt => by omega)))
  have v0 := hV.c0; have v1 := hV.c1; have v2 := hV.c2; have v3 := hV.c3
  obtain ⟨c, hc⟩ : ∃ c, c = (walk1 k n s sub 1 4096).1 := ⟨_, rfl⟩
  have HR := Lib.hid (show rightB k n s sub = decide (c = 0) by rw [hc]; rfl)
  rw [← hc] at WC
  rw [HR.out]
  have HB := Lib.hid hb
  have HWA := Lib.hid hwa
  have HWZ := Lib.hid hwz
  rw [hwa] at v0 v1 v2 v3
  clear hb hV hwa hwz hr hc
  have hcc : ((c : Int) == 0) = decide (c = 0) := by
    by_cases h : c = 0
    · subst h; rfl
    · rw [(bne_of (show (c : Int) ≠ 0 by omega)).2, decide_eq_false h]
  go_enter Tryz.func9, Tryz.ntmps9
  go_wp2_with fail
  rw [← HWA.out]
  refine WC.out.mono ?_
  rintro e w5 ⟨rfl, hb5⟩
  have HB5 := Lib.hid (HB.out.trans (below_le' hb5 (by have := HWZ.out; omega)))
  clear hb5
  go_wp2_with fail
  go_ret
  exact ⟨ret_bool rfl, HB5.out⟩
end Go.Proofs.YtbalpfpcbckghaaGreatDoor
namespace Go.Proofs.YtbalpfpcbckghaaGreatDoor

namespace NL
def deep : NL → Nat
  | .nil => 0
  | .cons _ _ _ _ _ _ _ sub r => Nat.max (1 + sub.deep) r.deep
/-- All values within are no longer than a machine can hold. -/
def fit : NL → Prop
  | .nil => True
  | .cons _ _ s _ _ t v sub r => s.size ≤ 140737488351232 ∧ t.size ≤ 140737488351232 ∧ v.len ≤ 140737488351232 ∧ v.fit ∧ sub.len ≤ 140737488351232 ∧ sub.fit ∧ r.fit
end NL
end Go.Proofs.YtbalpfpcbckghaaGreatDoor
namespace Go.Proofs.YtbalpfpcbckghaaGreatDoor
open Go.RowKit Go.Lib
set_option linter.unusedVariables false

section
variable {w w' : World} {g : Nat} {a b c d e f h i : Value}
end

namespace NL
theorem fit_drop : ∀ (i : Nat) (l : NL), l.fit → (l.drop i).fit
  | 0, l, h => by rw [NL.drop]; exact h
  | i + 1, .nil, h => h
  | i + 1, .cons _ _ _ _ _ _ _ _ r, h => fit_drop i r h.2.2.2.2.2.2
end NL

end Go.Proofs.YtbalpfpcbckghaaGreatDoor
namespace Go.Proofs.YtbalpfpcbckghaaGreatDoor

end Go.Proofs.YtbalpfpcbckghaaGreatDoor
namespace Go.Proofs.YtbalpfpcbckghaaGreatDoor
open Go.RowKit Go.Lib
set_option linter.unusedVariables false

end Go.Proofs.YtbalpfpcbckghaaGreatDoor
namespace Go.Proofs.YtbalpfpcbckghaaGreatDoor
open Go.RowKit Go.Lib
set_option linter.unusedVariables false

end Go.Proofs.YtbalpfpcbckghaaGreatDoor
namespace Go.Proofs.YtbalpfpcbckghaaGreatDoor
open Go.RowKit Go.Lib
set_option linter.unusedVariables false

/-- What holds at Join's loop: the bytes so far in a row of the call's own. -/
structure JInv (base : Nat) (w0 wr : World) (V : Value) (acc : List UInt8) : Prop where
  own : wr.ownsRow base 5 1 V acc.length (u8s acc)
  below : Below base w0 wr
  size : base ≤ wr.heap.size
theorem JInv.move {base : Nat} {w0 wr w' : World} {V : Value} {acc : List UInt8} (h : JInv base w0 wr V acc) (hb : Below wr.heap.size wr w') : JInv base w0 w' V acc :=
  ⟨own_below h.own hb, h.below.trans (below_le' hb h.size), Nat.le_trans h.size hb.size⟩
theorem JInv.alloc {base : Nat} {w0 wr : World} {V : Value} {acc : List UInt8} (h : JInv base w0 wr V acc) (o : Obj) : JInv base w0 (wr.alloc o) V acc := h.move ((Below.refl _ _).alloc (Nat.le_refl _) _)
theorem JInv.app {base : Nat} {w0 wr w5 : World} {V V' : Value} {acc l : List UInt8} (h : JInv base w0 wr V acc) (hown : w5.ownsRow base 5 1 V' (acc.length + (⟨l.toArray⟩ : ByteArray).size) (u8s acc ++ strCells ⟨l.toArray⟩)) (hg : wr.grownBy w5 V.ownBlock) : JInv base w0 w5 V' (acc ++ l) := by
  have e1 : (⟨l.toArray⟩ : ByteArray).size = l.length := by simp [ByteArray.size]
  have e2 : strCells ⟨l.toArray⟩ = u8s l := rfl
  rw [e1, e2] at hown
  refine ⟨?_, grown_below h.below h.size hg (fun k hk => own_ge h.own k hk), Nat.le_trans h.size hg.size⟩
  rw [List.length_append, show u8s (acc ++ l) = u8s acc ++ u8s l from List.map_append]
  exact hown
theorem JInv.byte {base : Nat} {w0 wr w5 : World} {V V' : Value} {acc : List UInt8} {y : UInt8} (h : JInv base w0 wr V acc) (hown : w5.ownsRow base 5 1 V' (acc.length + 1) (u8s acc ++ [.int .u8 y.toNat])) (hg : wr.grownBy w5 V.ownBlock) : JInv base w0 w5 V' (acc ++ [y]) :=
  ⟨own_snoc hown, grown_below h.below h.size hg (fun k hk => own_ge h.own k hk), Nat.le_trans h.size hg.size⟩
end Go.Proofs.YtbalpfpcbckghaaGreatDoor
namespace Go.Proofs.YtbalpfpcbckghaaGreatDoor
open Go.RowKit Go.Lib
set_option linter.unusedVariables false

/-- Two rows whose elements are of different types are two. -/
theorem own_ne {w : World} {b1 b2 e1 e2 s1 s2 n1 n2 : Nat} {v1 v2 : Value} {x1 x2 : List Value} (h1 : w.ownsRow b1 e1 s1 v1 n1 x1) (h2 : w.ownsRow b2 e2 s2 v2 n2 x2) (hne : e1 ≠ e2) : v1.ownBlock = none ∨ v1.ownBlock ≠ v2.ownBlock := by
  rcases h1.2 with ⟨rfl, _⟩ | ⟨g, c, cur, rfl, _, hh, _⟩
  · exact .inl rfl
  · rcases h2.2 with ⟨rfl, _⟩ | ⟨g', c', cur', rfl, _, hh', _⟩
    · exact .inr (by simp [Value.ownBlock])
    · refine .inr fun e => ?_
      have : g = g' := by simpa [Value.ownBlock] using e
      subst this
      rw [hh] at hh'
      injection hh' with hh'
      injection hh' with _ ht
      exact hne ht
theorem own_apart {w w' : World} {b e s n : Nat} {v : Value} {xs : List Value} {row : Option Nat} (h : w.ownsRow b e s v n xs) (hg : w.grownBy w' row) (hne : v.ownBlock = none ∨ v.ownBlock ≠ row) : w'.ownsRow b e s v n xs := by
  refine ⟨h.1, ?_⟩
  rcases h.2 with h0 | ⟨g, c, cur, rfl, hb, hh, r⟩
  · exact .inl h0
  · refine .inr ⟨g, c, cur, rfl, hb, ?_, r⟩
    rw [hg.block g (Array.getElem?_eq_some_iff.1 hh).1 (by simpa [Value.ownBlock] using hne)]
    exact hh
/-- What holds at split's loop. -/
structure SpInv (base : Nat) (w0 wr : World) (ov bv : Value) (outs : List (List UInt8)) (bs : List UInt8) : Prop where
  o : wr.ownsRow base 9 1 ov outs.length (strs outs)
  b : wr.ownsRow base 5 1 bv bs.length (u8s bs)
  below : Below base w0 wr
  size : base ≤ wr.heap.size
theorem SpInv.alloc {base : Nat} {w0 wr : World} {ov bv : Value} {outs : List (List UInt8)} {bs : List UInt8} (h : SpInv base w0 wr ov bv outs bs) (x : Obj) : SpInv base w0 (wr.alloc x) ov bv outs bs :=
  ⟨h.o.alloc x, h.b.alloc x, h.below.alloc h.size x, by have := h.size; simp; omega⟩
theorem SpInv.byte {base : Nat} {w0 wr w5 : World} {ov bv bv' : Value} {outs : List (List UInt8)} {bs : List UInt8} {y : UInt8} (h : SpInv base w0 wr ov bv outs bs) (hown : w5.ownsRow base 5 1 bv' (bs.length + 1) (u8s bs ++ [.int .u8 y.toNat])) (hg : wr.grownBy w5 bv.ownBlock) : SpInv base w0 w5 ov bv' outs (bs ++ [y]) :=
  ⟨own_apart h.o hg (own_ne h.o h.b (by decide)), own_snoc hown, grown_below h.below h.size hg (fun k hk => own_ge h.b k hk), Nat.le_trans h.size hg.size⟩
theorem SpInv.word {base : Nat} {w0 wr w5 : World} {ov bv ov' : Value} {outs : List (List UInt8)} {bs : List UInt8} {x : List UInt8} (h : SpInv base w0 wr ov bv outs bs) (hown : w5.ownsRow base 9 1 ov' (outs.length + 1) (strs outs ++ [.string ⟨x.toArray⟩])) (hg : wr.grownBy w5 ov.ownBlock) : SpInv base w0 w5 ov' (.slice none 0 0) (outs ++ [x]) [] :=
  ⟨strs_snoc hown, World.ownsRow_nil _ _ _ _, grown_below h.below h.size hg (fun k hk => own_ge h.o k hk), Nat.le_trans h.size hg.size⟩

end Go.Proofs.YtbalpfpcbckghaaGreatDoor
namespace Go.Proofs.YtbalpfpcbckghaaGreatDoor
open Go.RowKit Go.Lib
set_option linter.unusedVariables false

end Go.Proofs.YtbalpfpcbckghaaGreatDoor
namespace Go.Proofs.YtbalpfpcbckghaaGreatDoor
open Go.RowKit Go.Lib
set_option linter.unusedVariables false

end Go.Proofs.YtbalpfpcbckghaaGreatDoor
namespace Go.Proofs.YtbalpfpcbckghaaGreatDoor
open Go.RowKit Go.Lib
set_option linter.unusedVariables false

end Go.Proofs.YtbalpfpcbckghaaGreatDoor
namespace Go.Proofs.YtbalpfpcbckghaaGreatDoor
open Go.RowKit Go.Lib
set_option linter.unusedVariables false

end Go.Proofs.YtbalpfpcbckghaaGreatDoor
namespace Go.Proofs.YtbalpfpcbckghaaGreatDoor
open Go.RowKit Go.Lib
set_option linter.unusedVariables false

end Go.Proofs.YtbalpfpcbckghaaGreatDoor
namespace Go.Proofs.YtbalpfpcbckghaaGreatDoor
open Go.RowKit Go.Lib
set_option linter.unusedVariables false

end Go.Proofs.YtbalpfpcbckghaaGreatDoor
namespace Go.Proofs.YtbalpfpcbckghaaGreatDoor
open Go.RowKit Go.Lib
set_option linter.unusedVariables false

end Go.Proofs.YtbalpfpcbckghaaGreatDoor
namespace Go.Proofs.YtbalpfpcbckghaaGreatDoor
open Go.RowKit Go.Lib
set_option linter.unusedVariables false

end Go.Proofs.YtbalpfpcbckghaaGreatDoor
namespace Go.Proofs.YtbalpfpcbckghaaGreatDoor
open Go.RowKit Go.Lib
set_option linter.unusedVariables false

theorem star_err : "*" ++ "errors.errorString" = "*errors.errorString" := by decide
theorem row_err (u : TypeId) (h : Tryz.prog.typeName? 3 u = some "*errors.errorString") : u = 224 :=
  typeName_ptr_named (nm := "errors.errorString") (by rw [star_err]; kernel_rfl) (by kernel_rfl) (by decide) u (by rw [star_err]; exact h)
/-- A sentinel that heads the list: its variable's cell. -/
theorem sent_at {n : String} {text : List UInt8} {r : List (String × DataW Unit)} {W : World} (g : Nat) (h : laidMet Tryz.prog ((n, .iface "*errors.errorString" (.ptr (.agg [.lit (.string text)]))) :: r) W)
    (hg : Tryz.prog.globalNamed n = some g) (ht : (Tryz.prog.globals[g]?).map (·.type) = some 80) : ∃ a : Addr, W.cell? ⟨g, 0, none⟩ = some (.iface 224 (.pointer (some a))) := by
  obtain ⟨a, s, hv, _⟩ := laid_sentinel h hg ht Tryz.underlying80 row_err Tryz.underlying224 Tryz.underlying226 rfl rfl Tryz.underlying9 (by kernel_rfl) (by kernel_rfl)
  exact ⟨a, by simpa using World.var?_cell hg hv 0⟩
end Go.Proofs.YtbalpfpcbckghaaGreatDoor
namespace Go.Proofs.YtbalpfpcbckghaaGreatDoor
open Go.ChangeShapes Go.WideShapes Go.ChangeAt Go.RowKit Go.Lib
open Go.ChangeMaps (open_string shut_string)
set_option linter.unusedVariables false

theorem own_knob : ownKnob Tryz.prog.godebug = none := by kernel_rfl

/-- The kit's wrap with a condition, the world's shape kept. -/
theorem handed_and_shaped {H : Type} {enc : TypeId × Value → H} {a : Assume} {C : Checked} {os : Os} {f : FuncId} {fn : Func} {s : ChangeSpec} {conds : List PathCond} {apart fresh handsOn again : Bool} {X : World → Array Value → Prop}
    (hX : ∀ (w w' : World) (args : Array Value), w.heap = w'.heap → X w args → X w' args)
    (own : ownKnob C.prog.godebug = none) (started : os.Started) (noInit : C.prog.inits.idxOf? f = none) (hfn : C.prog.funcs[f]? = some fn)
    (witness : ∃ (w : World) (tape : Tape) (i : Input), w.os = os ∧ (w.forCall tape i).Shaped C.prog ∧ i.vars = [] ∧ Input.okWide C.prog (w.forCall tape i) .any w.heap.size f i ∧
      ((s.pre enc C.prog fn conds apart (w.forCall tape i).memory i.args ∧ X (w.forCall tape i).memory i.args) ∧ sizedMet enc C.prog fn (OpenSpec.ofChange s) apart (w.forCall tape i).memory i.args) ∧ a.holds C.prog (lone (Frame.enter C.prog f i.args .normal) [] (w.forCall tape i)))
    (contract : ∀ (W : World) (base : Nat) (args : Array Value) (ds gs : List (DataW H)) (before : List MemPlace),
      (∀ (j : Nat) t v, fn.params[j]? = some t → args[j]? = some v → Value.okWide C.prog W .any base t v) →
      DataW.Whole enc C.prog fn.params.toList s.vars apart W args.toList ds gs before →
      (DataW.weightsEach C.prog (fn.params.toList ++ s.plain.varTypes C.prog) (ds ++ gs)).all (· ≤ reachBytes) = true → X W args → W.ShapedOpen C.prog →
      Calls C.prog f args W fun e W' => ∃ v, e = .returned v ∧ s.post enc C.prog fn apart fresh handsOn again W args v W') :
    ReturnsInHanded a C os f .any (fun w args => (s.pre enc C.prog fn conds apart w args ∧ X w args) ∧ sizedMet enc C.prog fn (OpenSpec.ofChange s) apart w args) (s.post enc C.prog fn apart fresh handsOn again) := by
  refine returnsInHanded_of_calls own started noInit witness ?_
  intro w tape i _ hsh _ hok hpre hholds
  obtain ⟨_, _, _, fn', hfn', _, _, _, _, hval⟩ := hok
  have e : fn' = fn := Option.some.inj (hfn'.symm.trans hfn)
  subst e
  obtain ⟨⟨⟨ds, gs, before, hw, hc⟩, hx⟩, hz⟩ := hpre
  have hw' := DataW.Whole.of_heap (w' := w.forCall tape i) (by rfl) hw
  refine (contract (w.forCall tape i) w.heap.size i.args ds gs before hval hw' (hz.weights hw) (hX _ _ _ (by rfl) hx) hsh).mono fun e W' ⟨v, he, hp⟩ => ?_
  subst he
  exact ChangeSpec.post_blind hp

theorem i64_range {a : Int} (h : (Lit.int .i64 a).wf = true) : -9223372036854775808 ≤ a ∧ a ≤ 9223372036854775807 := by
  have e1 : IntKind.i64.min = -9223372036854775808 := by decide
  have e2 : IntKind.i64.max = 9223372036854775807 := by decide
  simp [Lit.wf] at h
  omega
theorem room_of {W : World} (h : W.ShapedOpen Tryz.prog) : 14 < W.heap.size := by
  have hsome : (((begin Tryz.prog (fun _ _ => 0) default).world.heap[14]?).bind Obj.row?).isSome = true := by kernel_rfl
  obtain ⟨⟨z, t⟩, hz⟩ := Option.isSome_iff_exists.1 hsome
  have hn : Tryz.prog.globals.size = 15 := by kernel_rfl
  obtain ⟨cs, hc, _⟩ := h.1 14 z t (by rw [hn]; decide) hz
  rcases Nat.lt_or_ge 14 W.heap.size with hlt | hge
  · exact hlt
  · rw [Array.getElem?_eq_none hge] at hc; cases hc

end Go.Proofs.YtbalpfpcbckghaaGreatDoor
namespace Go.Proofs.YtbalpfpcbckghaaGreatDoor
open Go.ChangeShapes Go.WideShapes Go.ChangeAt Go.RowKit Go.Lib
set_option linter.unusedVariables false

theorem reach_eq : reachBytes = 140737488351232 := by unfold reachBytes; decide
theorem list4 {α : Type} {l : List α} (h : l.length = 4) : ∃ a b c d, l = [a, b, c, d] := by
  match l, h with
  | [a, b, c, d], _ => exact ⟨a, b, c, d, rfl⟩
theorem cells_value : Tryz.prog.cellsOf 24 = 4 := by kernel_rfl
theorem cells_int : Tryz.prog.cellsOf 3 = 1 := by kernel_rfl
theorem cells_int64 : Tryz.prog.cellsOf 2 = 1 := by kernel_rfl
theorem cells_string : Tryz.prog.cellsOf 9 = 1 := by kernel_rfl
theorem cells_values : Tryz.prog.cellsOf 22 = 1 := by kernel_rfl
theorem bytes_value : Tryz.prog.bytesOf 24 = 56 := by kernel_rfl

section
variable {H : Type} {enc : TypeId × Value → H} {W : World} {sp : Nat → Bool} {held : Bool}

theorem trod_val {n : Nat} {cs : List Value} {x : DataW H × List MemPlace} (h : DataW.trod enc Tryz.prog W 0 sp held n 24 cs = some x) :
    ∃ (m : Nat) (k i : Int) (s : ByteArray) (sl : Value) (y : DataW H × List MemPlace), n = m + 1 ∧ cs = [.int .i64 k, .int .i64 i, .string s, sl] ∧ x.1 = .agg [.lit (.int .i64 k), .lit (.int .i64 i), .lit (.string s.data.toList), y.1] ∧
      (-9223372036854775808 ≤ i ∧ i ≤ 9223372036854775807) ∧ DataW.trod enc Tryz.prog W 0 sp held m 22 [sl] = some y := by
  obtain ⟨xs, m, rfl, rfl, hl, hlen, hf⟩ := DataW.trod_struct Tryz.underlying24 h
  rw [cells_value] at hl
  obtain ⟨c0, c1, c2, c3, rfl⟩ := list4 hl
  obtain ⟨y0, y1, y2, y3, rfl⟩ := list4 hlen
  have h0 : DataW.trod enc Tryz.prog W 0 sp held m 3 [c0] = some y0 := by simpa [cells_int] using hf 0 _ rfl
  have h1 : DataW.trod enc Tryz.prog W 0 sp held m 2 [c1] = some y1 := by simpa [cells_int64] using hf 1 _ rfl
  have h2 : DataW.trod enc Tryz.prog W 0 sp held m 9 [c2] = some y2 := by simpa [cells_string] using hf 2 _ rfl
  have h3 : DataW.trod enc Tryz.prog W 0 sp held m 22 [c3] = some y3 := by simpa [cells_values] using hf 3 _ rfl
  obtain ⟨k, e0, rfl, w0⟩ := DataW.trod_int Tryz.underlying3 h0
  obtain ⟨i, e1, rfl, w1⟩ := DataW.trod_int Tryz.underlying2 h1
  obtain ⟨s, e2, rfl, w2⟩ := DataW.trod_string Tryz.underlying9 h2
  injection e0 with e0 _
  injection e1 with e1 _
  injection e2 with e2 _
  subst e0; subst e1; subst e2
  exact ⟨m, k, i, s, c3, y3, rfl, rfl, rfl, i64_range w1, h3⟩

theorem weights_value (k i : Int) (l : List UInt8) (d : DataW H) : DataW.weights Tryz.prog 24 (.agg [.lit (.int .i64 k), .lit (.int .i64 i), .lit (.string l), d]) = l.length :: DataW.weights Tryz.prog 22 d := by
  conv => lhs; unfold DataW.weights
  rw [Tryz.underlying24]
  simp [DataW.weightsEach, DataW.weights]
theorem weights_values (es r : List (DataW H)) : DataW.weights Tryz.prog 22 (.slice es r) = (es.length + r.length) * 56 :: (DataW.weightsAll Tryz.prog 24 es ++ DataW.weightsAll Tryz.prog 24 r) := by
  conv => lhs; unfold DataW.weights
  rw [Tryz.underlying22]
  simp only [bytes_value]
theorem weightsAll_cons (d : DataW H) (r : List (DataW H)) (t : TypeId) : DataW.weightsAll Tryz.prog t (d :: r) = DataW.weights Tryz.prog t d ++ DataW.weightsAll Tryz.prog t r := by rw [DataW.weightsAll]

/-- What comes of a value's reading. -/
def OpenV (W : World) (cs : List Value) : Prop := ∃ (k i : Int) (s : ByteArray) (sub : VL) (sa : Option Addr) (sc : Nat), cs = [.int .i64 k, .int .i64 i, .string s, .slice sa sub.len sc] ∧ (val1 k i s sub).fit ∧ (val1 k i s sub).i64 ∧ sub.len ≤ sc ∧ RpL W (fun b => b < W.heap.size) sub sa
/-- What comes of a list's reading. -/
def OpenL (W : World) (v : Value) : Prop := ∃ (sub : VL) (sa : Option Addr) (sc : Nat), v = .slice sa sub.len sc ∧ sub.fit ∧ sub.i64 ∧ sub.len ≤ 140737488351232 ∧ sub.len ≤ sc ∧ RpL W (fun b => b < W.heap.size) sub sa

theorem open_items {W : World} {m : Nat} (ih : ∀ (cs : List Value) (x : DataW H × List MemPlace), DataW.trod enc Tryz.prog W 0 sp held m 24 cs = some x → (DataW.weights Tryz.prog 24 x.1).all (· ≤ reachBytes) = true → OpenV W cs) (b o : Nat) :
    ∀ (es : List (DataW H × List MemPlace)) (j : Nat), (∀ i, i < es.length → (W.cells? 0 ((⟨b, o, none⟩ : Addr).add ((j + i) * 4)) 4).bind (DataW.trod enc Tryz.prog W 0 sp held m 24) = es[i]?) → (DataW.weightsAll Tryz.prog 24 (es.map (·.1))).all (· ≤ reachBytes) = true →
      ∃ sub : VL, sub.len = es.length ∧ sub.fit ∧ sub.i64 ∧ RpL W (fun b => b < W.heap.size) sub (some ⟨b, o + 4 * j, none⟩)
  | [], j, _, _ => ⟨.nil, rfl, trivial, trivial, trivial⟩
  | e :: r, j, hel, hw => by
    have h0 := hel 0 (by simp)
    rw [Nat.add_zero, List.getElem?_cons_zero, Option.bind_eq_some_iff] at h0
    obtain ⟨cs, hcs, ht⟩ := h0
    rw [List.map_cons, weightsAll_cons, List.all_append, Bool.and_eq_true] at hw
    obtain ⟨k, i, s, sub, sa, sc, rfl, hfit, h64, hsc, hrep⟩ := ih cs e ht hw.1
    obtain ⟨rest, hrl, hrf, hr6, hrr⟩ := open_items ih b o r (j + 1) (fun i hi => by
      have := hel (i + 1) (by simp; omega)
      rw [List.getElem?_cons_succ, show j + (i + 1) = j + 1 + i by omega] at this
      exact this) hw.2
    obtain ⟨_, _, hcell⟩ := World.cells?_some hcs
    have ha : ∀ q, q < 4 → W.cell? ⟨b, o + 4 * j + q, none⟩ = ([.int .i64 k, .int .i64 i, .string s, .slice sa sub.len sc] : List Value)[q]? := fun q hq => by
      have := hcell q hq
      rw [show (((⟨b, o, none⟩ : Addr).add (j * 4)).add q) = ⟨b, o + 4 * j + q, none⟩ by
        rw [Lib.add_plain, Lib.add_plain, Nat.mul_comm]] at this
      exact this
    have hb : b < W.heap.size := by
      have h0 := ha 0 (by omega)
      unfold World.cell? at h0
      rcases Nat.lt_or_ge b W.heap.size with hlt | hge
      · exact hlt
      · simp only [Array.getElem?_eq_none hge] at h0; cases h0
    refine ⟨.cons k i s sub rest, by rw [VL.len, hrl, List.length_cons], ⟨hfit.1, hfit.2.1, hfit.2.2.1, hrf⟩, ⟨h64.1, h64.2.1, h64.2.2.1, hr6⟩, b, o + 4 * j, sa, sc, rfl, hb, ha 0 (by omega), ha 1 (by omega), ha 2 (by omega), ha 3 (by omega), hsc, hrep, ?_⟩
    rw [show o + 4 * j + 4 = o + 4 * (j + 1) by omega]
    exact hrr

set_option maxRecDepth 100000 in
theorem open_list {W : World} {m : Nat} (ih : ∀ m', m' < m → ∀ (cs : List Value) (x : DataW H × List MemPlace), DataW.trod enc Tryz.prog W 0 sp held m' 24 cs = some x → (DataW.weights Tryz.prog 24 x.1).all (· ≤ reachBytes) = true → OpenV W cs) {v : Value} {y : DataW H × List MemPlace}
    (h : DataW.trod enc Tryz.prog W 0 sp held m 22 [v] = some y) (hw : (DataW.weights Tryz.prog 22 y.1).all (· ≤ reachBytes) = true) : OpenL W v := by
  rcases DataW.trod_slice Tryz.underlying22 h with ⟨hcs, rfl⟩ | ⟨a, len, cap, elems, rest, n, rfl, hcs, rfl, _, hlc, _, hlen, hel, _, _⟩
  · injection hcs with hcs _
    exact ⟨.nil, none, 0, hcs, trivial, trivial, by decide, Nat.le_refl _, trivial⟩
  · injection hcs with hcs _
    subst hcs
    simp only [weights_values, List.all_cons, List.all_append, Bool.and_eq_true, decide_eq_true_eq, List.length_map] at hw
    obtain ⟨hw1, hw2, _⟩ := hw
    have hrb := reach_eq
    rw [hrb] at hw1
    by_cases h0 : len = 0
    · subst h0
      exact ⟨.nil, some a, cap, rfl, trivial, trivial, by decide, Nat.zero_le _, trivial⟩
    obtain ⟨b, o, spot⟩ := a
    have hspot : spot = none := by
      have e0 := hel 0 (by omega)
      have : ∃ y0, elems[0]? = some y0 := ⟨elems[0], List.getElem?_eq_getElem (by omega)⟩
      obtain ⟨y0, hy0⟩ := this
      rw [hy0, Option.bind_eq_some_iff] at e0
      obtain ⟨cs, hcs, _⟩ := e0
      rw [cells_value] at hcs
      obtain ⟨_, hl4, hcell⟩ := World.cells?_some hcs
      have g0 := hcell 0 (by omega)
      rw [List.getElem?_eq_getElem (by omega)] at g0
      simpa [Addr.add] using World.cell?_spot g0
    subst hspot
    obtain ⟨sub, hsl, hsf, hs6, hrep⟩ := open_items (ih n (by omega)) b o elems 0 (fun i hi => by
      have := hel i (by omega)
      rw [cells_value] at this
      rw [Nat.zero_add]; exact this) hw2
    rw [hlen] at hsl
    refine ⟨sub, some ⟨b, o, none⟩, cap, by rw [hsl], hsf, hs6, by omega, by omega, ?_⟩
    rw [show o = o + 4 * 0 by omega]; exact hrep

theorem open_val {W : World} : ∀ (n : Nat) (cs : List Value) (x : DataW H × List MemPlace), DataW.trod enc Tryz.prog W 0 sp held n 24 cs = some x → (DataW.weights Tryz.prog 24 x.1).all (· ≤ reachBytes) = true → OpenV W cs := by
  intro n
  induction n using Nat.strongRecOn with
  | _ n ih =>
    intro cs x h hw
    obtain ⟨m, k, i, s, sl, y, rfl, rfl, hx, hi, hy⟩ := trod_val h
    rw [hx, weights_value, List.all_cons, Bool.and_eq_true, decide_eq_true_eq] at hw
    have hrb := reach_eq
    rw [hrb] at hw
    have hs : s.data.toList.length = s.size := by rw [Array.length_toList]; rfl
    obtain ⟨sub, sa, sc, rfl, hsf, hs6, hsl, hsc, hrep⟩ := open_list (m := m) (fun m' hm' => ih m' (by omega)) hy (by rw [hrb]; exact hw.2)
    exact ⟨k, i, s, sub, sa, sc, rfl, ⟨by omega, hsl, hsf, trivial⟩, ⟨hi.1, hi.2, hs6, trivial⟩, hsc, hrep⟩
end

section
variable {H : Type} {enc : TypeId × Value → H} {W : World} {sp : Nat → Bool} {held : Bool}
set_option maxRecDepth 100000 in
/-- A value that was handed in. -/
theorem open_value {r : Reach} {b0 : Nat} {v : Value} {d : DataW H} {p : List MemPlace} (hv : Value.okWide Tryz.prog W r b0 24 v) (h : DataW.Trod enc Tryz.prog W 0 sp held 24 v d p)
    (hw : (DataW.weights Tryz.prog 24 d).all (· ≤ reachBytes) = true) :
    ∃ (k n : Int) (s : ByteArray) (sub : VL) (sa : Option Addr) (sc : Nat), v = .agg #[.int .i64 k, .int .i64 n, .string s, .slice sa sub.len sc] ∧ (val1 k n s sub).fit ∧ (val1 k n s sub).i64 ∧ sub.len ≤ sc ∧ RpL W (fun b => b < W.heap.size) sub sa := by
  obtain ⟨cs, rfl, _⟩ := okWide_struct Tryz.underlying24 hv
  obtain ⟨fuel, hf⟩ := h
  obtain ⟨k, n, s, sub, sa, sc, hcs, rest⟩ := open_val fuel _ _ hf hw
  refine ⟨k, n, s, sub, sa, sc, ?_, rest⟩
  rw [← Array.toArray_toList (xs := cs)]
  exact congrArg (fun l : List Value => Value.agg l.toArray) hcs
theorem open_values {d : DataW H} {v : Value} {p : List MemPlace} (hv : v.cells.toList = [v]) (h : DataW.Trod enc Tryz.prog W 0 sp held 22 v d p)
    (hw : (DataW.weights Tryz.prog 22 d).all (· ≤ reachBytes) = true) : OpenL W v := by
  obtain ⟨fuel, hf⟩ := h
  rw [hv] at hf
  exact open_list (m := fuel) (fun m' _ => open_val m') hf hw
end

set_option maxRecDepth 100000 in
theorem cells_slice {W : World} {r : Reach} {b0 : Nat} {t e : TypeId} {v : Value} (ht : Tryz.prog.underlying t = some (.slice e)) (h : Value.okWide Tryz.prog W r b0 t v) : v.cells.toList = [v] := by
  obtain ⟨a, len, cap, rfl⟩ := okWide_slice ht h
  rfl
theorem weights_head {H : Type} {t : TypeId} {ts : List TypeId} {d : DataW H} {r : List (DataW H)} {p : Nat → Bool} (h : (DataW.weightsEach Tryz.prog (t :: ts) (d :: r)).all p = true) : (DataW.weights Tryz.prog t d).all p = true ∧ (DataW.weightsEach Tryz.prog ts r).all p = true := by
  rw [DataW.weightsEach, List.all_append, Bool.and_eq_true] at h; exact h
theorem laid_out : laidOutB Tryz.prog = true := by kernel_rfl
end Go.Proofs.YtbalpfpcbckghaaGreatDoor
