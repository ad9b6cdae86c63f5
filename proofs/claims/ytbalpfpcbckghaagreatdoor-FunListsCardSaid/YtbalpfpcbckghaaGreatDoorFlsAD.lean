/- Contracts of the functions that the statement reaches, and the plain mathematics beneath: several texts joined. -/
import Derived.Laws.ResultCell
import Derived.StillTailTactics
import Derived.Lib.SmallJoins
import Derived.Lib.AppendIntMem
import Derived.Lib.ReplaceLaws
import Derived.Lib.Join
import Derived.Test.YtbalpfpcbckghaaGreatDoorFlsAA
import Derived.Test.YtbalpfpcbckghaaGreatDoorShelf
namespace Go.Proofs.YtbalpfpcbckghaaGreatDoor
open Go.RowKit Go.Lib
set_option linter.unusedVariables false

/-- How many a text takes. -/
def mOf (k : Int) (s : ByteArray) : Int := if k = 2 then s.size else 0
/-- What is amiss with a list of values, and what is left. -/
def walkL : VL → Int → Int → Nat × Int
  | .nil, _, left => (0, left)
  | .cons k n s sub rest, deep, left =>
    let r : Nat × Int := if 40 < deep then (112, left) else if left ≤ mOf k s then (104, left) else if ownE k n s sub.len = 0 then walkL sub (deep + 1) (left - (1 + mOf k s)) else (ownE k n s sub.len, left - (1 + mOf k s))
    if r.1 = 0 then walkL rest deep r.2 else r
/-- The same of one value. -/
def walk1 (k n : Int) (s : ByteArray) (sub : VL) (deep left : Int) : Nat × Int :=
  if 40 < deep then (112, left) else if left ≤ mOf k s then (104, left) else if ownE k n s sub.len = 0 then walkL sub (deep + 1) (left - (1 + mOf k s)) else (ownE k n s sub.len, left - (1 + mOf k s))
theorem walkL_cons (k n : Int) (s : ByteArray) (sub rest : VL) (deep left : Int) :
    walkL (.cons k n s sub rest) deep left = if (walk1 k n s sub deep left).1 = 0 then walkL rest deep (walk1 k n s sub deep left).2 else walk1 k n s sub deep left := rfl

theorem mOf_ge (k : Int) (s : ByteArray) : 0 ≤ mOf k s := by unfold mOf; split <;> omega
theorem walkL_range : ∀ (l : VL) (deep left : Int), 0 ≤ left → 0 ≤ (walkL l deep left).2 ∧ (walkL l deep left).2 ≤ left
  | .nil, deep, left, h => ⟨h, Int.le_refl _⟩
  | .cons k n s sub rest, deep, left, h => by
    have hm := mOf_ge k s
    have h1 : 0 ≤ (walk1 k n s sub deep left).2 ∧ (walk1 k n s sub deep left).2 ≤ left := by
      unfold walk1
      split
      · exact ⟨h, Int.le_refl _⟩
      · split
        · exact ⟨h, Int.le_refl _⟩
        · split
          · have := walkL_range sub (deep + 1) (left - (1 + mOf k s)) (by omega); omega
          · simp only; omega
    rw [walkL_cons]
    split
    · have := walkL_range rest deep (walk1 k n s sub deep left).2 h1.1; omega
    · exact h1
theorem walk1_range (k n : Int) (s : ByteArray) (sub : VL) (deep left : Int) (h : 0 ≤ left) : 0 ≤ (walk1 k n s sub deep left).2 ∧ (walk1 k n s sub deep left).2 ≤ left := by
  have hm := mOf_ge k s
  unfold walk1
  split
  · exact ⟨h, Int.le_refl _⟩
  · split
    · exact ⟨h, Int.le_refl _⟩
    · split
      · have := walkL_range sub (deep + 1) (left - (1 + mOf k s)) (by omega); omega
      · simp only; omega

/-- Values that fit into memory. -/
def VL.fit : VL → Prop
  | .nil => True
  | .cons _ _ s sub rest => s.size ≤ 140737488351232 ∧ sub.len ≤ 140737488351232 ∧ sub.fit ∧ rest.fit
theorem VL.fit_drop : ∀ (i : Nat) (l : VL), l.fit → (l.drop i).fit
  | 0, l, h => by rw [VL.drop]; exact h
  | i + 1, .nil, h => h
  | i + 1, .cons _ _ _ _ r, h => VL.fit_drop i r h.2.2.2
def VL.size : VL → Nat
  | .nil => 0
  | .cons _ _ _ sub rest => sub.size + rest.size + 1
theorem VL.size_drop : ∀ (i : Nat) (l : VL), (l.drop i).size ≤ l.size
  | 0, l => by rw [VL.drop]; exact Nat.le_refl _
  | i + 1, .nil => Nat.le_refl _
  | i + 1, .cons _ _ _ sub r => by have := VL.size_drop i r; simp only [VL.drop, VL.size]; omega

/-- What is left: one number in a block of its own. -/
def LfAt (w : World) (L : Nat) (left : Int) : Prop := w.heap[L]? = some (.cells #[.int .i64 left] 3 (0, 0))
section
variable {w w' : World} {L : Nat} {left : Int}
theorem LfAt.lt (h : LfAt w L left) : L < w.heap.size := by
  rcases Nat.lt_or_ge L w.heap.size with hlt | hge
  · exact hlt
  · unfold LfAt at h; rw [Array.getElem?_eq_none hge] at h; cases h
theorem LfAt.c0 (h : LfAt w L left) : w.cell? ⟨L, 0, none⟩ = some (.int .i64 left) := cell_of_row w L 0 _ _ _ h
theorem LfAt.fr (h : LfAt w L left) : w.frozen? ⟨L, 0, none⟩ = false := by unfold LfAt at h; simp [World.frozen?, h]
theorem LfAt.alloc (h : LfAt w L left) (o : Obj) : LfAt (w.alloc o) L left := (Below.heap_alloc w o L h.lt).trans h
theorem LfAt.set (h : LfAt w L left) (n : Int) : LfAt (w.setCell ⟨L, 0, none⟩ (.int .i64 n)) L n := by
  unfold LfAt at h ⊢; simp [World.setCell, Array.getElem?_modify, h]
theorem LfAt.below (h : LfAt w L left) {B : Nat} (hb : Below B w w') (hL : L < B) : LfAt w' L left := (hb.block L hL).trans h
end
theorem only_alloc {a w : World} {row : Option Nat} (h : a.grownBy w row) (o : Obj) : a.grownBy (w.alloc o) row :=
  ⟨h.os, h.tape, h.output, Nat.le_trans h.size (by simp), fun i hi hne => (Below.heap_alloc w o i (Nat.lt_of_lt_of_le hi h.size)).trans (h.block i hi hne)⟩

theorem StB.below' {w w' : World} {g : Nat} {a b c d : Value} (h : StB w g a b c d) (hb : Below w.heap.size w w') : StB w' g a b c d := (hb.block g h.lt).trans h
theorem only_below' {a w w' : World} {row : Option Nat} (h : Below w.heap.size w w') (hz : a.heap.size ≤ w.heap.size) : w.grownBy w' row := only_below h _

def PWalk (w : World) (L : Nat) (ea : Nat → Addr) (r : Nat × Int) (e : Ending) (w' : World) : Prop := e = .returned (errV ea r.1) ∧ LfAt w' L r.2 ∧ w.grownBy w' (some L)

def WalkC (N : Nat) : Prop := ∀ (k n : Int) (s : ByteArray) (sub : VL) (sa : Option Addr) (sc : Nat) (deep left : Int) (L : Nat) (ea : Nat → Addr) (w : World), sub.size < N → ErrsAt w ea → LfAt w L left → 14 ≤ L →
  s.size ≤ 140737488351232 → sub.len ≤ 140737488351232 → sub.fit → sub.len ≤ sc → RpL w (fun b => b < w.heap.size ∧ b ≠ L) sub sa → 1 ≤ deep → deep ≤ 41 → 0 ≤ left → left ≤ 4096 →
  Calls Tryz.prog 108 #[.agg #[.int .i64 k, .int .i64 n, .string s, .slice sa sub.len sc], .int .i64 deep, .pointer (some ⟨L, 0, none⟩)] w (PWalk w L ea (walk1 k n s sub deep left))

set_option maxRecDepth 100000 in
set_option maxHeartbeats 2000000 in
theorem walk_step (N : Nat) (ih : ∀ N', N' < N → WalkC N') : WalkC N := by
  intro k n s sub sa sc deep left L ea w hN he hlf hL hss hsl hfit hsc hrep hd1 hd2 hl1 hl2
  have hLl := hlf.lt
  obtain ⟨wa, hwa⟩ : ∃ wa, wa = w.alloc (.cells #[.int .i64 k, .int .i64 n, .string s, .slice sa sub.len sc] 24) := ⟨_, rfl⟩
  have hba : Below w.heap.size w wa := by rw [hwa]; exact (Below.refl _ _).alloc (Nat.le_refl _) _
  have hV : StB wa w.heap.size (.int .i64 k) (.int .i64 n) (.string s) (.slice sa sub.len sc) := by rw [hwa]; exact StB.new w _ _ _ _
  have hlfa : LfAt wa L left := hlf.below hba hLl
  have hea : ErrsAt wa ea := he.below hba (Nat.le_of_lt he.room)
  have v0 := hV.c0; have v1 := hV.c1; have v2 := hV.c2; have v3 := hV.c3
  have l0 := hlfa.c0
  have lf0 := hlfa.fr
  have eD := hea.deep
  have eM := hea.many
  have HBA := Lib.hid hba
  have HV := Lib.hid hV
  have HLF := Lib.hid hlfa
  have HE := Lib.hid hea
  clear hV hlfa hea
  subst hwa
  clear hba
  by_cases hdp : 40 < deep
  · have HS := Lib.hid (show walk1 k n s sub deep left = (112, left) by unfold walk1; rw [if_pos hdp])
    go_enter Tryz.func108, Tryz.ntmps108
    go_wp2_with fail
    go_ret
    rw [HS.out]
    exact ⟨rfl, HLF.out, only_below HBA.out _⟩
  have hdp' : deep ≤ 40 := by omega
  clear hdp
  obtain ⟨m, hm⟩ : ∃ m : Int, m = mOf k s := ⟨_, rfl⟩
  have hm0 : 0 ≤ m := by rw [hm, mOf]; split <;> omega
  have hm1 : m ≤ 140737488351232 := by rw [hm, mOf]; split <;> omega
  by_cases hlm : left ≤ m
  · have HS := Lib.hid (show walk1 k n s sub deep left = (104, left) by unfold walk1; rw [if_neg (by omega), ← hm, if_pos hlm])
    by_cases hk : k = 2
    · subst hk
      have hlm' : left ≤ (s.size : Int) := by rw [hm, mOf, if_pos rfl] at hlm; exact hlm
      clear hm hlm hm0 hm1
      go_enter Tryz.func108, Tryz.ntmps108
      go_wp2_with fail
      go_ret
      rw [HS.out]
      exact ⟨rfl, HLF.out, only_below HBA.out _⟩
    · have hk' : (k == 2) = false := by rw [beq_eq_false_iff_ne]; exact hk
      have hlm' : left ≤ 0 := by rw [hm, mOf, if_neg hk] at hlm; exact hlm
      clear hm hlm hm0 hm1 hk
      go_enter Tryz.func108, Tryz.ntmps108
      go_wp2_with fail
      go_ret
      rw [HS.out]
      exact ⟨rfl, HLF.out, only_below HBA.out _⟩
  have hlm' : m < left := by omega
  clear hlm
  have HS := Lib.hid (show walk1 k n s sub deep left = if ownE k n s sub.len = 0 then walkL sub (deep + 1) (left - (1 + m)) else (ownE k n s sub.len, left - (1 + m)) by unfold walk1; rw [if_neg (by omega), ← hm, if_neg (by omega)])
  have HOWN := Lib.hid (fun W hW => own_c k n s sa sub.len sc ea W hW hss)
  by_cases hk : k = 2
  · subst hk
    obtain rfl : m = (s.size : Int) := by rw [hm, mOf, if_pos rfl]
    clear hm
    obtain ⟨w1, hw1⟩ : ∃ w1, w1 = (w.setCell ⟨L, 0, none⟩ (.int .i64 (left - (1 + (s.size : Int))))).alloc (.cells #[.int .i64 2, .int .i64 n, .string s, .slice sa sub.len sc] 24) := ⟨_, rfl⟩
    have HE1 := Lib.hid (show ErrsAt w1 ea by rw [hw1]; exact he.keep (fun b hb => (Below.heap_alloc _ _ _ (by have := he.room; simp [World.setCell]; omega)).trans (Below.heap_setCell _ _ _ _ (by show b ≠ L; omega))) (by simp [World.setCell]))
    have HL1 := Lib.hid (show LfAt w1 L (left - (1 + (s.size : Int))) by rw [hw1]; exact (hlf.set _).alloc _)
    have HV1 := Lib.hid (show StB w1 w.heap.size (.int .i64 2) (.int .i64 n) (.string s) (.slice sa sub.len sc) by rw [hw1]; have := StB.new (w.setCell ⟨L, 0, none⟩ (.int .i64 (left - (1 + (s.size : Int))))) (.int .i64 2) (.int .i64 n) (.string s) (.slice sa sub.len sc); simpa [World.setCell] using this)
    have HG1 := Lib.hid (show w.grownBy w1 (some L) by rw [hw1]; exact only_alloc (only_setCell (only_refl w _) (.inl rfl) _) _)
    have hz1 : w1.heap.size = w.heap.size + 1 := by rw [hw1]; simp [World.setCell]
    have HZ1 := Lib.hid hz1
    have HW1 := Lib.hid hw1
    have u0 := HV1.out.c0; have u1 := HV1.out.c1; have u2 := HV1.out.c2; have u3 := HV1.out.c3
    have u3' := u3
    rw [hw1] at u0 u1 u2 u3
    clear hw1 hz1
    go_enter Tryz.func108, Tryz.ntmps108
    go_wp2_with fail
    rw [← HW1.out]
    clear HW1 u0 u1 u2 u3 v0 v1 v2 v3 l0 lf0 eD eM
    refine (HOWN.out _ HE1.out).mono ?_
    rintro e w2 ⟨rfl, hb2⟩
    have HV2 := Lib.hid (HV1.out.below' hb2)
    have HL2 := Lib.hid (HL1.out.below hb2 HL1.out.lt)
    have HE2 := Lib.hid (HE1.out.below hb2 (Nat.le_of_lt HE1.out.room))
    have HG2 := Lib.hid (only_trans HG1.out (only_below' hb2 HG1.out.size))
    have hz2 : w.heap.size < w2.heap.size := by have := hb2.size; have := HZ1.out; omega
    have x3 := HV2.out.c3
    clear hb2
    obtain ⟨lf, hlf2⟩ : ∃ lf : Int, lf = left - (1 + (s.size : Int)) := ⟨_, rfl⟩
    have hlf0 : 0 ≤ lf := by omega
    have hlf4 : lf ≤ 4096 := by omega
    rw [← hlf2] at HL2 HS
    clear hlf2
    by_cases hoe : ownE 2 n s sub.len = 0
    · rw [if_pos hoe] at HS
      rw [hoe]
      rw [show errV ea 0 = Value.nilIface from rfl]
      have HRP := Lib.hid hrep
      clear hrep
      go_wp2_with fail
      go_loopg [42] sub.len (fun kk v wr => ∃ (i : Nat) (l : Int), v = .int .i64 i ∧ i + kk = sub.len ∧ LfAt wr L l ∧ ErrsAt wr ea ∧ w2.grownBy wr (some L) ∧ 0 ≤ l ∧ l ≤ 4096 ∧ Hid (walkL (sub.drop i) (deep + 1) l = walkL sub (deep + 1) lf))
      case atStart => exact ⟨0, lf, rfl, by omega, HL2.out, HE2.out, only_refl _ _, hlf0, hlf4, by show walkL (sub.drop 0) _ _ = _; rw [VL.drop]⟩
      case round =>
        obtain ⟨i, l, rfl, hik, hlr, her, hgr, hl0, hl4, hwl⟩ := hrel
        by_cases hi : i < sub.len
        · obtain ⟨g, rfl⟩ : ∃ g, gk = g + 1 := ⟨gk - 1, by omega⟩
          obtain ⟨k', n', s', sub', hd⟩ := VL.drop_of_lt i sub hi
          have hrw := HRP.out.grown (only_trans HG2.out hgr) (fun b hb => ⟨hb.1, fun e => by injection e with e; exact hb.2 e⟩)
          obtain ⟨b, o, hsa⟩ : ∃ b o, sa = some ⟨b, o, none⟩ := by
            cases sub with
            | nil => simp [VL.len] at hi
            | cons _ _ _ _ _ => obtain ⟨b, o, _, _, h, _⟩ := hrw; exact ⟨b, o, h⟩
          rw [hsa] at hrw
          have hdr := RpL.drop i sub b o hrw
          rw [hd] at hdr
          obtain ⟨b', o', sa', sc', hA, hSb, c0, c1, c2, c3, hcl, hrs, _⟩ := hdr
          injection hA with hA
          injection hA with hA1 hA2
          subst hA1
          subst hA2
          have hfd := VL.fit_drop i sub hfit
          rw [hd] at hfd
          obtain ⟨hf1, hf2, hf3, _⟩ := hfd
          have hszd := VL.size_drop i sub
          rw [hd] at hszd
          simp only [VL.size] at hszd
          have HWL := Lib.hid hwl
          have HDD := Lib.hid hd
          have HSA := Lib.hid hsa
          subst hsa
          have HRS := Lib.hid hrs
          have HLR := Lib.hid hlr
          have HER := Lib.hid her
          have HGR := Lib.hid hgr
          clear hwl hd hrw hrs hlr her hgr
          rw [Nat.mul_comm 4 i] at c0 c1 c2 c3
          have IHC := Lib.hid (ih (sub'.size + 1) (by omega) k' n' s' sub' sa' sc' (deep + 1) l L ea (wr.alloc (.cells #[.int .i64 k', .int .i64 n', .string s', .slice sa' sub'.len sc'] 24)) (by omega)
            (HER.out.keep (fun b hb => Below.heap_alloc _ _ _ (by have := HER.out.room; omega)) (by simp)) (HLR.out.alloc _) hL hf1 hf2 hf3 hcl
            (HRS.out.keep (fun b hb => Below.heap_alloc _ _ _ (by have := hb.1; have := HG2.out.size; have := HGR.out.size; omega)) (fun b hb => ⟨by have := hb.1; have := HG2.out.size; have := HGR.out.size; simp; omega, hb.2⟩)) (by omega) (by omega) hl0 hl4)
          have HST := Lib.hid (show walkL (sub.drop i) (deep + 1) l = if (walk1 k' n' s' sub' (deep + 1) l).1 = 0 then walkL (sub.drop (i + 1)) (deep + 1) (walk1 k' n' s' sub' (deep + 1) l).2 else walk1 k' n' s' sub' (deep + 1) l by rw [HDD.out, walkL_cons])
          have hrng := walk1_range k' n' s' sub' (deep + 1) l hl0
          obtain ⟨rc, rl, hrr⟩ : ∃ rc rl, walk1 k' n' s' sub' (deep + 1) l = (rc, rl) := ⟨_, _, rfl⟩
          rw [hrr] at IHC HST hrng
          simp only at hrng
          obtain ⟨hrg1, hrg2⟩ := hrng
          clear hrr
          go_wp2_with fail
          refine IHC.out.mono ?_
          rintro e w5 ⟨rfl, hl5, hg5⟩
          have HL5 := Lib.hid hl5
          have HG5 := Lib.hid (only_trans (only_alloc HGR.out _) (show (wr.alloc (.cells #[.int .i64 k', .int .i64 n', .string s', .slice sa' sub'.len sc'] 24)).grownBy w5 (some L) from hg5))
          have HE5 := Lib.hid (HER.out.keep (w' := w5) (fun b hb => (hg5.block b (by have := HER.out.room; simp; omega) (fun e => by injection e with e; omega)).trans (Below.heap_alloc _ _ _ (by have := HER.out.room; omega))) (Nat.le_trans (by simp) hg5.size))
          clear hl5 hg5
          by_cases hrc : rc = 0
          · subst hrc
            have HN := Lib.hid (HST.out.symm.trans HWL.out)
            rw [if_pos rfl] at HN
            rw [show errV ea 0 = Value.nilIface from rfl]
            go_wp2_with fail
            go_roundg g
            case measure => omega
            case rel => exact ⟨i + 1, rl, by go_num, by omega, HL5.out, HE5.out, HG5.out, hrg1, by omega, HN.out⟩
          · have HN := Lib.hid (HST.out.symm.trans HWL.out)
            rw [if_neg hrc] at HN
            have HERR := Lib.hid (show errV ea rc = .iface 224 (.pointer (some (ea rc))) by unfold errV; rw [if_neg hrc])
            rw [HERR.out]
            go_wp2_with fail
            go_ret
            rw [HS.out, ← HN.out, ← HERR.out]
            exact ⟨rfl, HL5.out, only_trans HG2.out HG5.out⟩
        · obtain rfl : i = sub.len := by omega
          rw [VL.drop_len] at hwl
          have HN := Lib.hid hwl
          have HLR := Lib.hid hlr
          have HGR := Lib.hid hgr
          clear hwl hlr hgr her
          go_wp2_with fail
          go_ret
          rw [HS.out, ← HN.out]
          exact ⟨rfl, HLR.out, only_trans HG2.out HGR.out⟩
    · rw [if_neg hoe] at HS
      obtain ⟨oc, hoc⟩ : ∃ oc, oc = ownE 2 n s sub.len := ⟨_, rfl⟩
      rw [← hoc] at HS hoe ⊢
      clear hoc
      have HER := Lib.hid (show errV ea oc = .iface 224 (.pointer (some (ea oc))) by unfold errV; rw [if_neg hoe])
      rw [HER.out]
      go_wp2_with fail
      go_ret
      rw [HS.out, ← HER.out]
      exact ⟨rfl, HL2.out, HG2.out⟩
  · obtain rfl : m = 0 := by rw [hm, mOf, if_neg hk]
    have hk' : (k == 2) = false := by rw [beq_eq_false_iff_ne]; exact hk
    rw [show left - (1 + 0) = left - 1 from by omega] at HS
    clear hm hk
    obtain ⟨w1, hw1⟩ : ∃ w1, w1 = (w.setCell ⟨L, 0, none⟩ (.int .i64 (left - 1))).alloc (.cells #[.int .i64 k, .int .i64 n, .string s, .slice sa sub.len sc] 24) := ⟨_, rfl⟩
    have HE1 := Lib.hid (show ErrsAt w1 ea by rw [hw1]; exact he.keep (fun b hb => (Below.heap_alloc _ _ _ (by have := he.room; simp [World.setCell]; omega)).trans (Below.heap_setCell _ _ _ _ (by show b ≠ L; omega))) (by simp [World.setCell]))
    have HL1 := Lib.hid (show LfAt w1 L (left - 1) by rw [hw1]; exact (hlf.set _).alloc _)
    have HV1 := Lib.hid (show StB w1 w.heap.size (.int .i64 k) (.int .i64 n) (.string s) (.slice sa sub.len sc) by rw [hw1]; have := StB.new (w.setCell ⟨L, 0, none⟩ (.int .i64 (left - 1))) (.int .i64 k) (.int .i64 n) (.string s) (.slice sa sub.len sc); simpa [World.setCell] using this)
    have HG1 := Lib.hid (show w.grownBy w1 (some L) by rw [hw1]; exact only_alloc (only_setCell (only_refl w _) (.inl rfl) _) _)
    have hz1 : w1.heap.size = w.heap.size + 1 := by rw [hw1]; simp [World.setCell]
    have HZ1 := Lib.hid hz1
    have HW1 := Lib.hid hw1
    have u0 := HV1.out.c0; have u1 := HV1.out.c1; have u2 := HV1.out.c2; have u3 := HV1.out.c3
    have u3' := u3
    rw [hw1] at u0 u1 u2 u3
    clear hw1 hz1
    go_enter Tryz.func108, Tryz.ntmps108
    go_wp2_with fail
    rw [← HW1.out]
    clear HW1 u0 u1 u2 u3 v0 v1 v2 v3 l0 lf0 eD eM
    refine (HOWN.out _ HE1.out).mono ?_
    rintro e w2 ⟨rfl, hb2⟩
    have HV2 := Lib.hid (HV1.out.below' hb2)
    have HL2 := Lib.hid (HL1.out.below hb2 HL1.out.lt)
    have HE2 := Lib.hid (HE1.out.below hb2 (Nat.le_of_lt HE1.out.room))
    have HG2 := Lib.hid (only_trans HG1.out (only_below' hb2 HG1.out.size))
    have hz2 : w.heap.size < w2.heap.size := by have := hb2.size; have := HZ1.out; omega
    have x3 := HV2.out.c3
    clear hb2
    obtain ⟨lf, hlf2⟩ : ∃ lf : Int, lf = left - 1 := ⟨_, rfl⟩
    have hlf0 : 0 ≤ lf := by omega
    have hlf4 : lf ≤ 4096 := by omega
    rw [← hlf2] at HL2 HS
    clear hlf2
    by_cases hoe : ownE k n s sub.len = 0
    · rw [if_pos hoe] at HS
      rw [hoe]
      rw [show errV ea 0 = Value.nilIface from rfl]
      have HRP := Lib.hid hrep
      clear hrep
      go_wp2_with fail
      go_loopg [42] sub.len (fun kk v wr => ∃ (i : Nat) (l : Int), v = .int .i64 i ∧ i + kk = sub.len ∧ LfAt wr L l ∧ ErrsAt wr ea ∧ w2.grownBy wr (some L) ∧ 0 ≤ l ∧ l ≤ 4096 ∧ Hid (walkL (sub.drop i) (deep + 1) l = walkL sub (deep + 1) lf))
      case atStart => exact ⟨0, lf, rfl, by omega, HL2.out, HE2.out, only_refl _ _, hlf0, hlf4, by show walkL (sub.drop 0) _ _ = _; rw [VL.drop]⟩
      case round =>
        obtain ⟨i, l, rfl, hik, hlr, her, hgr, hl0, hl4, hwl⟩ := hrel
        by_cases hi : i < sub.len
        · obtain ⟨g, rfl⟩ : ∃ g, gk = g + 1 := ⟨gk - 1, by omega⟩
          obtain ⟨k', n', s', sub', hd⟩ := VL.drop_of_lt i sub hi
          have hrw := HRP.out.grown (only_trans HG2.out hgr) (fun b hb => ⟨hb.1, fun e => by injection e with e; exact hb.2 e⟩)
          obtain ⟨b, o, hsa⟩ : ∃ b o, sa = some ⟨b, o, none⟩ := by
            cases sub with
            | nil => simp [VL.len] at hi
            | cons _ _ _ _ _ => obtain ⟨b, o, _, _, h, _⟩ := hrw; exact ⟨b, o, h⟩
          rw [hsa] at hrw
          have hdr := RpL.drop i sub b o hrw
          rw [hd] at hdr
          obtain ⟨b', o', sa', sc', hA, hSb, c0, c1, c2, c3, hcl, hrs, _⟩ := hdr
          injection hA with hA
          injection hA with hA1 hA2
          subst hA1
          subst hA2
          have hfd := VL.fit_drop i sub hfit
          rw [hd] at hfd
          obtain ⟨hf1, hf2, hf3, _⟩ := hfd
          have hszd := VL.size_drop i sub
          rw [hd] at hszd
          simp only [VL.size] at hszd
          have HWL := Lib.hid hwl
          have HDD := Lib.hid hd
          have HSA := Lib.hid hsa
          subst hsa
          have HRS := Lib.hid hrs
          have HLR := Lib.hid hlr
          have HER := Lib.hid her
          have HGR := Lib.hid hgr
          clear hwl hd hrw hrs hlr her hgr
          rw [Nat.mul_comm 4 i] at c0 c1 c2 c3
          have IHC := Lib.hid (ih (sub'.size + 1) (by omega) k' n' s' sub' sa' sc' (deep + 1) l L ea (wr.alloc (.cells #[.int .i64 k', .int .i64 n', .string s', .slice sa' sub'.len sc'] 24)) (by omega)
            (HER.out.keep (fun b hb => Below.heap_alloc _ _ _ (by have := HER.out.room; omega)) (by simp)) (HLR.out.alloc _) hL hf1 hf2 hf3 hcl
            (HRS.out.keep (fun b hb => Below.heap_alloc _ _ _ (by have := hb.1; have := HG2.out.size; have := HGR.out.size; omega)) (fun b hb => ⟨by have := hb.1; have := HG2.out.size; have := HGR.out.size; simp; omega, hb.2⟩)) (by omega) (by omega) hl0 hl4)
          have HST := Lib.hid (show walkL (sub.drop i) (deep + 1) l = if (walk1 k' n' s' sub' (deep + 1) l).1 = 0 then walkL (sub.drop (i + 1)) (deep + 1) (walk1 k' n' s' sub' (deep + 1) l).2 else walk1 k' n' s' sub' (deep + 1) l by rw [HDD.out, walkL_cons])
          have hrng := walk1_range k' n' s' sub' (deep + 1) l hl0
          obtain ⟨rc, rl, hrr⟩ : ∃ rc rl, walk1 k' n' s' sub' (deep + 1) l = (rc, rl) := ⟨_, _, rfl⟩
          rw [hrr] at IHC HST hrng
          simp only at hrng
          obtain ⟨hrg1, hrg2⟩ := hrng
          clear hrr
          go_wp2_with fail
          refine IHC.out.mono ?_
          rintro e w5 ⟨rfl, hl5, hg5⟩
          have HL5 := Lib.hid hl5
          have HG5 := Lib.hid (only_trans (only_alloc HGR.out _) (show (wr.alloc (.cells #[.int .i64 k', .int .i64 n', .string s', .slice sa' sub'.len sc'] 24)).grownBy w5 (some L) from hg5))
          have HE5 := Lib.hid (HER.out.keep (w' := w5) (fun b hb => (hg5.block b (by have := HER.out.room; simp; omega) (fun e => by injection e with e; omega)).trans (Below.heap_alloc _ _ _ (by have := HER.out.room; omega))) (Nat.le_trans (by simp) hg5.size))
          clear hl5 hg5
          by_cases hrc : rc = 0
          · subst hrc
            have HN := Lib.hid (HST.out.symm.trans HWL.out)
            rw [if_pos rfl] at HN
            rw [show errV ea 0 = Value.nilIface from rfl]
            go_wp2_with fail
            go_roundg g
            case measure => omega
            case rel => exact ⟨i + 1, rl, by go_num, by omega, HL5.out, HE5.out, HG5.out, hrg1, by omega, HN.out⟩
          · have HN := Lib.hid (HST.out.symm.trans HWL.out)
            rw [if_neg hrc] at HN
            have HERR := Lib.hid (show errV ea rc = .iface 224 (.pointer (some (ea rc))) by unfold errV; rw [if_neg hrc])
            rw [HERR.out]
            go_wp2_with fail
            go_ret
            rw [HS.out, ← HN.out, ← HERR.out]
            exact ⟨rfl, HL5.out, only_trans HG2.out HG5.out⟩
        · obtain rfl : i = sub.len := by omega
          rw [VL.drop_len] at hwl
          have HN := Lib.hid hwl
          have HLR := Lib.hid hlr
          have HGR := Lib.hid hgr
          clear hwl hlr hgr her
          go_wp2_with fail
          go_ret
          rw [HS.out, ← HN.out]
          exact ⟨rfl, HLR.out, only_trans HG2.out HGR.out⟩
    · rw [if_neg hoe] at HS
      obtain ⟨oc, hoc⟩ : ∃ oc, oc = ownE k n s sub.len := ⟨_, rfl⟩
      rw [← hoc] at HS hoe ⊢
      clear hoc
      have HER := Lib.hid (show errV ea oc = .iface 224 (.pointer (some (ea oc))) by unfold errV; rw [if_neg hoe])
      rw [HER.out]
      go_wp2_with fail
      go_ret
      rw [HS.out, ← HER.out]
      exact ⟨rfl, HL2.out, HG2.out⟩

theorem walk_c (N : Nat) : WalkC N := by
  induction N using Nat.strongRecOn with
  | _ N ih => exact walk_step N ih
end Go.Proofs.YtbalpfpcbckghaaGreatDoor
namespace Go.Proofs.YtbalpfpcbckghaaGreatDoor
open Go.RowKit Go.Lib
set_option linter.unusedVariables false

theorem ret_val {a b : Value} (h : a = b) : Ending.returned a = .returned b := by rw [h]
theorem LfAt.new (W : World) (n : Int) : LfAt (W.alloc (.cells #[.int .i64 n] 3)) W.heap.size n := by unfold LfAt World.alloc; simp

set_option maxHeartbeats 1000000 in
theorem valid_c (k n : Int) (s : ByteArray) (sub : VL) (sa : Option Addr) (sc : Nat) (ea : Nat → Addr) (w : World) (he : ErrsAt w ea) (hs : s.size ≤ 140737488351232) (hl : sub.len ≤ 140737488351232) (hf : sub.fit) (hsc : sub.len ≤ sc)
    (hr : RpL w (fun b => b < w.heap.size) sub sa) :
    Calls Tryz.prog 67 #[.agg #[.int .i64 k, .int .i64 n, .string s, .slice sa sub.len sc]] w fun e w' => e = .returned (errV ea (walk1 k n s sub 1 4096).1) ∧ Below w.heap.size w w' := by
  have hroom := he.room
  obtain ⟨wa, hwa⟩ : ∃ wa, wa = (w.alloc (.cells #[.int .i64 k, .int .i64 n, .string s, .slice sa sub.len sc] 24)).alloc (.cells #[.int .i64 4096] 3) := ⟨_, rfl⟩
  have hb : Below w.heap.size w wa := by rw [hwa]; exact ((Below.refl _ _).alloc (Nat.le_refl _) _).alloc (by simp) _
  have hV : StB wa w.heap.size (.int .i64 k) (.int .i64 n) (.string s) (.slice sa sub.len sc) := by rw [hwa]; exact (StB.new w _ _ _ _).alloc _
  have hL : LfAt wa (w.heap.size + 1) 4096 := by rw [hwa]; have := LfAt.new (w.alloc (.cells #[.int .i64 k, .int .i64 n, .string s, .slice sa sub.len sc] 24)) 4096; simpa using this
  have hwz : wa.heap.size = w.heap.size + 2 := by rw [hwa]; simp
  have WC := Lib.hid (walk_c (sub.size + 1) k n s sub sa sc 1 4096 (w.heap.size + 1) ea wa (by omega) (he.below hb (by omega)) hL (by omega) hs hl hf hsc
    (hr.keep (fun b hlt => hb.block b hlt) (fun b hlt => ⟨by omega, by omega⟩)) (by omega) (by omega) (by omega) (by omega))
  have v0 := hV.c0; have v1 := hV.c1; have v2 := hV.c2; have v3 := hV.c3
  have HB := Lib.hid hb
  have HWA := Lib.hid hwa
  have HWZ := Lib.hid hwz
  rw [hwa] at v0 v1 v2 v3
  clear hb hV hL hwa hwz hr
  go_enter Tryz.func67, Tryz.ntmps67
  go_wp2_with fail
  rw [← HWA.out]
  refine WC.out.mono ?_
  rintro e w5 ⟨rfl, hl5, hg5⟩
  have HG := Lib.hid hg5
  clear hg5 hl5 HWA v0 v1 v2 v3
  by_cases hc : (walk1 k n s sub 1 4096).1 = 0
  · have HC := Lib.hid hc
    rw [hc, show errV ea 0 = Value.nilIface from rfl]
    clear hc
    go_wp2_with fail
    go_ret
    exact ⟨ret_val (by rw [HC.out]; rfl), HB.out.trans ⟨HG.out.os, HG.out.tape, HG.out.output, HG.out.size, fun b hb => HG.out.block b (by have := HWZ.out; omega) (fun e => by injection e with e; omega)⟩⟩
  · have HERR := Lib.hid (show errV ea (walk1 k n s sub 1 4096).1 = .iface 224 (.pointer (some (ea (walk1 k n s sub 1 4096).1))) by unfold errV; rw [if_neg hc])
    clear hc
    rw [HERR.out]
    go_wp2_with fail
    go_ret
    exact ⟨ret_val HERR.out.symm, HB.out.trans ⟨HG.out.os, HG.out.tape, HG.out.output, HG.out.size, fun b hb => HG.out.block b (by have := HWZ.out; omega) (fun e => by injection e with e; omega)⟩⟩
end Go.Proofs.YtbalpfpcbckghaaGreatDoor
namespace Go.Proofs.YtbalpfpcbckghaaGreatDoor
open Go.RowKit Go.Lib
set_option linter.unusedVariables false

end Go.Proofs.YtbalpfpcbckghaaGreatDoor
namespace Go.Proofs.YtbalpfpcbckghaaGreatDoor
open Go.RowKit Go.Lib
set_option linter.unusedVariables false

/-- A struct of four cells and an error handed back. -/
theorem ret_cell4_tmp {fn : Func} {p u : Tmp} {Q : Ending → World → Prop} {act : Act} {w : World} (h : fn.results = #[.cell p 24, .tmp u]) (g : Nat) (hp : act.tmps.getD p undef = .pointer (some ⟨g, 0, none⟩)) (hd : act.defers = [])
    {a b c d : Value} (hS : StB w g a b c d) (hQ : Q (.returned (.tuple #[.agg #[a, b, c, d], act.tmps.getD u undef])) w) : bodyPost Tryz.prog fn Q .ret act w := by
  refine bodyPost_ret (v := .tuple #[.agg #[a, b, c, d], act.tmps.getD u undef]) ?_ hd hQ
  have c0 := hS.c0
  have c1 := hS.c1
  have c2 := hS.c2
  have c3 := hS.c3
  have hp' : (act.tmps[p]?).getD undef = .pointer (some ⟨g, 0, none⟩) := by simpa using hp
  simp [results, h, hp', go_sem, c0, c1, c2, c3]

theorem RdBad.a {w w5 : World} (hb : Below w.heap.size w w5) (hz : w.heap.size < w5.heap.size) {a b c d : Value} (H : StB w5 w.heap.size a b c d) (o : Obj) (a' b' c' d' : Value) :
    let W' := (((((w5.setCell ⟨w.heap.size, 0, none⟩ a').setCell ⟨w.heap.size, 1, none⟩ b').setCell ⟨w.heap.size, 2, none⟩ c').setCell ⟨w.heap.size, 3, none⟩ d').alloc o).drew
    StB W' w.heap.size a' b' c' d' ∧ Below w.heap.size w W' ∧ W'.heap[w5.heap.size]? = some o := by
  refine ⟨(H.set4 a' b' c' d').alloc o, ?_, ?_⟩
  · refine Below.drew (Below.alloc (Below.setCell (Below.setCell (Below.setCell (Below.setCell hb ?_ _) ?_ _) ?_ _) ?_ _) ?_ _)
    · exact Nat.le_refl _
    · exact Nat.le_refl _
    · exact Nat.le_refl _
    · exact Nat.le_refl _
    · rw [size_set4]; omega
  · have h : ∀ W : World, (W.alloc o).drew.heap[W.heap.size]? = some o := fun W => by
      show (W.alloc o).heap[W.heap.size]? = some o
      unfold World.alloc; simp
    have := h ((((w5.setCell ⟨w.heap.size, 0, none⟩ a').setCell ⟨w.heap.size, 1, none⟩ b').setCell ⟨w.heap.size, 2, none⟩ c').setCell ⟨w.heap.size, 3, none⟩ d')
    rw [size_set4] at this; exact this
theorem RdBad.b {w w5 : World} (hb : Below w.heap.size w w5) (hz : w.heap.size < w5.heap.size) {a b c d : Value} (H : StB w5 w.heap.size a b c d) (o : Obj) (a' b' c' d' : Value) :
    let W' := (((((w5.alloc o).setCell ⟨w.heap.size, 0, none⟩ a').setCell ⟨w.heap.size, 1, none⟩ b').setCell ⟨w.heap.size, 2, none⟩ c').setCell ⟨w.heap.size, 3, none⟩ d').drew
    StB W' w.heap.size a' b' c' d' ∧ Below w.heap.size w W' ∧ W'.heap[w5.heap.size]? = some o := by
  refine ⟨(H.alloc o).set4 a' b' c' d', ?_, ?_⟩
  · refine Below.drew (Below.setCell (Below.setCell (Below.setCell (Below.setCell (Below.alloc hb (by omega) _) ?_ _) ?_ _) ?_ _) ?_ _)
    · exact Nat.le_refl _
    · exact Nat.le_refl _
    · exact Nat.le_refl _
    · exact Nat.le_refl _
  · show ((((((w5.alloc o).setCell ⟨w.heap.size, 0, none⟩ a').setCell ⟨w.heap.size, 1, none⟩ b').setCell ⟨w.heap.size, 2, none⟩ c').setCell ⟨w.heap.size, 3, none⟩ d').heap[w5.heap.size]?) = _
    rw [heap_set4 _ _ _ _ _ _ _ (by omega)]; unfold World.alloc; simp
theorem StB.below {w w' : World} {g : Nat} {a b c d : Value} {B : Nat} (h : StB w g a b c d) (hb : Below B w w') (hB : g < B) : StB w' g a b c d := (hb.block g hB).trans h
theorem below_set4 {w w' : World} {B : Nat} (h : Below B w w') {g : Nat} (hg : B ≤ g) (a b c d : Value) :
    Below B w ((((w'.setCell ⟨g, 0, none⟩ a).setCell ⟨g, 1, none⟩ b).setCell ⟨g, 2, none⟩ c).setCell ⟨g, 3, none⟩ d) :=
  Below.setCell (Below.setCell (Below.setCell (Below.setCell h hg _) hg _) hg _) hg _
theorem below_le' {B B' : Nat} {w w' : World} (h : Below B w w') (hb : B' ≤ B) : Below B' w w' := ⟨h.os, h.tape, h.output, h.size, fun k hk => h.block k (by omega)⟩

end Go.Proofs.YtbalpfpcbckghaaGreatDoor
namespace Go.Proofs.YtbalpfpcbckghaaGreatDoor
open Go.RowKit Go.Lib
set_option linter.unusedVariables false

end Go.Proofs.YtbalpfpcbckghaaGreatDoor
namespace Go.Proofs.YtbalpfpcbckghaaGreatDoor
open Go.RowKit Go.Lib
set_option linter.unusedVariables false

end Go.Proofs.YtbalpfpcbckghaaGreatDoor
namespace Go.Proofs.YtbalpfpcbckghaaGreatDoor
open Go.RowKit Go.Lib
set_option linter.unusedVariables false

end Go.Proofs.YtbalpfpcbckghaaGreatDoor
namespace Go.Proofs.YtbalpfpcbckghaaGreatDoor
open Go.RowKit Go.Lib
set_option linter.unusedVariables false

/-- What strconv's package-level variables hold. -/
structure StrcAt (w : World) : Prop where
  syn : ∃ te pe, w.cell? ⟨10, 0, none⟩ = some (.iface te pe)
  rng : ∃ te pe, w.cell? ⟨11, 0, none⟩ = some (.iface te pe)
  tab : TabIs Tryz.prog w "internal/strconv.uint64pow10" .u64 pow10Tab
  room : 14 < w.heap.size
theorem StrcAt.below {w w' : World} {B : Nat} (h : StrcAt w) (hb : Below B w w') (hB : w.heap.size ≤ B) : StrcAt w' := by
  have hk : ∀ p : Addr, p.block < w.heap.size → w'.cell? p = w.cell? p := fun p hp => World.cell?_of_block (w := w) (hb.block p.block (by omega))
  have hr := h.room
  obtain ⟨t1, p1, h1⟩ := h.syn
  obtain ⟨t2, p2, h2⟩ := h.rng
  exact ⟨⟨t1, p1, (hk ⟨10, 0, none⟩ (Nat.lt_trans (by decide) hr)).trans h1⟩, ⟨t2, p2, (hk ⟨11, 0, none⟩ (Nat.lt_trans (by decide) hr)).trans h2⟩, Joins.tab_stays (g := 7) rfl h.tab hb hB, by have := hb.size; omega⟩

end Go.Proofs.YtbalpfpcbckghaaGreatDoor
namespace Go.Proofs.YtbalpfpcbckghaaGreatDoor
open Go.RowKit Go.Lib
set_option linter.unusedVariables false

end Go.Proofs.YtbalpfpcbckghaaGreatDoor
namespace Go.Proofs.YtbalpfpcbckghaaGreatDoor
open Go.RowKit Go.Lib
set_option linter.unusedVariables false

end Go.Proofs.YtbalpfpcbckghaaGreatDoor
namespace Go.Proofs.YtbalpfpcbckghaaGreatDoor
open Go.RowKit Go.Lib
set_option linter.unusedVariables false

/-- How much values take. -/
def cost : VL → Int
  | .nil => 0
  | .cons k n s sub rest => 1 + mOf k s + cost sub + cost rest
theorem cost_ge : ∀ l : VL, 0 ≤ cost l
  | .nil => Int.le_refl _
  | .cons k n s sub rest => by have := cost_ge sub; have := cost_ge rest; have := mOf_ge k s; rw [cost]; omega
theorem walkL_cost : ∀ (l : VL) (deep left : Int), 0 ≤ left → (walkL l deep left).1 = 0 → cost l ≤ left ∧ (walkL l deep left).2 = left - cost l
  | .nil, deep, left, h, _ => ⟨h, by rw [cost]; unfold walkL; simp only; omega⟩
  | .cons k n s sub rest, deep, left, h, hw => by
    have hm := mOf_ge k s
    rw [walkL_cons] at hw ⊢
    by_cases h1 : (walk1 k n s sub deep left).1 = 0
    · rw [if_pos h1] at hw ⊢
      have hx : 1 + mOf k s + cost sub ≤ left ∧ (walk1 k n s sub deep left).2 = left - (1 + mOf k s + cost sub) := by
        unfold walk1 at h1 ⊢
        by_cases g1 : 40 < deep
        · rw [if_pos g1] at h1; cases h1
        rw [if_neg g1] at h1 ⊢
        by_cases g2 : left ≤ mOf k s
        · rw [if_pos g2] at h1; cases h1
        rw [if_neg g2] at h1 ⊢
        by_cases g3 : ownE k n s sub.len = 0
        · rw [if_pos g3] at h1 ⊢
          have := walkL_cost sub (deep + 1) (left - (1 + mOf k s)) (by omega) h1
          omega
        · rw [if_neg g3] at h1; exact absurd h1 g3
      have := walkL_cost rest deep _ (by omega) hw
      rw [cost]; omega
    · rw [if_neg h1] at hw; exact absurd hw h1
theorem walk1_cost (k n : Int) (s : ByteArray) (sub : VL) (deep left : Int) (h : 0 ≤ left) (hw : (walk1 k n s sub deep left).1 = 0) : 1 + mOf k s + cost sub ≤ left := by
  have := walkL_cost (.cons k n s sub .nil) deep left h (by rw [walkL_cons, if_pos hw]; rfl)
  rw [cost, cost] at this; omega
/-- Values that are right, and what follows of each. -/
def OkL : VL → Int → Prop
  | .nil, _ => True
  | .cons k n s sub rest, d => ownE k n s sub.len = 0 ∧ d ≤ 40 ∧ OkL sub (d + 1) ∧ OkL rest d
theorem walkL_ok : ∀ (l : VL) (deep left : Int), (walkL l deep left).1 = 0 → OkL l deep
  | .nil, _, _, _ => trivial
  | .cons k n s sub rest, deep, left, hw => by
    rw [walkL_cons] at hw
    by_cases h1 : (walk1 k n s sub deep left).1 = 0
    · rw [if_pos h1] at hw
      have hr := walkL_ok rest deep _ hw
      unfold walk1 at h1
      by_cases g1 : 40 < deep
      · rw [if_pos g1] at h1; cases h1
      rw [if_neg g1] at h1
      by_cases g2 : left ≤ mOf k s
      · rw [if_pos g2] at h1; cases h1
      rw [if_neg g2] at h1
      by_cases g3 : ownE k n s sub.len = 0
      · rw [if_pos g3] at h1
        exact ⟨g3, by omega, walkL_ok sub (deep + 1) _ h1, hr⟩
      · rw [if_neg g3] at h1; exact absurd h1 g3
    · rw [if_neg h1] at hw; exact absurd hw h1
theorem OkL_one {k n : Int} {s : ByteArray} {sub : VL} {d : Int} (h : OkL (val1 k n s sub) d) : ownE k n s sub.len = 0 ∧ OkL sub (d + 1) := ⟨h.1, h.2.2.1⟩
theorem walk1_ok {k n : Int} {s : ByteArray} {sub : VL} {deep left : Int} (hw : (walk1 k n s sub deep left).1 = 0) : OkL (val1 k n s sub) deep :=
  walkL_ok (val1 k n s sub) deep left (by unfold val1; rw [walkL_cons, if_pos hw]; rfl)

/-- What own says where all is right. -/
theorem own_ok {k n : Int} {s : ByteArray} {len : Nat} (h : ownE k n s len = 0) :
    (k = 0 ∧ s.data.toList = [] ∧ len = 0) ∨ (k = 1 ∧ -2147483648 ≤ n ∧ n ≤ 2147483647 ∧ s.data.toList = [] ∧ len = 0) ∨ (k = 2 ∧ n = 0 ∧ len = 0 ∧ prB s.data.toList = true) ∨ (k = 3 ∧ 0 ≤ n ∧ n ≤ 14 ∧ s.data.toList = [] ∧ len = 0) ∨ (k = 4 ∧ n = 0 ∧ s.data.toList = []) := by
  unfold ownE at h
  by_cases h1 : k < 0 ∨ 4 < k
  · rw [if_pos h1] at h; cases h
  rw [if_neg h1] at h
  by_cases h2 : k = 1 ∧ (n < -2147483648 ∨ 2147483647 < n)
  · rw [if_pos h2] at h; cases h
  rw [if_neg h2] at h
  by_cases h3 : k = 3 ∧ (n < 0 ∨ 14 < n)
  · rw [if_pos h3] at h; cases h
  rw [if_neg h3] at h
  by_cases h4 : (k ≠ 2 ∧ s.data.toList ≠ []) ∨ (k ≠ 4 ∧ 0 < len) ∨ ((k = 2 ∨ k = 4) ∧ n ≠ 0)
  · rw [if_pos h4] at h; cases h
  rw [if_neg h4] at h
  by_cases h5 : prB s.data.toList = false
  · rw [if_pos h5] at h; cases h
  have hs : k ≠ 2 → s.data.toList = [] := fun hk => by
    by_cases e : s.data.toList = []
    · exact e
    · exact absurd (.inl ⟨hk, e⟩) h4
  have hl : k ≠ 4 → len = 0 := fun hk => by
    by_cases e : 0 < len
    · exact absurd (.inr (.inl ⟨hk, e⟩)) h4
    · omega
  have hn : (k = 2 ∨ k = 4) → n = 0 := fun hk => by
    by_cases e : n = 0
    · exact e
    · exact absurd (.inr (.inr ⟨hk, e⟩)) h4
  have hk : k = 0 ∨ k = 1 ∨ k = 2 ∨ k = 3 ∨ k = 4 := by omega
  rcases hk with rfl | rfl | rfl | rfl | rfl
  · exact .inl ⟨rfl, hs (by decide), hl (by decide)⟩
  · exact .inr (.inl ⟨rfl, by omega, by omega, hs (by decide), hl (by decide)⟩)
  · exact .inr (.inr (.inl ⟨rfl, hn (.inl rfl), hl (by decide), by simpa using h5⟩))
  · exact .inr (.inr (.inr (.inl ⟨rfl, by omega, by omega, hs (by decide), hl (by decide)⟩)))
  · exact .inr (.inr (.inr (.inr ⟨rfl, hn (.inr rfl), hs (by decide)⟩)))

/-- All numbers are of 64 bits. -/
def VL.i64 : VL → Prop
  | .nil => True
  | .cons _ n _ sub rest => -9223372036854775808 ≤ n ∧ n ≤ 9223372036854775807 ∧ sub.i64 ∧ rest.i64
end Go.Proofs.YtbalpfpcbckghaaGreatDoor
namespace Go.Proofs.YtbalpfpcbckghaaGreatDoor
open Go.RowKit Go.Lib
set_option linter.unusedVariables false

/-- The variable of the strings' search. -/
def MaxAt (w : World) : Prop := ∃ m : Int, w.cell? ⟨4, 0, none⟩ = some (.int .i64 m)
theorem MaxAt.below {w w' : World} {B : Nat} (h : MaxAt w) (hb : Below B w w') (hB : 14 ≤ B) : MaxAt w' := by
  obtain ⟨m, hm⟩ := h
  exact ⟨m, (World.cell?_of_block (w := w) (hb.block _ (Nat.lt_of_lt_of_le (by decide) hB))).trans hm⟩
/-- What a value's text asks of the world. -/
structure TxAt (w : World) : Prop where
  tab : TabIs Tryz.prog w "internal/strconv.uint64pow10" .u64 pow10Tab
  room : 14 < w.heap.size
  mx : MaxAt w
theorem TxAt.below {w w' : World} {B : Nat} (h : TxAt w) (hb : Below B w w') (hB : w.heap.size ≤ B) : TxAt w' :=
  ⟨Joins.tab_stays (g := 7) rfl h.tab hb hB, by have := hb.size; have := h.room; omega, h.mx.below hb (by have := h.room; omega)⟩
def strs (l : List (List UInt8)) : List Value := l.map fun x => Value.string ⟨x.toArray⟩
theorem strs_snoc {W : World} {base : Nat} {v : Value} {l : List (List UInt8)} {y : List UInt8} (h : W.ownsRow base 9 1 v (l.length + 1) (strs l ++ [.string ⟨y.toArray⟩])) : W.ownsRow base 9 1 v (l ++ [y]).length (strs (l ++ [y])) := by
  have e1 : (l ++ [y]).length = l.length + 1 := by simp
  have e2 : strs (l ++ [y]) = strs l ++ [.string ⟨y.toArray⟩] := by simp [strs]
  rw [e1, e2]; exact h
theorem own_below {W W' : World} {base e size n : Nat} {v : Value} {xs : List Value} (h : W.ownsRow base e size v n xs) (hb : Below W.heap.size W W') : W'.ownsRow base e size v n xs := by
  refine ⟨h.1, ?_⟩
  rcases h.2 with h0 | ⟨g, cap, cur, hv, hb1, hh, r⟩
  · exact .inl h0
  · have hlt : g < W.heap.size := by
      rcases Nat.lt_or_ge g W.heap.size with hlt | hge
      · exact hlt
      · rw [Array.getElem?_eq_none hge] at hh; cases hh
    exact .inr ⟨g, cap, cur, hv, hb1, (hb.block g hlt).trans hh, r⟩
end Go.Proofs.YtbalpfpcbckghaaGreatDoor
namespace Go.Proofs.YtbalpfpcbckghaaGreatDoor
open Go.RowKit Go.Lib
set_option linter.unusedVariables false

theorem grown_below {B : Nat} {w w1 w2 : World} {row : Option Nat} (h : Below B w w1) (hz : B ≤ w1.heap.size) (hg : w1.grownBy w2 row) (hr : ∀ k, row = some k → B ≤ k) : Below B w w2 :=
  ⟨hg.os.trans h.os, hg.tape.trans h.tape, hg.output.trans h.output, Nat.le_trans h.size hg.size,
   fun k hk => (hg.block k (by omega) (fun e => by have := hr k e.symm; omega)).trans (h.block k hk)⟩
theorem cost_drop : ∀ (i : Nat) (l : VL), cost (l.drop i) ≤ cost l
  | 0, l => by rw [VL.drop]; exact Int.le_refl _
  | i + 1, .nil => Int.le_refl _
  | i + 1, .cons k n s sub r => by have := cost_drop i r; have := cost_ge sub; have := mOf_ge k s; rw [VL.drop, cost]; omega
theorem len_cost : ∀ l : VL, (l.len : Int) ≤ cost l
  | .nil => Int.le_refl _
  | .cons k n s sub r => by have := len_cost r; have := cost_ge sub; have := mOf_ge k s; rw [VL.len, cost]; omega

end Go.Proofs.YtbalpfpcbckghaaGreatDoor
namespace Go.Proofs.YtbalpfpcbckghaaGreatDoor
open Go.RowKit Go.Lib
set_option linter.unusedVariables false

theorem rp_at {w : World} {l : VL} {A : Option Addr} {S : Nat → Prop} {i : Nat} (h : RpL w S l A) (hi : i < l.len) : ∃ (b o : Nat) (k n : Int) (s : ByteArray) (sub : VL) (sa : Option Addr) (sc : Nat), A = some ⟨b, o, none⟩ ∧ l.drop i = .cons k n s sub (l.drop (i + 1)) ∧ S b ∧
    w.cell? ⟨b, o + i * 4, none⟩ = some (.int .i64 k) ∧ w.cell? ⟨b, o + i * 4 + 1, none⟩ = some (.int .i64 n) ∧ w.cell? ⟨b, o + i * 4 + 2, none⟩ = some (.string s) ∧ w.cell? ⟨b, o + i * 4 + 3, none⟩ = some (.slice sa sub.len sc) ∧ sub.len ≤ sc ∧ RpL w S sub sa ∧ sub.size < l.size := by
  obtain ⟨k, n, s, sub, hd⟩ := VL.drop_of_lt i l hi
  obtain ⟨b, o, hA⟩ : ∃ b o, A = some ⟨b, o, none⟩ := by
    cases l with
    | nil => simp [VL.len] at hi
    | cons _ _ _ _ _ => obtain ⟨b, o, _, _, h, _⟩ := h; exact ⟨b, o, h⟩
  subst hA
  have hdr := RpL.drop i l b o h
  rw [hd] at hdr
  obtain ⟨b', o', sa', sc', hA, hSb, c0, c1, c2, c3, hcl, hrs, _⟩ := hdr
  injection hA with hA
  injection hA with hA1 hA2
  subst hA1
  subst hA2
  have hszd := VL.size_drop i l
  rw [hd] at hszd
  simp only [VL.size] at hszd
  rw [Nat.mul_comm 4 i] at c0 c1 c2 c3
  exact ⟨b, o, k, n, s, sub, sa', sc', rfl, hd, hSb, c0, c1, c2, c3, hcl, hrs, by omega⟩

end Go.Proofs.YtbalpfpcbckghaaGreatDoor
namespace Go.Proofs.YtbalpfpcbckghaaGreatDoor
open Go.RowKit Go.Lib
set_option linter.unusedVariables false

/-- A row of values of the call's own. -/
structure CInv (base : Nat) (w0 wr : World) (V : Value) (acc : VL) (xs : List Value) : Prop where
  own : wr.ownsRow base 24 4 V acc.len xs
  cells : CellsOf wr (fun b => base ≤ b ∧ b < wr.heap.size ∧ V.ownBlock ≠ some b) acc xs
  below : Below base w0 wr
  size : base ≤ wr.heap.size
theorem CInv.nil (w : World) : CInv w.heap.size w w (.slice none 0 0) .nil [] := ⟨World.ownsRow_nil _ _ _ _, rfl, Below.refl _ _, Nat.le_refl _⟩
theorem CInv.move {base : Nat} {w0 wr w' : World} {V : Value} {acc : VL} {xs : List Value} (h : CInv base w0 wr V acc xs) (hb : Below wr.heap.size wr w') : CInv base w0 w' V acc xs :=
  ⟨own_below h.own hb, h.cells.keep (fun b hb' => hb.block b hb'.2.1) (fun b hb' => ⟨hb'.1, Nat.lt_of_lt_of_le hb'.2.1 hb.size, hb'.2.2⟩), h.below.trans (below_le' hb h.size), Nat.le_trans h.size hb.size⟩
theorem CInv.step {base : Nat} {w0 wr w3 w5 : World} {V V' : Value} {acc : VL} {xs : List Value} (h : CInv base w0 wr V acc xs) (hb : Below wr.heap.size wr w3)
    {k n : Int} {t : ByteArray} {sub : VL} {sa : Option Addr} {sc : Nat} (hsc : sub.len ≤ sc) (hrep : RpL w3 (fun b => wr.heap.size ≤ b ∧ b < w3.heap.size) sub sa) {o1 : Obj}
    (hown : w5.ownsRow base 24 4 V' (acc.len + 1) (xs ++ [.int .i64 k, .int .i64 n, .string t, .slice sa sub.len sc])) (hg : (w3.alloc o1).grownBy w5 V.ownBlock)
    (hob : V'.ownBlock = V.ownBlock ∨ V'.ownBlock = some (w3.alloc o1).heap.size) :
    CInv base w0 w5 V' (acc.app (val1 k n t sub)) (xs ++ [.int .i64 k, .int .i64 n, .string t, .slice sa sub.len sc]) := by
  have h3 := h.move hb
  have hVg : ∀ g, V.ownBlock = some g → base ≤ g ∧ g < wr.heap.size := fun g hg => ⟨own_ge h.own g hg, own_lt h.own g hg⟩
  have hsz : (w3.alloc o1).heap.size = w3.heap.size + 1 := by simp
  have hz5 : w3.heap.size + 1 ≤ w5.heap.size := by have := hg.size; omega
  have hz3 := hb.size
  have hz0 := h.size
  have blk : ∀ b, b < w3.heap.size → V.ownBlock ≠ some b → w5.heap[b]? = w3.heap[b]? := fun b hb hne => by
    have h1 := hg.block b (by omega) (fun e => hne e.symm)
    rw [h1, Below.heap_alloc _ _ _ hb]
  have hV'b : ∀ b, b < w3.heap.size → V.ownBlock ≠ some b → V'.ownBlock ≠ some b := fun b hb hne e => by
    rcases hob with e2 | e2
    · exact hne (e2.symm.trans e)
    · rw [e] at e2
      injection e2 with e2
      omega
  refine ⟨by rw [VL.len_app]; exact hown, ?_, ?_, by omega⟩
  · refine CellsOf.app _ _ _ _ ?_ ⟨sa, sc, [], rfl, hsc, ?_, rfl⟩
    · exact h3.cells.keep (fun b hb => blk b hb.2.1 hb.2.2) (fun b hb => ⟨hb.1, by have := hb.2.1; omega, hV'b b hb.2.1 hb.2.2⟩)
    · have hne : ∀ b, wr.heap.size ≤ b → V.ownBlock ≠ some b := fun b hb e => by have := (hVg b e).2; omega
      exact hrep.keep (fun b hb => blk b hb.2 (hne b hb.1)) (fun b hb => ⟨by have := hb.1; omega, by have := hb.2; omega, hV'b b hb.2 (hne b hb.1)⟩)
  · exact grown_below (h3.below.alloc h3.size o1) (by simp; omega) hg (fun k hk => (hVg k hk).1)
/-- What the row reads as. -/
theorem CInv.rep {base : Nat} {w0 wr : World} {V : Value} {acc : VL} {xs : List Value} (h : CInv base w0 wr V acc xs) : ∃ (sa : Option Addr) (sc : Nat), V = .slice sa acc.len sc ∧ acc.len ≤ sc ∧ RpL wr (fun b => base ≤ b ∧ b < wr.heap.size) acc sa :=
  own_rep h.own (h.cells.keep (fun _ _ => rfl) (fun b hb => ⟨hb.1, hb.2.1⟩)) (fun g hg => ⟨own_ge h.own g hg, own_lt h.own g hg⟩)

/-- A copy comes out. -/
def PCopy (w : World) (k n : Int) (s : ByteArray) (sub : VL) (e : Ending) (w' : World) : Prop :=
  ∃ (sa : Option Addr) (sc : Nat), e = .returned (.agg #[.int .i64 k, .int .i64 n, .string s, .slice sa sub.len sc]) ∧ sub.len ≤ sc ∧ RpL w' (fun b => w.heap.size ≤ b ∧ b < w'.heap.size) sub sa ∧ Below w.heap.size w w'

theorem clone_end {w wr : World} {k n : Int} {s : ByteArray} {sub : VL} {bv : Value} {sb : Option Addr} {cb : Nat} (hb : Below w.heap.size w wr) (hz : w.heap.size + 2 ≤ wr.heap.size) (hr : StB wr (w.heap.size + 1) (.int .i64 0) (.int .i64 0) (.string ⟨#[]⟩) (.slice none 0 0))
    (hbv : bv = .slice sb sub.len cb) (hcb : sub.len ≤ cb) (hrb : RpL wr (fun b => w.heap.size + 2 ≤ b ∧ b < wr.heap.size) sub sb) :
    StB (((((wr.setCell ⟨w.heap.size, 3, none⟩ bv).setCell ⟨w.heap.size + 1, 0, none⟩ (.int .i64 k)).setCell ⟨w.heap.size + 1, 1, none⟩ (.int .i64 n)).setCell ⟨w.heap.size + 1, 2, none⟩ (.string s)).setCell ⟨w.heap.size + 1, 3, none⟩ bv) (w.heap.size + 1) (.int .i64 k) (.int .i64 n) (.string s) bv ∧
    PCopy w k n s sub (.returned (.agg #[.int .i64 k, .int .i64 n, .string s, bv])) (((((wr.setCell ⟨w.heap.size, 3, none⟩ bv).setCell ⟨w.heap.size + 1, 0, none⟩ (.int .i64 k)).setCell ⟨w.heap.size + 1, 1, none⟩ (.int .i64 n)).setCell ⟨w.heap.size + 1, 2, none⟩ (.string s)).setCell ⟨w.heap.size + 1, 3, none⟩ bv) := by
  have hr' : StB (wr.setCell ⟨w.heap.size, 3, none⟩ bv) (w.heap.size + 1) (.int .i64 0) (.int .i64 0) (.string ⟨#[]⟩) (.slice none 0 0) := hr.far (by show w.heap.size + 1 ≠ w.heap.size; omega) _
  have hz1 : (wr.setCell ⟨w.heap.size, 3, none⟩ bv).heap.size = wr.heap.size := by simp [World.setCell]
  have hb1 : Below w.heap.size w (wr.setCell ⟨w.heap.size, 3, none⟩ bv) := Below.setCell hb (show w.heap.size ≤ (⟨w.heap.size, 3, none⟩ : Addr).block from Nat.le_refl _) _
  have hrb1 : RpL (wr.setCell ⟨w.heap.size, 3, none⟩ bv) (fun b => w.heap.size + 2 ≤ b ∧ b < wr.heap.size) sub sb := hrb.keep (fun c hc => Below.heap_setCell _ _ _ _ (by show c ≠ w.heap.size; omega)) (fun c hc => hc)
  exact ⟨hr'.set4 _ _ _ _, sb, cb, by rw [hbv], hcb, hrb1.keep (fun c hc => heap_set4 _ _ _ _ _ _ _ (by omega)) (fun c hc => ⟨by omega, by rw [size_set4, hz1]; exact hc.2⟩), below_set4 hb1 (by omega) _ _ _ _⟩

def CloneC (N : Nat) : Prop := ∀ (k n : Int) (s : ByteArray) (sub : VL) (sa : Option Addr) (sc : Nat) (w : World), sub.size < N → cost sub ≤ 100000 → sub.len ≤ sc → RpL w (fun b => b < w.heap.size) sub sa →
  Calls Tryz.prog 32 #[.agg #[.int .i64 k, .int .i64 n, .string s, .slice sa sub.len sc]] w (PCopy w k n s sub)

set_option maxRecDepth 100000 in
set_option maxHeartbeats 4000000 in
theorem clone_step (N : Nat) (ih : ∀ N', N' < N → CloneC N') : CloneC N := by
  intro k n s sub sa sc w hN hcost hsc hrep
  obtain ⟨i0, hi0, hz0, hz1, hz2⟩ := info_parts val_info
  obtain ⟨wa, hwa⟩ : ∃ wa, wa = (w.alloc (.cells #[.int .i64 k, .int .i64 n, .string s, .slice sa sub.len sc] 24)).alloc (.cells #[.int .i64 0, .int .i64 0, .string ⟨#[]⟩, .slice none 0 0] 24) := ⟨_, rfl⟩
  have hba : Below w.heap.size w wa := by rw [hwa]; exact ((Below.refl _ _).alloc (Nat.le_refl _) _).alloc (by simp) _
  have hwz : wa.heap.size = w.heap.size + 2 := by rw [hwa]; simp
  have hV : StB wa w.heap.size (.int .i64 k) (.int .i64 n) (.string s) (.slice sa sub.len sc) := by rw [hwa]; exact (StB.new w _ _ _ _).alloc _
  have hR : StB wa (w.heap.size + 1) (.int .i64 0) (.int .i64 0) (.string ⟨#[]⟩) (.slice none 0 0) := by
    rw [hwa]; have := StB.new (w.alloc (.cells #[.int .i64 k, .int .i64 n, .string s, .slice sa sub.len sc] 24)) (.int .i64 0) (.int .i64 0) (.string ⟨#[]⟩) (.slice none 0 0)
    simpa using this
  have v3 := hV.c3
  rw [hwa] at v3
  have HV := Lib.hid hV
  have HR := Lib.hid hR
  have HB := Lib.hid hba
  have HWA := Lib.hid hwa
  have HWZ := Lib.hid hwz
  have HRP := Lib.hid (hrep.keep (w' := wa) (fun b hb => hba.block b hb) (fun b hb => hb))
  have C0 := CInv.nil wa
  have hln := len_cost sub
  clear hba hV hR hwa hwz hrep
  go_enter Tryz.func32, Tryz.ntmps32
  go_wp2_with fail
  rw [← HWA.out]
  clear v3
  go_loopg [3, 9] sub.len (fun kk ov v wr => ∃ (bv : Value) (i : Nat) (xs : List Value), bv = ov ∧ v = .int .i64 i ∧ i + kk = sub.len ∧ Hid (CInv wa.heap.size wa wr bv (sub.take i) xs))
  case atStart => exact ⟨.slice none 0 0, 0, [], rfl, rfl, by omega, by show CInv _ _ _ _ (sub.take 0) _; rw [VL.take]; exact C0⟩
  case round =>
    obtain ⟨bv, i, xs, rfl, rfl, hik, hC⟩ := hrel
    have hbr := hC.out.below
    have hrz := hC.out.size
    have hwz := HWZ.out
    by_cases hi : i < sub.len
    · obtain ⟨g, rfl⟩ : ∃ g, gk = g + 1 := ⟨gk - 1, by omega⟩
      obtain ⟨b, o, k', n', s', sub', sa', sc', hA, hd, hSb, c0, c1, c2, c3, hcl, hrs, hszd⟩ := rp_at (HRP.out.keep (w' := wr) (fun b hb => hbr.block b (by omega)) (fun b hb => hb)) hi
      have hts := Lib.hid (VL.take_succ i sub k' n' s' sub' hd)
      have hcd := cost_drop i sub
      rw [hd, cost] at hcd
      have hcr := cost_ge (sub.drop (i + 1))
      have hmm := mOf_ge k' s'
      have htl : (sub.take i).len ≤ 100000 := by
        have h2 : (sub.take i).len + (sub.drop i).len = sub.len := by rw [← VL.len_app, VL.take_app_drop]
        omega
      obtain ⟨wx, hwx⟩ : ∃ wx, wx = wr.alloc (.cells #[.int .i64 k', .int .i64 n', .string s', .slice sa' sub'.len sc'] 24) := ⟨_, rfl⟩
      have hbx : Below wr.heap.size wr wx := by rw [hwx]; exact (Below.refl _ _).alloc (Nat.le_refl _) _
      have hxz : wx.heap.size = wr.heap.size + 1 := by rw [hwx]; simp
      have IHC := Lib.hid (ih (sub'.size + 1) (by omega) k' n' s' sub' sa' sc' wx (by omega) (by omega) hcl (hrs.keep (fun b hb => hbx.block b (by omega)) (fun b hb => by omega)))
      have CX := Lib.hid (hC.out.move hbx)
      have HSA := Lib.hid hA
      have HWX := Lib.hid hwx
      subst hA
      clear hrs hd hcd hwx hbx hbr
      go_wp2_with fail
      rw [← HWX.out]
      refine IHC.out.mono ?_
      rintro e w3 ⟨sb, cb, rfl, hcb, hrb, hb3⟩
      have C3 := Lib.hid (CX.out.move hb3)
      have HB3 := Lib.hid hb3
      have HRB := Lib.hid hrb
      have h3z := hb3.size
      clear hb3 hrb c0 c1 c2 c3
      go_wp2_with (at_builtin; refine wpList_append_own_at _ rfl (.tmp 13) (.tmp 16) 22 rfl wa.heap.size 24 i0 _ 4 56 Tryz.underlying22 hi0 hz0 hz1 hz2 rfl (by decide) bv (sub.take i).len xs rfl (own_below C3.out.own ((Below.refl _ _).alloc (Nat.le_refl _) _)) ⟨w3.heap.size, 0, none⟩ 1 1 [.int .i64 k', .int .i64 n', .string s', .slice sb sub'.len cb] rfl rfl ?c1 ?c2 ?c3 ?c4 ?c5 ?c6
                   case c1 => exact cell_four_new w3 _ rfl _ _ _ _ _
                   case c2 => intro u hu; simp at hu; rcases hu with rfl | rfl | rfl | rfl <;> rfl
                   case c3 => unfold maxLen; omega
                   case c4 => omega
                   case c5 => simp; omega
                   intro V' w5 hown' hgrow _ hob
                   have ST := Lib.hid (CInv.step CX.out HB3.out hcb HRB.out hown' hgrow hob)
                   clear hown' hgrow hob)
      go_roundg g
      case measure => omega
      case rel => exact ⟨V', i + 1, _, rfl, by go_num, by omega, by show CInv _ _ _ _ (sub.take (i + 1)) _; rw [hts.out]; exact ST.out⟩
    · obtain rfl : i = sub.len := by omega
      have hv := HV.out.below hbr (by omega)
      have hr := HR.out.below hbr (by omega)
      have y0 := hv.c0; have y1 := hv.c1; have y2 := hv.c2; have y3 := hv.c3; have y4 := hv.fr 3
      have z0 := hr.c0; have z1 := hr.c1; have z2 := hr.c2; have z3 := hr.c3; have f0 := hr.fr 0; have f1 := hr.fr 1; have f2 := hr.fr 2; have f3 := hr.fr 3
      obtain ⟨sb, cb, hbv, hcb, hrb⟩ := hC.out.rep
      rw [VL.take_len] at hbv hcb hrb
      have HF := Lib.hid (clone_end (HB.out.trans (below_le' hbr (by omega))) (by omega) hr rfl hcb (hrb.wide (fun c hc => ⟨by omega, hc.2⟩)) (k := k) (n := n) (s := s))
      clear hC
      subst hbv
      have hv' : StB (wr.setCell ⟨w.heap.size, 3, none⟩ (.slice sb sub.len cb)) w.heap.size (.int .i64 k) (.int .i64 n) (.string s) (.slice sb sub.len cb) := hv.set3 _
      have hr' : StB (wr.setCell ⟨w.heap.size, 3, none⟩ (.slice sb sub.len cb)) (w.heap.size + 1) (.int .i64 0) (.int .i64 0) (.string ⟨#[]⟩) (.slice none 0 0) := hr.far (by show w.heap.size + 1 ≠ w.heap.size; omega) _
      have a0 := hv'.c0; have a1 := hv'.c1; have a2 := hv'.c2; have a3 := hv'.c3
      have b0 := hr'.c0; have b1 := hr'.c1; have b2 := hr'.c2; have b3 := hr'.c3; have e0 := hr'.fr 0; have e1 := hr'.fr 1; have e2 := hr'.fr 2; have e3 := hr'.fr 3
      clear hv hr hv' hr' hbr hrb
      go_wp2_with fail
      refine ret_cell4 Tryz.results32 (w.heap.size + 1) rfl rfl HF.out.1 HF.out.2
theorem clone_c (N : Nat) : CloneC N := by
  induction N using Nat.strongRecOn with
  | _ N ih => exact clone_step N ih
end Go.Proofs.YtbalpfpcbckghaaGreatDoor
