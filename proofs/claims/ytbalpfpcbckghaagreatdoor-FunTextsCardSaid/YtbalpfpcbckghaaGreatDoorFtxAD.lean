/- Contracts of the functions that the statement reaches, and the plain mathematics beneath: several texts joined. -/
import Derived.Laws.ResultCell
import Derived.Lib.SmallJoins
import Derived.Lib.AppendIntMem
import Derived.Lib.ReplaceLaws
import Derived.Lib.Join
import Derived.Test.YtbalpfpcbckghaaGreatDoorFtxAA
import Derived.Test.YtbalpfpcbckghaaGreatDoorShelf
import Derived.Test.YtbalpfpcbckghaaGreatDoorFtxAB
namespace Go.Proofs.YtbalpfpcbckghaaGreatDoor
open Go.RowKit Go.Lib
set_option linter.unusedVariables false

/-- How many a text takes. -/
def mOf (k : Int) (s : ByteArray) : Int := if k = 2 then s.size else 0
/-- What is amiss with a list of values, and what is left. -/
def walkL : VL → Int → Int → Nat × Int
  | .nil, _, left => (0, left)
  | .cons k n s sub rest, deep, left =>
    let r : Nat × Int := if 40 < deep then (112, left) else if left ≤ mOf k s then (104, left) else if ownE k n s sub.len = 0 then walkL sub (deep + 1) (left - (1 + mOf k s)) else (ownE k n s sub.len, left - (1 + mOf k s))
    if r.1 = 0 then walkL rest deep r.2 else r
/-- The same of one value. -/
def walk1 (k n : Int) (s : ByteArray) (sub : VL) (deep left : Int) : Nat × Int :=
  if 40 < deep then (112, left) else if left ≤ mOf k s then (104, left) else if ownE k n s sub.len = 0 then walkL sub (deep + 1) (left - (1 + mOf k s)) else (ownE k n s sub.len, left - (1 + mOf k s))
theorem walkL_cons (k n : Int) (s : ByteArray) (sub rest : VL) (deep left : Int) :
    walkL (.cons k n s sub rest) deep left = if (walk1 k n s sub deep left).1 = 0 then walkL rest deep (walk1 k n s sub deep left).2 else walk1 k n s sub deep left := rfl

theorem mOf_ge (k : Int) (s : ByteArray) : 0 ≤ mOf k s := by unfold mOf; split <;> omega
theorem walkL_range : ∀ (l : VL) (deep left : Int), 0 ≤ left → 0 ≤ (walkL l deep left).2 ∧ (walkL l deep left).2 ≤ left
  | .nil, deep, left, h => ⟨h, Int.le_refl _⟩
  | .cons k n s sub rest, deep, left, h => by
    have hm := mOf_ge k s
    have h1 : 0 ≤ (walk1 k n s sub deep left).2 ∧ (walk1 k n s sub deep left).2 ≤ left := by
      unfold walk1
      split
      · exact ⟨h, Int.le_refl _⟩
      · split
        · exact ⟨h, Int.le_refl _⟩
        · split
          · have := walkL_range sub (deep + 1) (left - (1 + mOf k s)) (by omega); omega
          · simp only; omega
    rw [walkL_cons]
    split
    · have := walkL_range rest deep (walk1 k n s sub deep left).2 h1.1; omega
    · exact h1
theorem walk1_range (k n : Int) (s : ByteArray) (sub : VL) (deep left : Int) (h : 0 ≤ left) : 0 ≤ (walk1 k n s sub deep left).2 ∧ (walk1 k n s sub deep left).2 ≤ left := by
  have hm := mOf_ge k s
  unfold walk1
  split
  · exact ⟨h, Int.le_refl _⟩
  · split
    · exact ⟨h, Int.le_refl _⟩
    · split
      · have := walkL_range sub (deep + 1) (left - (1 + mOf k s)) (by omega); omega
      · simp only; omega

/-- Values that fit into memory. -/
def VL.fit : VL → Prop
  | .nil => True
  | .cons _ _ s sub rest => s.size ≤ 140737488351232 ∧ sub.len ≤ 140737488351232 ∧ sub.fit ∧ rest.fit
theorem VL.fit_drop : ∀ (i : Nat) (l : VL), l.fit → (l.drop i).fit
  | 0, l, h => by rw [VL.drop]; exact h
  | i + 1, .nil, h => h
  | i + 1, .cons _ _ _ _ r, h => VL.fit_drop i r h.2.2.2
def VL.size : VL → Nat
  | .nil => 0
  | .cons _ _ _ sub rest => sub.size + rest.size + 1
theorem VL.size_drop : ∀ (i : Nat) (l : VL), (l.drop i).size ≤ l.size
  | 0, l => by rw [VL.drop]; exact Nat.le_refl _
  | i + 1, .nil => Nat.le_refl _
  | i + 1, .cons _ _ _ sub r => by have := VL.size_drop i r; simp only [VL.drop, VL.size]; omega

/-- What is left: one number in a block of its own. -/
def LfAt (w : World) (L : Nat) (left : Int) : Prop := w.heap[L]? = some (.cells #[.int .i64 left] 3 (0, 0))
section
variable {w w' : World} {L : Nat} {left : Int}
theorem LfAt.lt (h : LfAt w L left) : L < w.heap.size := by
  rcases Nat.lt_or_ge L w.heap.size with hlt | hge
  · exact hlt
  · unfold LfAt at h; rw [Array.getElem?_eq_none hge] at h; cases h
theorem LfAt.c0 (h : LfAt w L left) : w.cell? ⟨L, 0, none⟩ = some (.int .i64 left) := cell_of_row w L 0 _ _ _ h
theorem LfAt.fr (h : LfAt w L left) : w.frozen? ⟨L, 0, none⟩ = false := by unfold LfAt at h; simp [World.frozen?, h]
theorem LfAt.alloc (h : LfAt w L left) (o : Obj) : LfAt (w.alloc o) L left := (Below.heap_alloc w o L h.lt).trans h
theorem LfAt.set (h : LfAt w L left) (n : Int) : LfAt (w.setCell ⟨L, 0, none⟩ (.int .i64 n)) L n := by
  unfold LfAt at h ⊢; simp [World.setCell, Array.getElem?_modify, h]
theorem LfAt.below (h : LfAt w L left) {B : Nat} (hb : Below B w w') (hL : L < B) : LfAt w' L left := (hb.block L hL).trans h
end
theorem only_alloc {a w : World} {row : Option Nat} (h : a.grownBy w row) (o : Obj) : a.grownBy (w.alloc o) row :=
  ⟨h.os, h.tape, h.output, Nat.le_trans h.size (by simp), fun i hi hne => (Below.heap_alloc w o i (Nat.lt_of_lt_of_le hi h.size)).trans (h.block i hi hne)⟩

theorem StB.below' {w w' : World} {g : Nat} {a b c d : Value} (h : StB w g a b c d) (hb : Below w.heap.size w w') : StB w' g a b c d := (hb.block g h.lt).trans h
theorem only_below' {a w w' : World} {row : Option Nat} (h : Below w.heap.size w w') (hz : a.heap.size ≤ w.heap.size) : w.grownBy w' row := only_below h _

def PWalk (w : World) (L : Nat) (ea : Nat → Addr) (r : Nat × Int) (e : Ending) (w' : World) : Prop := e = .returned (errV ea r.1) ∧ LfAt w' L r.2 ∧ w.grownBy w' (some L)

def WalkC (N : Nat) : Prop := ∀ (k n : Int) (s : ByteArray) (sub : VL) (sa : Option Addr) (sc : Nat) (deep left : Int) (L : Nat) (ea : Nat → Addr) (w : World), sub.size < N → ErrsAt w ea → LfAt w L left → 14 ≤ L →
  s.size ≤ 140737488351232 → sub.len ≤ 140737488351232 → sub.fit → sub.len ≤ sc → RpL w (fun b => b < w.heap.size ∧ b ≠ L) sub sa → 1 ≤ deep → deep ≤ 41 → 0 ≤ left → left ≤ 4096 →
  Calls Tryz.prog 108 #[.agg #[.int .i64 k, .int .i64 n, .string s, .slice sa sub.len sc], .int .i64 deep, .pointer (some ⟨L, 0, none⟩)] w (PWalk w L ea (walk1 k n s sub deep left))

set_option maxRecDepth 100000 in
set_option maxHeartbeats 2000000 in
theorem walk_step (N : Nat) (ih : ∀ N', N' < N → WalkC N') : WalkC N := by
  intro k n s sub sa sc deep left L ea w hN he hlf hL hss hsl hfit hsc hrep hd1 hd2 hl1 hl2
  have hLl := hlf.lt
  obtain ⟨wa, hwa⟩ : ∃ wa, wa = w.alloc (.cells #[.int .i64 k, .int .i64 n, .string s, .slice sa sub.len sc] 24) := ⟨_, rfl⟩
  have hba : Below w.heap.size w wa := by rw [hwa]; exact (Below.refl _ _).alloc (Nat.le_refl _) _
  have hV : StB wa w.heap.size (.int .i64 k) (.int .i64 n) (.string s) (.slice sa sub.len sc) := by rw [hwa]; exact StB.new w _ _ _ _
  have hlfa : LfAt wa L left := hlf.below hba hLl
  have hea : ErrsAt wa ea := he.below hba (Nat.le_of_lt he.room)
  have v0 := hV.c0; have v1 := hV.c1; have v2 := hV.c2; have v3 := hV.c3
  have l0 := hlfa.c0
  have lf0 := hlfa.fr
  have eD := hea.deep
  have eM := hea.many
  have HBA := Lib.hid hba
  have HV := Lib.hid hV
  have HLF := Lib.hid hlfa
  have HE := Lib.hid hea
  clear hV hlfa hea
  subst hwa
  clear hba
  by_cases hdp : 40 < deep
  · have HS := Lib.hid (show walk1 k n s sub deep left = (112, left) by unfold walk1; rw [if_pos hdp])
    go_enter Tryz.func108, Tryz.ntmps108
    go_wp2_with fail
    go_ret
    rw [HS.out]
    exact ⟨rfl, HLF.out, only_below HBA.out _⟩
  have hdp' : deep ≤ 40 := by omega
  clear hdp
  obtain ⟨m, hm⟩ : ∃ m : Int, m = mOf k s := ⟨_, rfl⟩
  have hm0 : 0 ≤ m := by rw [hm, mOf]; split <;> omega
  have hm1 : m ≤ 140737488351232 := by rw [hm, mOf]; split <;> omega
  by_cases hlm : left ≤ m
  · have HS := Lib.hid (show walk1 k n s sub deep left = (104, left) by unfold walk1; rw [if_neg (by omega), ← hm, if_pos hlm])
    by_cases hk : k = 2
    · subst hk
      have hlm' : left ≤ (s.size : Int) := by rw [hm, mOf, if_pos rfl] at hlm; exact hlm
      clear hm hlm hm0 hm1
      go_enter Tryz.func108, Tryz.ntmps108
      go_wp2_with fail
      go_ret
      rw [HS.out]
      exact ⟨rfl, HLF.out, only_below HBA.out _⟩
    · have hk' : (k == 2) = false := by rw [beq_eq_false_iff_ne]; exact hk
      have hlm' : left ≤ 0 := by rw [hm, mOf, if_neg hk] at hlm; exact hlm
      clear hm hlm hm0 hm1 hk
      go_enter Tryz.func108, Tryz.ntmps108
      go_wp2_with fail
      go_ret
      rw [HS.out]
      exact ⟨rfl, HLF.out, only_below HBA.out _⟩
  have hlm' : m < left := by omega
  clear hlm
  have HS := Lib.hid (show walk1 k n s sub deep left = if ownE k n s sub.len = 0 then walkL sub (deep + 1) (left - (1 + m)) else (ownE k n s sub.len, left - (1 + m)) by unfold walk1; rw [if_neg (by omega), ← hm, if_neg (by omega)])
  have HOWN := Lib.hid (fun W hW => own_c k n s sa sub.len sc ea W hW hss)
  by_cases hk : k = 2
  · subst hk
    obtain rfl : m = (s.size : Int) := by rw [hm, mOf, if_pos rfl]
    clear hm
    obtain ⟨w1, hw1⟩ : ∃ w1, w1 = (w.setCell ⟨L, 0, none⟩ (.int .i64 (left - (1 + (s.size : Int))))).alloc (.cells #[.int .i64 2, .int .i64 n, .string s, .slice sa sub.len sc] 24) := ⟨_, rfl⟩
    have HE1 := Lib.hid (show ErrsAt w1 ea by rw [hw1]; exact he.keep (fun b hb => (Below.heap_alloc _ _ _ (by have := he.room; simp [World.setCell]; omega)).trans (Below.heap_setCell _ _ _ _ (by show b ≠ L; omega))) (by simp [World.setCell]))
    have HL1 := Lib.hid (show LfAt w1 L (left - (1 + (s.size : Int))) by rw [hw1]; exact (hlf.set _).alloc _)
    have HV1 := Lib.hid (show StB w1 w.heap.size (.int .i64 2) (.int .i64 n) (.string s) (.slice sa sub.len sc) by rw [hw1]; have := StB.new (w.setCell ⟨L, 0, none⟩ (.int .i64 (left - (1 + (s.size : Int))))) (.int .i64 2) (.int .i64 n) (.string s) (.slice sa sub.len sc); simpa [World.setCell] using this)
    have HG1 := Lib.hid (show w.grownBy w1 (some L) by rw [hw1]; exact only_alloc (only_setCell (only_refl w _) (.inl rfl) _) _)
    have hz1 : w1.heap.size = w.heap.size + 1 := by rw [hw1]; simp [World.setCell]
    have HZ1 := Lib.hid hz1
    have HW1 := Lib.hid hw1
    have u0 := HV1.out.c0; have u1 := HV1.out.c1; have u2 := HV1.out.c2; have u3 := HV1.out.c3
    have u3' := u3
    rw [hw1] at u0 u1 u2 u3
    clear hw1 hz1
    go_enter Tryz.func108, Tryz.ntmps108
    go_wp2_with fail
    rw [← HW1.out]
    clear HW1 u0 u1 u2 u3 v0 v1 v2 v3 l0 lf0 eD eM
    refine (HOWN.out _ HE1.out).mono ?_
    rintro e w2 ⟨rfl, hb2⟩
    have HV2 := Lib.hid (HV1.out.below' hb2)
    have HL2 := Lib.hid (HL1.out.below hb2 HL1.out.lt)
    have HE2 := Lib.hid (HE1.out.below hb2 (Nat.le_of_lt HE1.out.room))
    have HG2 := Lib.hid (only_trans HG1.out (only_below' hb2 HG1.out.size))
    have hz2 : w.heap.size < w2.heap.size := by have := hb2.size; have := HZ1.out; omega
    have x3 := HV2.out.c3
    clear hb2
    obtain ⟨lf, hlf2⟩ : ∃ lf : Int, lf = left - (1 + (s.size : Int)) := ⟨_, rfl⟩
    have hlf0 : 0 ≤ lf := by omega
    have hlf4 : lf ≤ 4096 := by omega
    rw [← hlf2] at HL2 HS
    clear hlf2
    by_cases hoe : ownE 2 n s sub.len = 0
    · rw [if_pos hoe] at HS
      rw [hoe]
      rw [show errV ea 0 = Value.nilIface from rfl]
      have HRP := Lib.hid hrep
      clear hrep
      go_wp2_with fail
      go_loopg [42] sub.len (fun kk v wr => ∃ (i : Nat) (l : Int), v = .int .i64 i ∧ i + kk = sub.len ∧ LfAt wr L l ∧ ErrsAt wr ea ∧ w2.grownBy wr (some L) ∧ 0 ≤ l ∧ l ≤ 4096 ∧ Hid (walkL (sub.drop i) (deep + 1) l = walkL sub (deep + 1) lf))
      case atStart => exact ⟨0, lf, rfl, by omega, HL2.out, HE2.out, only_refl _ _, hlf0, hlf4, by show walkL (sub.drop 0) _ _ = _; rw [VL.drop]⟩
      case round =>
        obtain ⟨i, l, rfl, hik, hlr, her, hgr, hl0, hl4, hwl⟩ := hrel
        by_cases hi : i < sub.len
        · obtain ⟨g, rfl⟩ : ∃ g, gk = g + 1 := ⟨gk - 1, by omega⟩
          obtain ⟨k', n', s', sub', hd⟩ := VL.drop_of_lt i sub hi
          have hrw := HRP.out.grown (only_trans HG2.out hgr) (fun b hb => ⟨hb.1, fun e => by injection e with e; exact hb.2 e⟩)
          obtain ⟨b, o, hsa⟩ : ∃ b o, sa = some ⟨b, o, none⟩ := by
            cases sub with
            | nil => simp [VL.len] at hi
            | cons _ _ _ _ _ => obtain ⟨b, o, _, _, h, _⟩ := hrw; exact ⟨b, o, h⟩
          rw [hsa] at hrw
          have hdr := RpL.drop i sub b o hrw
          rw [hd] at hdr
          obtain ⟨b', o', sa', sc', hA, hSb, c0, c1, c2, c3, hcl, hrs, _⟩ := hdr
          injection hA with hA
          injection hA with hA1 hA2
          subst hA1
          subst hA2
          have hfd := VL.fit_drop i sub hfit
          rw [hd] at hfd
          obtain ⟨hf1, hf2, hf3, _⟩ := hfd
          have hszd := VL.size_drop i sub
          rw [hd] at hszd
          simp only [VL.size] at hszd
          have HWL := Lib.hid hwl
          have HDD := Lib.hid hd
          have HSA := Lib.hid hsa
          subst hsa
          have HRS := Lib.hid hrs
          have HLR := Lib.hid hlr
          have HER := Lib.hid her
          have HGR := Lib.hid hgr
          clear hwl hd hrw hrs hlr her hgr
          rw [Nat.mul_comm 4 i] at c0 c1 c2 c3
          have IHC := Lib.hid (ih (sub'.size + 1) (by omega) k' n' s' sub' sa' sc' (deep + 1) l L ea (wr.alloc (.cells #[.int .i64 k', .int .i64 n', .string s', .slice sa' sub'.len sc'] 24)) (by omega)
            (HER.out.keep (fun b hb => Below.heap_alloc _ _ _ (by have := HER.out.room; omega)) (by simp)) (HLR.out.alloc _) hL hf1 hf2 hf3 hcl
            (HRS.out.keep (fun b hb => Below.heap_alloc _ _ _ (by have := hb.1; have := HG2.out.size; have := HGR.out.size; omega)) (fun b hb => ⟨by have := hb.1; have := HG2.out.size; have := HGR.out.size; simp; omega, hb.2⟩)) (by omega) (by omega) hl0 hl4)
          have HST := Lib.hid (show walkL (sub.drop i) (deep + 1) l = if (walk1 k' n' s' sub' (deep + 1) l).1 = 0 then walkL (sub.drop (i + 1)) (deep + 1) (walk1 k' n' s' sub' (deep + 1) l).2 else walk1 k' n' s' sub' (deep + 1) l by rw [HDD.out, walkL_cons])
          have hrng := walk1_range k' n' s' sub' (deep + 1) l hl0
          obtain ⟨rc, rl, hrr⟩ : ∃ rc rl, walk1 k' n' s' sub' (deep + 1) l = (rc, rl) := ⟨_, _, rfl⟩
          rw [hrr] at IHC HST hrng
          simp only at hrng
          obtain ⟨hrg1, hrg2⟩ := hrng
          clear hrr
          go_wp2_with fail
          refine IHC.out.mono ?_
          rintro e w5 ⟨rfl, hl5, hg5⟩
          have HL5 := Lib.hid hl5
          have HG5 := Lib.hid (only_trans (only_alloc HGR.out _) (show (wr.alloc (.cells #[.int .i64 k', .int .i64 n', .string s', .slice sa' sub'.len sc'] 24)).grownBy w5 (some L) from hg5))
          have HE5 := Lib.hid (HER.out.keep (w' := w5) (fun b hb => (hg5.block b (by have := HER.out.room; simp; omega) (fun e => by injection e with e; omega)).trans (Below.heap_alloc _ _ _ (by have := HER.out.room; omega))) (Nat.le_trans (by simp) hg5.size))
          clear hl5 hg5
          by_cases hrc : rc = 0
          · subst hrc
            have HN := Lib.hid (HST.out.symm.trans HWL.out)
            rw [if_pos rfl] at HN
            rw [show errV ea 0 = Value.nilIface from rfl]
            go_wp2_with fail
            go_roundg g
            case measure => omega
            case rel => exact ⟨i + 1, rl, by go_num, by omega, HL5.out, HE5.out, HG5.out, hrg1, by omega, HN.out⟩
          · have HN := Lib.hid (HST.out.symm.trans HWL.out)
            rw [if_neg hrc] at HN
            have HERR := Lib.hid (show errV ea rc = .iface 224 (.pointer (some (ea rc))) by unfold errV; rw [if_neg hrc])
            rw [HERR.out]
            go_wp2_with fail
            go_ret
            rw [HS.out, ← HN.out, ← HERR.out]
            exact ⟨rfl, HL5.out, only_trans HG2.out HG5.out⟩
        · obtain rfl : i = sub.len := by omega
          rw [VL.drop_len] at hwl
          have HN := Lib.hid hwl
          have HLR := Lib.hid hlr
          have HGR := Lib.hid hgr
          clear hwl hlr hgr her
          go_wp2_with fail
          go_ret
          rw [HS.out, ← HN.out]
          exact ⟨rfl, HLR.out, only_trans HG2.out HGR.out⟩
    · rw [if_neg hoe] at HS
      obtain ⟨oc, hoc⟩ : ∃ oc, oc = ownE 2 n s sub.len := ⟨_, rfl⟩
      rw [← hoc] at HS hoe ⊢
      clear hoc
      have HER := Lib.hid (show errV ea oc = .iface 224 (.pointer (some (ea oc))) by unfold errV; rw [if_neg hoe])
      rw [HER.out]
      go_wp2_with fail
      go_ret
      rw [HS.out, ← HER.out]
      exact ⟨rfl, HL2.out, HG2.out⟩
  · obtain rfl : m = 0 := by rw [hm, mOf, if_neg hk]
    have hk' : (k == 2) = false := by rw [beq_eq_false_iff_ne]; exact hk
    rw [show left - (1 + 0) = left - 1 from by omega] at HS
    clear hm hk
    obtain ⟨w1, hw1⟩ : ∃ w1, w1 = (w.setCell ⟨L, 0, none⟩ (.int .i64 (left - 1))).alloc (.cells #[.int .i64 k, .int .i64 n, .string s, .slice sa sub.len sc] 24) := ⟨_, rfl⟩
    have HE1 := Lib.hid (show ErrsAt w1 ea by rw [hw1]; exact he.keep (fun b hb => (Below.heap_alloc _ _ _ (by have := he.room; simp [World.setCell]; omega)).trans (Below.heap_setCell _ _ _ _ (by show b ≠ L; omega))) (by simp [World.setCell]))
    have HL1 := Lib.hid (show LfAt w1 L (left - 1) by rw [hw1]; exact (hlf.set _).alloc _)
    have HV1 := Lib.hid (show StB w1 w.heap.size (.int .i64 k) (.int .i64 n) (.string s) (.slice sa sub.len sc) by rw [hw1]; have := StB.new (w.setCell ⟨L, 0, none⟩ (.int .i64 (left - 1))) (.int .i64 k) (.int .i64 n) (.string s) (.slice sa sub.len sc); simpa [World.setCell] using this)
    have HG1 := Lib.hid (show w.grownBy w1 (some L) by rw [hw1]; exact only_alloc (only_setCell (only_refl w _) (.inl rfl) _) _)
    have hz1 : w1.heap.size = w.heap.size + 1 := by rw [hw1]; simp [World.setCell]
    have HZ1 := Lib.hid hz1
    have HW1 := Lib.hid hw1
    have u0 := HV1.out.c0; have u1 := HV1.out.c1; have u2 := HV1.out.c2; have u3 := HV1.out.c3
    have u3' := u3
    rw [hw1] at u0 u1 u2 u3
    clear hw1 hz1
    go_enter Tryz.func108, Tryz.ntmps108
    go_wp2_with fail
    rw [← HW1.out]
    clear HW1 u0 u1 u2 u3 v0 v1 v2 v3 l0 lf0 eD eM
    refine (HOWN.out _ HE1.out).mono ?_
    rintro e w2 ⟨rfl, hb2⟩
    have HV2 := Lib.hid (HV1.out.below' hb2)
    have HL2 := Lib.hid (HL1.out.below hb2 HL1.out.lt)
    have HE2 := Lib.hid (HE1.out.below hb2 (Nat.le_of_lt HE1.out.room))
    have HG2 := Lib.hid (only_trans HG1.out (only_below' hb2 HG1.out.size))
    have hz2 : w.heap.size < w2.heap.size := by have := hb2.size; have := HZ1.out; omega
    have x3 := HV2.out.c3
    clear hb2
    obtain ⟨lf, hlf2⟩ : ∃ lf : Int, lf = left - 1 := ⟨_, rfl⟩
    have hlf0 : 0 ≤ lf := by omega
    have hlf4 : lf ≤ 4096 := by omega
    rw [← hlf2] at HL2 HS
    clear hlf2
    by_cases hoe : ownE k n s sub.len = 0
    · rw [if_pos hoe] at HS
      rw [hoe]
      rw [show errV ea 0 = Value.nilIface from rfl]
      have HRP := Lib.hid hrep
      clear hrep
      go_wp2_with fail
      go_loopg [42] sub.len (fun kk v wr => ∃ (i : Nat) (l : Int), v = .int .i64 i ∧ i + kk = sub.len ∧ LfAt wr L l ∧ ErrsAt wr ea ∧ w2.grownBy wr (some L) ∧ 0 ≤ l ∧ l ≤ 4096 ∧ Hid (walkL (sub.drop i) (deep + 1) l = walkL sub (deep + 1) lf))
      case atStart => exact ⟨0, lf, rfl, by omega, HL2.out, HE2.out, only_refl _ _, hlf0, hlf4, by show walkL (sub.drop 0) _ _ = _; rw [VL.drop]⟩
      case round =>
        obtain ⟨i, l, rfl, hik, hlr, her, hgr, hl0, hl4, hwl⟩ := hrel
        by_cases hi : i < sub.len
        · obtain ⟨g, rfl⟩ : ∃ g, gk = g + 1 := ⟨gk - 1, by omega⟩
          obtain ⟨k', n', s', sub', hd⟩ := VL.drop_of_lt i sub hi
          have hrw := HRP.out.grown (only_trans HG2.out hgr) (fun b hb => ⟨hb.1, fun e => by injection e with e; exact hb.2 e⟩)
          obtain ⟨b, o, hsa⟩ : ∃ b o, sa = some ⟨b, o, none⟩ := by
            cases sub with
            | nil => simp [VL.len] at hi
            | cons _ _ _ _ _ => obtain ⟨b, o, _, _, h, _⟩ := hrw; exact ⟨b, o, h⟩
          rw [hsa] at hrw
          have hdr := RpL.drop i sub b o hrw
          rw [hd] at hdr
          obtain ⟨b', o', sa', sc', hA, hSb, c0, c1, c2, c3, hcl, hrs, _⟩ := hdr
          injection hA with hA
          injection hA with hA1 hA2
          subst hA1
          subst hA2
          have hfd := VL.fit_drop i sub hfit
          rw [hd] at hfd
          obtain ⟨hf1, hf2, hf3, _⟩ := hfd
          have hszd := VL.size_drop i sub
          rw [hd] at hszd
          simp only [VL.size] at hszd
          have HWL := Lib.hid hwl
          have HDD := Lib.hid hd
          have HSA := Lib.hid hsa
          subst hsa
          have HRS := Lib.hid hrs
          have HLR := Lib.hid hlr
          have HER := Lib.hid her
          have HGR := Lib.hid hgr
          clear hwl hd hrw hrs hlr her hgr
          rw [Nat.mul_comm 4 i] at c0 c1 c2 c3
          have IHC := Lib.hid (ih (sub'.size + 1) (by omega) k' n' s' sub' sa' sc' (deep + 1) l L ea (wr.alloc (.cells #[.int .i64 k', .int .i64 n', .string s', .slice sa' sub'.len sc'] 24)) (by omega)
            (HER.out.keep (fun b hb => Below.heap_alloc _ _ _ (by have := HER.out.room; omega)) (by simp)) (HLR.out.alloc _) hL hf1 hf2 hf3 hcl
            (HRS.out.keep (fun b hb => Below.heap_alloc _ _ _ (by have := hb.1; have := HG2.out.size; have := HGR.out.size; omega)) (fun b hb => ⟨by have := hb.1; have := HG2.out.size; have := HGR.out.size; simp; omega, hb.2⟩)) (by omega) (by omega) hl0 hl4)
          have HST := Lib.hid (show walkL (sub.drop i) (deep + 1) l = if (walk1 k' n' s' sub' (deep + 1) l).1 = 0 then walkL (sub.drop (i + 1)) (deep + 1) (walk1 k' n' s' sub' (deep + 1) l).2 else walk1 k' n' s' sub' (deep + 1) l by rw [HDD.out, walkL_cons])
          have hrng := walk1_range k' n' s' sub' (deep + 1) l hl0
          obtain ⟨rc, rl, hrr⟩ : ∃ rc rl, walk1 k' n' s' sub' (deep + 1) l = (rc, rl) := ⟨_, _, rfl⟩
          rw [hrr] at IHC HST hrng
          simp only at hrng
          obtain ⟨hrg1, hrg2⟩ := hrng
          clear hrr
          go_wp2_with fail
          refine IHC.out.mono ?_
          rintro e w5 ⟨rfl, hl5, hg5⟩
          have HL5 := Lib.hid hl5
          have HG5 := Lib.hid (only_trans (only_alloc HGR.out _) (show (wr.alloc (.cells #[.int .i64 k', .int .i64 n', .string s', .slice sa' sub'.len sc'] 24)).grownBy w5 (some L) from hg5))
          have HE5 := Lib.hid (HER.out.keep (w' := w5) (fun b hb => (hg5.block b (by have := HER.out.room; simp; omega) (fun e => by injection e with e; omega)).trans (Below.heap_alloc _ _ _ (by have := HER.out.room; omega))) (Nat.le_trans (by simp) hg5.size))
          clear hl5 hg5
          by_cases hrc : rc = 0
          · subst hrc
            have HN := Lib.hid (HST.out.symm.trans HWL.out)
            rw [if_pos rfl] at HN
            rw [show errV ea 0 = Value.nilIface from rfl]
            go_wp2_with fail
            go_roundg g
            case measure => omega
            case rel => exact ⟨i + 1, rl, by go_num, by omega, HL5.out, HE5.out, HG5.out, hrg1, by omega, HN.out⟩
          · have HN := Lib.hid (HST.out.symm.trans HWL.out)
            rw [if_neg hrc] at HN
            have HERR := Lib.hid (show errV ea rc = .iface 224 (.pointer (some (ea rc))) by unfold errV; rw [if_neg hrc])
            rw [HERR.out]
            go_wp2_with fail
            go_ret
            rw [HS.out, ← HN.out, ← HERR.out]
            exact ⟨rfl, HL5.out, only_trans HG2.out HG5.out⟩
        · obtain rfl : i = sub.len := by omega
          rw [VL.drop_len] at hwl
          have HN := Lib.hid hwl
          have HLR := Lib.hid hlr
          have HGR := Lib.hid hgr
          clear hwl hlr hgr her
          go_wp2_with fail
          go_ret
          rw [HS.out, ← HN.out]
          exact ⟨rfl, HLR.out, only_trans HG2.out HGR.out⟩
    · rw [if_neg hoe] at HS
      obtain ⟨oc, hoc⟩ : ∃ oc, oc = ownE k n s sub.len := ⟨_, rfl⟩
      rw [← hoc] at HS hoe ⊢
      clear hoc
      have HER := Lib.hid (show errV ea oc = .iface 224 (.pointer (some (ea oc))) by unfold errV; rw [if_neg hoe])
      rw [HER.out]
      go_wp2_with fail
      go_ret
      rw [HS.out, ← HER.out]
      exact ⟨rfl, HL2.out, HG2.out⟩

theorem walk_c (N : Nat) : WalkC N := by
  induction N using Nat.strongRecOn with
  | _ N ih => exact walk_step N ih
end Go.Proofs.YtbalpfpcbckghaaGreatDoor
namespace Go.Proofs.YtbalpfpcbckghaaGreatDoor
open Go.RowKit Go.Lib
set_option linter.unusedVariables false

theorem ret_val {a b : Value} (h : a = b) : Ending.returned a = .returned b := by rw [h]
theorem LfAt.new (W : World) (n : Int) : LfAt (W.alloc (.cells #[.int .i64 n] 3)) W.heap.size n := by unfold LfAt World.alloc; simp

set_option maxHeartbeats 1000000 in
theorem valid_c (k n : Int) (s : ByteArray) (sub : VL) (sa : Option Addr) (sc : Nat) (ea : Nat → Addr) (w : World) (he : ErrsAt w ea) (hs : s.size ≤ 140737488351232) (hl : sub.len ≤ 140737488351232) (hf : sub.fit) (hsc : sub.len ≤ sc)
    (hr : RpL w (fun b => b < w.heap.size) sub sa) :
    Calls Tryz.prog 67 #[.agg #[.int .i64 k, .int .i64 n, .string s, .slice sa sub.len sc]] w fun e w' => e = .returned (errV ea (walk1 k n s sub 1 4096).1) ∧ Below w.heap.size w w' := by
  have hroom := he.room
  obtain ⟨wa, hwa⟩ : ∃ wa, wa = (w.alloc (.cells #[.int .i64 k, .int .i64 n, .string s, .slice sa sub.len sc] 24)).alloc (.cells #[.int .i64 4096] 3) := ⟨_, rfl⟩
  have hb : Below w.heap.size w wa := by rw [hwa]; exact ((Below.refl _ _).alloc (Nat.le_refl _) _).alloc (by simp) _
  have hV : StB wa w.heap.size (.int .i64 k) (.int .i64 n) (.string s) (.slice sa sub.len sc) := by rw [hwa]; exact (StB.new w _ _ _ _).alloc _
  have hL : LfAt wa (w.heap.size + 1) 4096 := by rw [hwa]; have := LfAt.new (w.alloc (.cells #[.int .i64 k, .int .i64 n, .string s, .slice sa sub.len sc] 24)) 4096; simpa using this
  have hwz : wa.heap.size = w.heap.size + 2 := by rw [hwa]; simp
  have WC := Lib.hid (walk_c (sub.size + 1) k n s sub sa sc 1 4096 (w.heap.size + 1) ea wa (by omega) (he.below hb (by omega)) hL (by omega) hs hl hf hsc
    (hr.keep (fun b hlt => hb.block b hlt) (fun b hlt => ⟨by omega, by omega⟩)) (by omega) (by omega) (by omega) (by omega))
  have v0 := hV.c0; have v1 := hV.c1; have v2 := hV.c2; have v3 := hV.c3
  have HB := Lib.hid hb
  have HWA := Lib.hid hwa
  have HWZ := Lib.hid hwz
  rw [hwa] at v0 v1 v2 v3
  clear hb hV hL hwa hwz hr
  go_enter Tryz.func67, Tryz.ntmps67
  go_wp2_with fail
  rw [← HWA.out]
  refine WC.out.mono ?_
  rintro e w5 ⟨rfl, hl5, hg5⟩
  have HG := Lib.hid hg5
  clear hg5 hl5 HWA v0 v1 v2 v3
  by_cases hc : (walk1 k n s sub 1 4096).1 = 0
  · have HC := Lib.hid hc
    rw [hc, show errV ea 0 = Value.nilIface from rfl]
    clear hc
    go_wp2_with fail
    go_ret
    exact ⟨ret_val (by rw [HC.out]; rfl), HB.out.trans ⟨HG.out.os, HG.out.tape, HG.out.output, HG.out.size, fun b hb => HG.out.block b (by have := HWZ.out; omega) (fun e => by injection e with e; omega)⟩⟩
  · have HERR := Lib.hid (show errV ea (walk1 k n s sub 1 4096).1 = .iface 224 (.pointer (some (ea (walk1 k n s sub 1 4096).1))) by unfold errV; rw [if_neg hc])
    clear hc
    rw [HERR.out]
    go_wp2_with fail
    go_ret
    exact ⟨ret_val HERR.out.symm, HB.out.trans ⟨HG.out.os, HG.out.tape, HG.out.output, HG.out.size, fun b hb => HG.out.block b (by have := HWZ.out; omega) (fun e => by injection e with e; omega)⟩⟩
end Go.Proofs.YtbalpfpcbckghaaGreatDoor
namespace Go.Proofs.YtbalpfpcbckghaaGreatDoor
open Go.RowKit Go.Lib
set_option linter.unusedVariables false

/-- A struct of four cells and an error handed back. -/
theorem ret_cell4_tmp {fn : Func} {p u : Tmp} {Q : Ending → World → Prop} {act : Act} {w : World} (h : fn.results = #[.cell p 24, .tmp u]) (g : Nat) (hp : act.tmps.getD p undef = .pointer (some ⟨g, 0, none⟩)) (hd : act.defers = [])
    {a b c d : Value} (hS : StB w g a b c d) (hQ : Q (.returned (.tuple #[.agg #[a, b, c, d], act.tmps.getD u undef])) w) : bodyPost Tryz.prog fn Q .ret act w := by
  refine bodyPost_ret (v := .tuple #[.agg #[a, b, c, d], act.tmps.getD u undef]) ?_ hd hQ
  have c0 := hS.c0
  have c1 := hS.c1
  have c2 := hS.c2
  have c3 := hS.c3
  have hp' : (act.tmps[p]?).getD undef = .pointer (some ⟨g, 0, none⟩) := by simpa using hp
  simp [results, h, hp', go_sem, c0, c1, c2, c3]

theorem RdBad.a {w w5 : World} (hb : Below w.heap.size w w5) (hz : w.heap.size < w5.heap.size) {a b c d : Value} (H : StB w5 w.heap.size a b c d) (o : Obj) (a' b' c' d' : Value) :
    let W' := (((((w5.setCell ⟨w.heap.size, 0, none⟩ a').setCell ⟨w.heap.size, 1, none⟩ b').setCell ⟨w.heap.size, 2, none⟩ c').setCell ⟨w.heap.size, 3, none⟩ d').alloc o).drew
    StB W' w.heap.size a' b' c' d' ∧ Below w.heap.size w W' ∧ W'.heap[w5.heap.size]? = some o := by
  refine ⟨(H.set4 a' b' c' d').alloc o, ?_, ?_⟩
  · refine Below.drew (Below.alloc (Below.setCell (Below.setCell (Below.setCell (Below.setCell hb ?_ _) ?_ _) ?_ _) ?_ _) ?_ _)
    · exact Nat.le_refl _
    · exact Nat.le_refl _
    · exact Nat.le_refl _
    · exact Nat.le_refl _
    · rw [size_set4]; omega
  · have h : ∀ W : World, (W.alloc o).drew.heap[W.heap.size]? = some o := fun W => by
      show (W.alloc o).heap[W.heap.size]? = some o
      unfold World.alloc; simp
    have := h ((((w5.setCell ⟨w.heap.size, 0, none⟩ a').setCell ⟨w.heap.size, 1, none⟩ b').setCell ⟨w.heap.size, 2, none⟩ c').setCell ⟨w.heap.size, 3, none⟩ d')
    rw [size_set4] at this; exact this
theorem RdBad.b {w w5 : World} (hb : Below w.heap.size w w5) (hz : w.heap.size < w5.heap.size) {a b c d : Value} (H : StB w5 w.heap.size a b c d) (o : Obj) (a' b' c' d' : Value) :
    let W' := (((((w5.alloc o).setCell ⟨w.heap.size, 0, none⟩ a').setCell ⟨w.heap.size, 1, none⟩ b').setCell ⟨w.heap.size, 2, none⟩ c').setCell ⟨w.heap.size, 3, none⟩ d').drew
    StB W' w.heap.size a' b' c' d' ∧ Below w.heap.size w W' ∧ W'.heap[w5.heap.size]? = some o := by
  refine ⟨(H.alloc o).set4 a' b' c' d', ?_, ?_⟩
  · refine Below.drew (Below.setCell (Below.setCell (Below.setCell (Below.setCell (Below.alloc hb (by omega) _) ?_ _) ?_ _) ?_ _) ?_ _)
    · exact Nat.le_refl _
    · exact Nat.le_refl _
    · exact Nat.le_refl _
    · exact Nat.le_refl _
  · show ((((((w5.alloc o).setCell ⟨w.heap.size, 0, none⟩ a').setCell ⟨w.heap.size, 1, none⟩ b').setCell ⟨w.heap.size, 2, none⟩ c').setCell ⟨w.heap.size, 3, none⟩ d').heap[w5.heap.size]?) = _
    rw [heap_set4 _ _ _ _ _ _ _ (by omega)]; unfold World.alloc; simp
theorem StB.below {w w' : World} {g : Nat} {a b c d : Value} {B : Nat} (h : StB w g a b c d) (hb : Below B w w') (hB : g < B) : StB w' g a b c d := (hb.block g hB).trans h
theorem below_set4 {w w' : World} {B : Nat} (h : Below B w w') {g : Nat} (hg : B ≤ g) (a b c d : Value) :
    Below B w ((((w'.setCell ⟨g, 0, none⟩ a).setCell ⟨g, 1, none⟩ b).setCell ⟨g, 2, none⟩ c).setCell ⟨g, 3, none⟩ d) :=
  Below.setCell (Below.setCell (Below.setCell (Below.setCell h hg _) hg _) hg _) hg _
theorem below_le' {B B' : Nat} {w w' : World} (h : Below B w w') (hb : B' ≤ B) : Below B' w w' := ⟨h.os, h.tape, h.output, h.size, fun k hk => h.block k (by omega)⟩

end Go.Proofs.YtbalpfpcbckghaaGreatDoor
namespace Go.Proofs.YtbalpfpcbckghaaGreatDoor
open Go.RowKit Go.Lib
set_option linter.unusedVariables false

end Go.Proofs.YtbalpfpcbckghaaGreatDoor
namespace Go.Proofs.YtbalpfpcbckghaaGreatDoor
open Go.RowKit Go.Lib
set_option linter.unusedVariables false

/-- The name of a code; empty: there is none. -/
def nmS (c : Int) : ByteArray := if 0 ≤ c ∧ c ≤ 14 then nmL.getD c.toNat ByteArray.empty else ⟨#[]⟩
theorem ret_two {a b c d : Value} (h : a = c) (h2 : b = d) : Ending.returned (.tuple #[a, b]) = .returned (.tuple #[c, d]) := by rw [h, h2]
set_option maxHeartbeats 1000000 in
theorem name_l (c : Int) (w : World) (h0 : -9223372036854775808 ≤ c) (h1 : c ≤ 9223372036854775807) :
    Calls Tryz.prog 148 #[.int .i64 c] w fun e w' => e = .returned (.string (nmS c)) ∧ Below w.heap.size w w' := by
  have NC := Lib.hid (names_c w)
  have hb : Below w.heap.size w (w.alloc (.cells (nmL.map Value.string).toArray 9)) := (Below.refl _ _).alloc (Nat.le_refl _) _
  have HB := Lib.hid hb
  clear hb
  by_cases hl : c < 0
  · have HN := Lib.hid (show nmS c = ⟨#[]⟩ by unfold nmS; rw [if_neg (by omega)])
    have hd : decide (c < 0) = true := by simp; omega
    go_enter Tryz.func148, Tryz.ntmps148
    go_wp2_with fail
    refine NC.out.mono ?_
    rintro e w2 ⟨rfl, rfl⟩
    go_wp2_with fail
    go_returns
    exact ⟨ret_str HN.out.symm, HB.out⟩
  by_cases hh : 14 < c
  · have HN := Lib.hid (show nmS c = ⟨#[]⟩ by unfold nmS; rw [if_neg (by omega)])
    have hd : decide (c < 0) = false := by simp; omega
    have hd2 : decide (c ≥ 15) = true := by simp; omega
    have hd3 : decide (15 ≤ c) = true := by simp; omega
    go_enter Tryz.func148, Tryz.ntmps148
    go_wp2_with fail
    refine NC.out.mono ?_
    rintro e w2 ⟨rfl, rfl⟩
    go_wp2_with fail
    go_returns
    exact ⟨ret_str HN.out.symm, HB.out⟩
  · obtain ⟨j, rfl⟩ : ∃ j : Nat, c = j := ⟨c.toNat, by omega⟩
    have HN := Lib.hid (show nmS (j : Int) = nmL.getD j ByteArray.empty by unfold nmS; rw [if_pos (by omega)]; simp)
    have hcell : (w.alloc (.cells (nmL.map Value.string).toArray 9)).cell? ⟨w.heap.size, j, none⟩ = some (.string (nmL.getD j ByteArray.empty)) := names_cell w j (by omega) 0
    have hd : decide ((j : Int) < 0) = false := by simp
    have hd3 : decide (15 ≤ (j : Int)) = false := by simp; omega
    have hj : j < 15 := by omega
    have hd4 : decide (15 ≤ j) = false := by simp; omega
    go_enter Tryz.func148, Tryz.ntmps148
    go_wp2_with fail
    refine NC.out.mono ?_
    rintro e w2 ⟨rfl, rfl⟩
    go_wp2_with fail
    go_returns
    exact ⟨ret_str HN.out.symm, HB.out⟩

set_option maxHeartbeats 4000000 in
theorem name_r (c : Int) (w : World) (h0 : -9223372036854775808 ≤ c) (h1 : c ≤ 9223372036854775807) :
    Calls Tryz.prog 70 #[.int .i64 c] w fun e w' => e = .returned (.string (nmS c)) ∧ w = w' := by
  by_cases hin : 0 ≤ c ∧ c ≤ 14
  · obtain ⟨j, rfl⟩ : ∃ j : Nat, c = j := ⟨c.toNat, by omega⟩
    have hj : j < 15 := by omega
    have hcases : j = 0 ∨ j = 1 ∨ j = 2 ∨ j = 3 ∨ j = 4 ∨ j = 5 ∨ j = 6 ∨ j = 7 ∨ j = 8 ∨ j = 9 ∨ j = 10 ∨ j = 11 ∨ j = 12 ∨ j = 13 ∨ j = 14 := by omega
    clear h0 h1 hin hj
    rcases hcases with rfl | rfl | rfl | rfl | rfl | rfl | rfl | rfl | rfl | rfl | rfl | rfl | rfl | rfl | rfl <;>
    · go_enter Tryz.func70, Tryz.ntmps70
      go_wp2_with fail
      go_returns
      exact ⟨rfl, rfl⟩
  · have HN := Lib.hid (show nmS c = ⟨#[]⟩ by unfold nmS; rw [if_neg hin])
    have n0 : decide (c = 0) = false := by simp; omega
    have n1 : decide (c = 1) = false := by simp; omega
    have n2 : decide (c = 2) = false := by simp; omega
    have n3 : decide (c = 3) = false := by simp; omega
    have n4 : decide (c = 4) = false := by simp; omega
    have n5 : decide (c = 5) = false := by simp; omega
    have n6 : decide (c = 6) = false := by simp; omega
    have n7 : decide (c = 7) = false := by simp; omega
    have n8 : decide (c = 8) = false := by simp; omega
    have n9 : decide (c = 9) = false := by simp; omega
    have n10 : decide (c = 10) = false := by simp; omega
    have n11 : decide (c = 11) = false := by simp; omega
    have n12 : decide (c = 12) = false := by simp; omega
    have n13 : decide (c = 13) = false := by simp; omega
    have n14 : decide (c = 14) = false := by simp; omega
    go_enter Tryz.func70, Tryz.ntmps70
    go_wp2_with fail
    go_returns
    exact ⟨ret_str HN.out.symm, rfl⟩

theorem str_ne {a b : ByteArray} (h : ¬ a = b) : (a.toList == b.toList) = false := by
  rw [Lib.toList_data, Lib.toList_data, beq_eq_false_iff_ne]
  intro e
  apply h
  rcases a with ⟨⟨a⟩⟩; rcases b with ⟨⟨b⟩⟩
  exact congrArg (fun l => (⟨⟨l⟩⟩ : ByteArray)) e
theorem str_eq (a : ByteArray) : (a.toList == a.toList) = true := by rw [beq_iff_eq]
theorem nmS_at (j : Nat) (h : j < 15) : nmS (j : Int) = nmL.getD j ByteArray.empty := by unfold nmS; rw [if_pos (by omega)]; simp
end Go.Proofs.YtbalpfpcbckghaaGreatDoor
namespace Go.Proofs.YtbalpfpcbckghaaGreatDoor
open Go.RowKit Go.Lib
set_option linter.unusedVariables false

def numV (s : ByteArray) : Int := (refNum s.data.toList).getD 0
def numB (s : ByteArray) : Bool := (refNum s.data.toList).isSome
theorem num_none {s : ByteArray} (h : refNum s.data.toList = none) : (Value.int .i64 0 = .int .i64 (numV s)) ∧ (Value.bool false = .bool (numB s)) := by unfold numV numB; rw [h]; exact ⟨rfl, rfl⟩
theorem num_some {s : ByteArray} {v : Int} (h : refNum s.data.toList = some v) : (Value.int .i64 v = .int .i64 (numV s)) ∧ (Value.bool true = .bool (numB s)) := by unfold numV numB; rw [h]; exact ⟨rfl, rfl⟩

/-- What strconv's package-level variables hold. -/
structure StrcAt (w : World) : Prop where
  syn : ∃ te pe, w.cell? ⟨10, 0, none⟩ = some (.iface te pe)
  rng : ∃ te pe, w.cell? ⟨11, 0, none⟩ = some (.iface te pe)
  tab : TabIs Tryz.prog w "internal/strconv.uint64pow10" .u64 pow10Tab
  room : 14 < w.heap.size
theorem StrcAt.below {w w' : World} {B : Nat} (h : StrcAt w) (hb : Below B w w') (hB : w.heap.size ≤ B) : StrcAt w' := by
  have hk : ∀ p : Addr, p.block < w.heap.size → w'.cell? p = w.cell? p := fun p hp => World.cell?_of_block (w := w) (hb.block p.block (by omega))
  have hr := h.room
  obtain ⟨t1, p1, h1⟩ := h.syn
  obtain ⟨t2, p2, h2⟩ := h.rng
  exact ⟨⟨t1, p1, (hk ⟨10, 0, none⟩ (Nat.lt_trans (by decide) hr)).trans h1⟩, ⟨t2, p2, (hk ⟨11, 0, none⟩ (Nat.lt_trans (by decide) hr)).trans h2⟩, Joins.tab_stays (g := 7) rfl h.tab hb hB, by have := hb.size; omega⟩

set_option maxHeartbeats 1000000 in
theorem number_l (s : ByteArray) (w : World) (hs : s.size ≤ 1000000000) (h : StrcAt w) :
    Calls Tryz.prog 92 #[.string s] w fun e w' => e = .returned (.tuple #[.int .i64 (numV s), .bool (numB s)]) ∧ Below w.heap.size w w' := by
  obtain ⟨cv, hcv⟩ : ∃ cv : Int, cv = numV s := ⟨_, rfl⟩
  obtain ⟨cb, hcb⟩ : ∃ cb : Bool, cb = numB s := ⟨_, rfl⟩
  rw [← hcv, ← hcb]
  rcases hp : parseIntB 64 s.data.toList with v | _ | _
  rotate_left
  · have hn : refNum s.data.toList = none := by
      cases hq : refNum s.data.toList with
      | none => rfl
      | some v => have := ((num_iff _ _).1 hq).1; rw [hp] at this; cases this
    obtain ⟨te, pe, hv⟩ := h.syn
    have PC := Lib.hid (Tryz.strconv_ParseInt_10_at64_syntax s (by omega) (fun v e => by rw [hp] at e; cases e) (fun e => by rw [hp] at e; cases e) _ w hv (.inr ⟨te, pe, rfl⟩))
    have HM := Lib.hid (num_none hn)
    rw [← hcv, ← hcb] at HM
    clear hp hn hv h hcv hcb
    go_enter Tryz.func92, Tryz.ntmps92
    go_wp2_with fail
    refine PC.out.mono ?_
    rintro e w2 ⟨N, rfl, _, _, hb⟩
    have HB := Lib.hid hb
    clear hb
    go_wp2_with fail
    go_returns
    exact ⟨ret_two HM.out.1 HM.out.2, HB.out⟩
  · have hn : refNum s.data.toList = none := by
      cases hq : refNum s.data.toList with
      | none => rfl
      | some v => have := ((num_iff _ _).1 hq).1; rw [hp] at this; cases this
    obtain ⟨te, pe, hv⟩ := h.rng
    have PC := Lib.hid (Tryz.strconv_ParseInt_10_at64_range s (by omega) hp _ w hv (.inr ⟨te, pe, rfl⟩))
    have HM := Lib.hid (num_none hn)
    rw [← hcv, ← hcb] at HM
    clear hp hn hv h hcv hcb
    go_enter Tryz.func92, Tryz.ntmps92
    go_wp2_with fail
    refine PC.out.mono ?_
    rintro e w2 ⟨N, rfl, _, _, hb⟩
    have HB := Lib.hid hb
    clear hb
    go_wp2_with fail
    go_returns
    exact ⟨ret_two HM.out.1 HM.out.2, HB.out⟩
  · have hbd := parseIntB_bounds hp
    have PC := Lib.hid (Tryz.strconv_ParseInt_10_at64_ok s (by omega) v hp w)
    have HS := Lib.hid h
    have FC := fun (W : World) (hW : StrcAt W) => Lib.hid (Tryz.strconv_FormatInt_10 v (by simpa using hbd.1) (by have := hbd.2; simp at this; omega) W hW.tab)
    obtain ⟨t, ht⟩ : ∃ t : ByteArray, t = ⟨(itoa v).toArray⟩ := ⟨_, rfl⟩
    rw [← ht] at FC
    by_cases he : t = s
    · have hn : refNum s.data.toList = some v := (num_iff _ _).2 ⟨hp, by rw [← he, ht]⟩
      have HM := Lib.hid (num_some hn)
      rw [← hcv, ← hcb] at HM
      rw [he] at FC
      have hse := str_eq s
      clear hp hn h hcv hcb ht he hbd
      go_enter Tryz.func92, Tryz.ntmps92
      go_wp2_with fail
      refine PC.out.mono ?_
      rintro e w2 ⟨rfl, hw⟩
      have HB := Lib.hid (show Below w.heap.size w w2 by
        rcases hw with rfl | ⟨t, rfl⟩
        · exact Below.refl _ _
        · exact bytesWorld_below _ _ _)
      clear hw
      go_wp2_with fail
      refine (FC w2 (HS.out.below HB.out (Nat.le_refl _))).out.mono ?_
      rintro e w3 ⟨rfl, k, os, hw3⟩
      have HB3 := Lib.hid (show Below w.heap.size w w3 by rw [hw3]; exact HB.out.trans (below_grow _ _ HB.out.size _ _))
      clear hw3
      go_wp2_with fail
      go_returns
      exact ⟨ret_two HM.out.1 HM.out.2, HB3.out⟩
    · have hn : refNum s.data.toList = none := by
        cases hq : refNum s.data.toList with
        | none => rfl
        | some v' =>
          obtain ⟨h1, h2⟩ := (num_iff _ _).1 hq
          rw [hp] at h1
          injection h1 with h1
          subst h1
          exact absurd (by rw [ht, h2]) he
      have HM := Lib.hid (num_none hn)
      rw [← hcv, ← hcb] at HM
      have hse := str_ne he
      clear hp hn h hcv hcb ht he hbd
      go_enter Tryz.func92, Tryz.ntmps92
      go_wp2_with fail
      refine PC.out.mono ?_
      rintro e w2 ⟨rfl, hw⟩
      have HB := Lib.hid (show Below w.heap.size w w2 by
        rcases hw with rfl | ⟨t, rfl⟩
        · exact Below.refl _ _
        · exact bytesWorld_below _ _ _)
      clear hw
      go_wp2_with fail
      refine (FC w2 (HS.out.below HB.out (Nat.le_refl _))).out.mono ?_
      rintro e w3 ⟨rfl, k, os, hw3⟩
      have HB3 := Lib.hid (show Below w.heap.size w w3 by rw [hw3]; exact HB.out.trans (below_grow _ _ HB.out.size _ _))
      clear hw3
      go_wp2_with fail
      go_returns
      exact ⟨ret_two HM.out.1 HM.out.2, HB3.out⟩
end Go.Proofs.YtbalpfpcbckghaaGreatDoor
namespace Go.Proofs.YtbalpfpcbckghaaGreatDoor
open Go.RowKit Go.Lib
set_option linter.unusedVariables false

end Go.Proofs.YtbalpfpcbckghaaGreatDoor
namespace Go.Proofs.YtbalpfpcbckghaaGreatDoor
open Go.RowKit Go.Lib
set_option linter.unusedVariables false

end Go.Proofs.YtbalpfpcbckghaaGreatDoor
namespace Go.Proofs.YtbalpfpcbckghaaGreatDoor
open Go.RowKit Go.Lib
set_option linter.unusedVariables false

/-- Each byte c as another text. -/
def repL (c : UInt8) (new : List UInt8) : List UInt8 → List UInt8
  | [] => []
  | x :: r => if x = c then new ++ repL c new r else x :: repL c new r
theorem replaceK_one (c : UInt8) (new : List UInt8) : ∀ l : List UInt8, replaceK [c] new (count l [c]) l = repL c new l
  | [] => by rw [show count [] [c] = 0 from by rw [count_one]; rfl]; rfl
  | x :: r => by
    by_cases h : x = c
    · subst h
      have hi : index (x :: r) [x] = ((0 : Nat) : Int) := by rw [index_one]; simp [indexByte]
      rw [count_cons_eq, Nat.add_comm, replaceK_hit _ _ _ _ 0 hi]
      simp only [List.take_zero, List.nil_append, Nat.zero_add, List.length_singleton, List.drop_succ_cons, List.drop_zero]
      rw [replaceK_one x new r, repL, if_pos rfl]
    · rw [count_cons_ne _ _ _ h, repL, if_neg h, ← replaceK_one c new r]
      cases hk : count r [c] with
      | zero => rfl
      | succ k =>
        obtain ⟨i, hi⟩ := index_of_count (s := r) (old := [c]) (by omega)
        have hi2 : index (x :: r) [c] = ((i + 1 : Nat) : Int) := by
          rw [index_one] at hi ⊢
          rw [indexByte, if_neg (by simpa using h), hi]
          split
          · rename_i e; have := beq_iff_eq.1 e; omega
          · rw [Int.natCast_add]; rfl
        rw [replaceK_hit _ _ _ _ i hi, replaceK_hit _ _ _ _ (i + 1) hi2]
        simp only [List.take_succ_cons, List.cons_append, List.length_singleton, List.drop_succ_cons]
theorem replaceAll_one (c : UInt8) (new l : List UInt8) (h : new ≠ [c]) : replaceAll l [c] new = repL c new l := by
  unfold replaceAll replace replaceNum
  rw [if_neg (by simpa using fun e => h e.symm), if_pos (.inl (by decide)), replaceK_one]
theorem repL_app (c : UInt8) (new : List UInt8) : ∀ a b : List UInt8, repL c new (a ++ b) = repL c new a ++ repL c new b
  | [], b => rfl
  | x :: r, b => by
    rw [List.cons_append, repL, repL, repL_app c new r b]
    split
    · rw [List.append_assoc]
    · rfl

/-- A text with its signs. -/
def escL : List UInt8 → List UInt8
  | [] => []
  | x :: r => if x = 34 ∨ x = 92 then 92 :: x :: escL r else x :: escL r
theorem esc_rep : ∀ l : List UInt8, repL 34 [92, 34] (repL 92 [92, 92] l) = escL l
  | [] => rfl
  | x :: r => by
    rw [escL, repL]
    by_cases h92 : x = 92
    · subst h92
      rw [if_pos rfl, if_pos (.inr rfl), repL_app, esc_rep r]; rfl
    · rw [if_neg h92, repL, esc_rep r]
      by_cases h34 : x = 34
      · subst h34; rw [if_pos rfl, if_pos (.inl rfl)]; rfl
      · rw [if_neg h34, if_neg (by rintro (e | e); exact h34 e; exact h92 e)]
theorem escL_len : ∀ l : List UInt8, l.length ≤ (escL l).length ∧ (escL l).length ≤ 2 * l.length
  | [] => ⟨Nat.le_refl _, Nat.le_refl _⟩
  | x :: r => by
    have := escL_len r
    rw [escL]
    split <;> simp only [List.length_cons] <;> omega
theorem rep92_len (l : List UInt8) : (repL 92 [92, 92] l).length ≤ 2 * l.length := by
  induction l with
  | nil => exact Nat.le_refl _
  | cons x r ih => rw [repL]; split <;> simp only [List.length_append, List.length_cons, List.length_nil] <;> omega
def quoL (l : List UInt8) : List UInt8 := 34 :: (escL l ++ [34])

/-- The text of one value, the texts of its items given. -/
def txt1 (k n : Int) (s : ByteArray) (l : List (List UInt8)) : List UInt8 :=
  if k = 0 then itoa n else if k = 1 then 35 :: itoa n else if k = 2 then quoL s.data.toList else if k = 3 then (nmS n).data.toList else 123 :: (join l [44, 32] ++ [125])
/-- The texts of values. -/
def txtL : VL → List (List UInt8)
  | .nil => []
  | .cons k n s sub rest => txt1 k n s (txtL sub) :: txtL rest
theorem txtL_app : ∀ a b : VL, txtL (a.app b) = txtL a ++ txtL b
  | .nil, b => rfl
  | .cons k n s sub r, b => by rw [VL.app, txtL, txtL, txtL_app r b]; rfl
theorem txtL_len : ∀ a : VL, (txtL a).length = a.len
  | .nil => rfl
  | .cons k n s sub r => by rw [txtL, List.length_cons, txtL_len r, VL.len]

/-- How much values take. -/
def cost : VL → Int
  | .nil => 0
  | .cons k n s sub rest => 1 + mOf k s + cost sub + cost rest
theorem cost_ge : ∀ l : VL, 0 ≤ cost l
  | .nil => Int.le_refl _
  | .cons k n s sub rest => by have := cost_ge sub; have := cost_ge rest; have := mOf_ge k s; rw [cost]; omega
theorem walkL_cost : ∀ (l : VL) (deep left : Int), 0 ≤ left → (walkL l deep left).1 = 0 → cost l ≤ left ∧ (walkL l deep left).2 = left - cost l
  | .nil, deep, left, h, _ => ⟨h, by rw [cost]; unfold walkL; simp only; omega⟩
  | .cons k n s sub rest, deep, left, h, hw => by
    have hm := mOf_ge k s
    rw [walkL_cons] at hw ⊢
    by_cases h1 : (walk1 k n s sub deep left).1 = 0
    · rw [if_pos h1] at hw ⊢
      have hx : 1 + mOf k s + cost sub ≤ left ∧ (walk1 k n s sub deep left).2 = left - (1 + mOf k s + cost sub) := by
        unfold walk1 at h1 ⊢
        by_cases g1 : 40 < deep
        · rw [if_pos g1] at h1; cases h1
        rw [if_neg g1] at h1 ⊢
        by_cases g2 : left ≤ mOf k s
        · rw [if_pos g2] at h1; cases h1
        rw [if_neg g2] at h1 ⊢
        by_cases g3 : ownE k n s sub.len = 0
        · rw [if_pos g3] at h1 ⊢
          have := walkL_cost sub (deep + 1) (left - (1 + mOf k s)) (by omega) h1
          omega
        · rw [if_neg g3] at h1; exact absurd h1 g3
      have := walkL_cost rest deep _ (by omega) hw
      rw [cost]; omega
    · rw [if_neg h1] at hw; exact absurd hw h1
theorem walk1_cost (k n : Int) (s : ByteArray) (sub : VL) (deep left : Int) (h : 0 ≤ left) (hw : (walk1 k n s sub deep left).1 = 0) : 1 + mOf k s + cost sub ≤ left := by
  have := walkL_cost (.cons k n s sub .nil) deep left h (by rw [walkL_cons, if_pos hw]; rfl)
  rw [cost, cost] at this; omega
/-- Values that are right, and what follows of each. -/
def OkL : VL → Int → Prop
  | .nil, _ => True
  | .cons k n s sub rest, d => ownE k n s sub.len = 0 ∧ d ≤ 40 ∧ OkL sub (d + 1) ∧ OkL rest d
theorem walkL_ok : ∀ (l : VL) (deep left : Int), (walkL l deep left).1 = 0 → OkL l deep
  | .nil, _, _, _ => trivial
  | .cons k n s sub rest, deep, left, hw => by
    rw [walkL_cons] at hw
    by_cases h1 : (walk1 k n s sub deep left).1 = 0
    · rw [if_pos h1] at hw
      have hr := walkL_ok rest deep _ hw
      unfold walk1 at h1
      by_cases g1 : 40 < deep
      · rw [if_pos g1] at h1; cases h1
      rw [if_neg g1] at h1
      by_cases g2 : left ≤ mOf k s
      · rw [if_pos g2] at h1; cases h1
      rw [if_neg g2] at h1
      by_cases g3 : ownE k n s sub.len = 0
      · rw [if_pos g3] at h1
        exact ⟨g3, by omega, walkL_ok sub (deep + 1) _ h1, hr⟩
      · rw [if_neg g3] at h1; exact absurd h1 g3
    · rw [if_neg h1] at hw; exact absurd hw h1
theorem OkL_one {k n : Int} {s : ByteArray} {sub : VL} {d : Int} (h : OkL (val1 k n s sub) d) : ownE k n s sub.len = 0 ∧ OkL sub (d + 1) := ⟨h.1, h.2.2.1⟩
theorem walk1_ok {k n : Int} {s : ByteArray} {sub : VL} {deep left : Int} (hw : (walk1 k n s sub deep left).1 = 0) : OkL (val1 k n s sub) deep :=
  walkL_ok (val1 k n s sub) deep left (by unfold val1; rw [walkL_cons, if_pos hw]; rfl)

/-- What own says where all is right. -/
theorem own_ok {k n : Int} {s : ByteArray} {len : Nat} (h : ownE k n s len = 0) :
    (k = 0 ∧ s.data.toList = [] ∧ len = 0) ∨ (k = 1 ∧ -2147483648 ≤ n ∧ n ≤ 2147483647 ∧ s.data.toList = [] ∧ len = 0) ∨ (k = 2 ∧ n = 0 ∧ len = 0 ∧ prB s.data.toList = true) ∨ (k = 3 ∧ 0 ≤ n ∧ n ≤ 14 ∧ s.data.toList = [] ∧ len = 0) ∨ (k = 4 ∧ n = 0 ∧ s.data.toList = []) := by
  unfold ownE at h
  by_cases h1 : k < 0 ∨ 4 < k
  · rw [if_pos h1] at h; cases h
  rw [if_neg h1] at h
  by_cases h2 : k = 1 ∧ (n < -2147483648 ∨ 2147483647 < n)
  · rw [if_pos h2] at h; cases h
  rw [if_neg h2] at h
  by_cases h3 : k = 3 ∧ (n < 0 ∨ 14 < n)
  · rw [if_pos h3] at h; cases h
  rw [if_neg h3] at h
  by_cases h4 : (k ≠ 2 ∧ s.data.toList ≠ []) ∨ (k ≠ 4 ∧ 0 < len) ∨ ((k = 2 ∨ k = 4) ∧ n ≠ 0)
  · rw [if_pos h4] at h; cases h
  rw [if_neg h4] at h
  by_cases h5 : prB s.data.toList = false
  · rw [if_pos h5] at h; cases h
  have hs : k ≠ 2 → s.data.toList = [] := fun hk => by
    by_cases e : s.data.toList = []
    · exact e
    · exact absurd (.inl ⟨hk, e⟩) h4
  have hl : k ≠ 4 → len = 0 := fun hk => by
    by_cases e : 0 < len
    · exact absurd (.inr (.inl ⟨hk, e⟩)) h4
    · omega
  have hn : (k = 2 ∨ k = 4) → n = 0 := fun hk => by
    by_cases e : n = 0
    · exact e
    · exact absurd (.inr (.inr ⟨hk, e⟩)) h4
  have hk : k = 0 ∨ k = 1 ∨ k = 2 ∨ k = 3 ∨ k = 4 := by omega
  rcases hk with rfl | rfl | rfl | rfl | rfl
  · exact .inl ⟨rfl, hs (by decide), hl (by decide)⟩
  · exact .inr (.inl ⟨rfl, by omega, by omega, hs (by decide), hl (by decide)⟩)
  · exact .inr (.inr (.inl ⟨rfl, hn (.inl rfl), hl (by decide), by simpa using h5⟩))
  · exact .inr (.inr (.inr (.inl ⟨rfl, by omega, by omega, hs (by decide), hl (by decide)⟩)))
  · exact .inr (.inr (.inr (.inr ⟨rfl, hn (.inr rfl), hs (by decide)⟩)))

theorem nmS_len (n : Int) (h0 : 0 ≤ n) (h1 : n ≤ 14) : (nmS n).data.toList.length ≤ 20 := by
  obtain ⟨j, rfl⟩ : ∃ j : Nat, n = j := ⟨n.toNat, by omega⟩
  have hj : j < 15 := by omega
  rw [nmS_at j hj]
  have : ∀ j : Fin 15, (nmL.getD j.val ByteArray.empty).data.toList.length ≤ 20 := by decide +kernel
  exact this ⟨j, hj⟩
theorem itoa_len {v : Int} (h0 : -9223372036854775808 ≤ v) (h1 : v ≤ 9223372036854775807) : (itoa v).length ≤ 20 := by
  by_cases hv : v < 0
  · obtain ⟨u, rfl⟩ : ∃ u : Nat, v = -(u : Int) := ⟨v.natAbs, by omega⟩
    rw [itoa_neg u (by omega), List.length_cons]
    have := dec_len (show u ≤ 9223372036854775808 by omega); omega
  · obtain ⟨u, rfl⟩ : ∃ u : Nat, v = (u : Int) := ⟨v.toNat, by omega⟩
    rw [itoa_nonneg]
    have := dec_len (show u ≤ 9223372036854775808 by omega); omega
/-- All numbers are of 64 bits. -/
def VL.i64 : VL → Prop
  | .nil => True
  | .cons _ n _ sub rest => -9223372036854775808 ≤ n ∧ n ≤ 9223372036854775807 ∧ sub.i64 ∧ rest.i64
theorem join_len (l : List (List UInt8)) : (join l [44, 32]).length ≤ (l.map fun x => x.length + 2).sum := by
  cases l with
  | nil => exact Nat.le_refl _
  | cons x r =>
    rw [join_length]
    have : ∀ l : List (List UInt8), (l.map fun x => x.length + 2).sum = lens l + 2 * l.length := by
      intro l
      induction l with
      | nil => rfl
      | cons a t ih => simp only [List.map_cons, List.sum_cons, ih, lens, List.length_cons]; omega
    rw [this]
    simp only [List.length_cons, List.length_nil]; omega
theorem txtL_len_le : ∀ (l : VL) (d : Int), OkL l d → l.i64 → ((((txtL l).map fun x => x.length + 2).sum : Nat) : Int) ≤ 24 * cost l
  | .nil, _, _, _ => Int.le_refl _
  | .cons k n s sub rest, d, h, h64 => by
    have ihs := txtL_len_le sub (d + 1) h.2.2.1 h64.2.2.1
    have ihr := txtL_len_le rest d h.2.2.2 h64.2.2.2
    have hc := cost_ge sub
    have hit := itoa_len h64.1 h64.2.1
    have hj := join_len (txtL sub)
    have he := escL_len s.data.toList
    have hsz : s.data.toList.length = s.size := by rw [Array.length_toList]; rfl
    rw [txtL, List.map_cons, List.sum_cons, cost]
    have h1 : ((txt1 k n s (txtL sub)).length : Int) ≤ 22 + 24 * (mOf k s + cost sub) := by
      rcases own_ok h.1 with ⟨rfl, _⟩ | ⟨rfl, _⟩ | ⟨rfl, _⟩ | ⟨rfl, h0, h1, _⟩ | ⟨rfl, _⟩
      · have : mOf 0 s = 0 := rfl
        show ((itoa n).length : Int) ≤ _
        omega
      · have : mOf 1 s = 0 := rfl
        show ((35 :: itoa n).length : Int) ≤ _
        rw [List.length_cons]; omega
      · have : mOf 2 s = s.size := rfl
        show ((quoL s.data.toList).length : Int) ≤ _
        unfold quoL
        rw [List.length_cons, List.length_append, List.length_singleton]; omega
      · have : mOf 3 s = 0 := rfl
        have := nmS_len n h0 h1
        show (((nmS n).data.toList).length : Int) ≤ _
        omega
      · have : mOf 4 s = 0 := rfl
        show ((123 :: (join (txtL sub) [44, 32] ++ [125])).length : Int) ≤ _
        rw [List.length_cons, List.length_append, List.length_singleton]; omega
    omega
end Go.Proofs.YtbalpfpcbckghaaGreatDoor
namespace Go.Proofs.YtbalpfpcbckghaaGreatDoor
open Go.RowKit Go.Lib
set_option linter.unusedVariables false

def nmAt (c : Nat) : ByteArray := nmL.getD c ByteArray.empty
end Go.Proofs.YtbalpfpcbckghaaGreatDoor
namespace Go.Proofs.YtbalpfpcbckghaaGreatDoor
open Go.RowKit Go.Lib
set_option linter.unusedVariables false

end Go.Proofs.YtbalpfpcbckghaaGreatDoor
namespace Go.Proofs.YtbalpfpcbckghaaGreatDoor
open Go.RowKit Go.Lib
set_option linter.unusedVariables false

end Go.Proofs.YtbalpfpcbckghaaGreatDoor
namespace Go.Proofs.YtbalpfpcbckghaaGreatDoor
open Go.RowKit Go.Lib
set_option linter.unusedVariables false

/-- How many bytes from a place on are of a sort; with fuel. -/
def runN (s : ByteArray) (p : UInt8 → Bool) : Nat → Nat → Nat
  | 0, _ => 0
  | f + 1, i => if i < s.size ∧ p (pk s i) = true then runN s p f (i + 1) + 1 else 0
def run (s : ByteArray) (p : UInt8 → Bool) (i : Nat) : Nat := runN s p (s.size + 1) i
/-- What one word is: an error, or a word of so many bytes. -/
inductive WR where
  | bad (c : Nat)
  | word (n : Nat) (t : Tok)

end Go.Proofs.YtbalpfpcbckghaaGreatDoor
namespace Go.Proofs.YtbalpfpcbckghaaGreatDoor
open Go.RowKit Go.Lib
set_option linter.unusedVariables false

end Go.Proofs.YtbalpfpcbckghaaGreatDoor
