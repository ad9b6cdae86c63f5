/- Contracts of the functions that the statement reaches, and the plain mathematics beneath: several texts joined. -/
import Derived.Test.YtbalpfpcbckghaaGreatDoorFlsAH
import Derived.Test.YtbalpfpcbckghaaGreatDoorFlsAG
import Derived.Test.YtbalpfpcbckghaaGreatDoorFlsAD
namespace Go.Proofs.YtbalpfpcbckghaaGreatDoor
open Go.RowKit Go.Lib
set_option linter.unusedVariables false

/-- A copy of a list comes out. -/
def PList (w : World) (l : VL) (e : Ending) (w' : World) : Prop :=
  ∃ (sa : Option Addr) (sc : Nat), e = .returned (.slice sa l.len sc) ∧ l.len ≤ sc ∧ RpL w' (fun b => w.heap.size ≤ b ∧ b < w'.heap.size) l sa ∧ Below w.heap.size w w'
def ValuesC (N : Nat) : Prop := ∀ (l : VL) (sa : Option Addr) (sc : Nat) (w : World), l.size < N → cost l ≤ 100000 → l.len ≤ sc → RpL w (fun b => b < w.heap.size) l sa → Calls Tryz.prog 12 #[.slice sa l.len sc] w (PList w l)

theorem cell_below {w W : World} (hb : Below w.heap.size w W) {p : Addr} {v : Value} (h : w.cell? p = some v) : W.cell? p = some v := by
  have hlt : p.block < w.heap.size := by
    unfold World.cell? at h
    rcases Nat.lt_or_ge p.block w.heap.size with hlt | hge
    · exact hlt
    · rw [Array.getElem?_eq_none hge] at h; cases h
  exact (World.cell?_of_block (w := w) (hb.block _ hlt)).trans h

theorem value_end {w wr : World} {k n : Int} {s : ByteArray} {sub : VL} {sb : Option Addr} {cb : Nat} (hb : Below w.heap.size w wr) (hz : w.heap.size + 2 ≤ wr.heap.size) (hr : StB wr (w.heap.size + 1) (.int .i64 0) (.int .i64 0) (.string ⟨#[]⟩) (.slice none 0 0))
    (hcb : sub.len ≤ cb) (hrb : RpL wr (fun b => w.heap.size + 2 ≤ b ∧ b < wr.heap.size) sub sb) :
    StB ((((wr.setCell ⟨w.heap.size + 1, 0, none⟩ (.int .i64 k)).setCell ⟨w.heap.size + 1, 1, none⟩ (.int .i64 n)).setCell ⟨w.heap.size + 1, 2, none⟩ (.string s)).setCell ⟨w.heap.size + 1, 3, none⟩ (.slice sb sub.len cb)) (w.heap.size + 1) (.int .i64 k) (.int .i64 n) (.string s) (.slice sb sub.len cb) ∧
    PCopy w k n s sub (.returned (.agg #[.int .i64 k, .int .i64 n, .string s, .slice sb sub.len cb])) ((((wr.setCell ⟨w.heap.size + 1, 0, none⟩ (.int .i64 k)).setCell ⟨w.heap.size + 1, 1, none⟩ (.int .i64 n)).setCell ⟨w.heap.size + 1, 2, none⟩ (.string s)).setCell ⟨w.heap.size + 1, 3, none⟩ (.slice sb sub.len cb)) :=
  ⟨hr.set4 _ _ _ _, sb, cb, rfl, hcb, hrb.keep (fun c hc => heap_set4 _ _ _ _ _ _ _ (by omega)) (fun c hc => ⟨by omega, by rw [size_set4]; exact hc.2⟩), below_set4 hb (by omega) _ _ _ _⟩

set_option maxRecDepth 100000 in
set_option maxHeartbeats 4000000 in
theorem value_of (k n : Int) (s : ByteArray) (sub : VL) (sa : Option Addr) (sc : Nat) (w : World) (ih : ValuesC (sub.size + 1)) (hcost : cost sub ≤ 100000) (hsc : sub.len ≤ sc) (hrep : RpL w (fun b => b < w.heap.size) sub sa) :
    Calls Tryz.prog 31 #[.agg #[.int .i64 k, .int .i64 n, .string s, .slice sa sub.len sc]] w (PCopy w k n s sub) := by
  obtain ⟨wa, hwa⟩ : ∃ wa, wa = (w.alloc (.cells #[.int .i64 k, .int .i64 n, .string s, .slice sa sub.len sc] 24)).alloc (.cells #[.int .i64 0, .int .i64 0, .string ⟨#[]⟩, .slice none 0 0] 24) := ⟨_, rfl⟩
  have hba : Below w.heap.size w wa := by rw [hwa]; exact ((Below.refl _ _).alloc (Nat.le_refl _) _).alloc (by simp) _
  have hwz : wa.heap.size = w.heap.size + 2 := by rw [hwa]; simp
  have hV : StB wa w.heap.size (.int .i64 k) (.int .i64 n) (.string s) (.slice sa sub.len sc) := by rw [hwa]; exact (StB.new w _ _ _ _).alloc _
  have hR : StB wa (w.heap.size + 1) (.int .i64 0) (.int .i64 0) (.string ⟨#[]⟩) (.slice none 0 0) := by
    rw [hwa]; have := StB.new (w.alloc (.cells #[.int .i64 k, .int .i64 n, .string s, .slice sa sub.len sc] 24)) (.int .i64 0) (.int .i64 0) (.string ⟨#[]⟩) (.slice none 0 0)
    simpa using this
  obtain ⟨wd, hwd⟩ : ∃ wd, wd = wa.drew := ⟨_, rfl⟩
  have hbd : Below w.heap.size w wd := by rw [hwd]; exact hba.drew
  have hdz : wd.heap.size = w.heap.size + 2 := by rw [hwd]; exact hwz
  have hVd : StB wd w.heap.size (.int .i64 k) (.int .i64 n) (.string s) (.slice sa sub.len sc) := by rw [hwd]; exact hV
  have hRd : StB wd (w.heap.size + 1) (.int .i64 0) (.int .i64 0) (.string ⟨#[]⟩) (.slice none 0 0) := by rw [hwd]; exact hR
  have VC := Lib.hid (ih sub sa sc wd (by omega) hcost hsc (hrep.keep (w' := wd) (S' := fun b => b < wd.heap.size) (fun b hb => hbd.block b hb) (fun b hb => by omega)))
  have v0 := hV.c0; have v1 := hV.c1; have v2 := hV.c2; have v3 := hV.c3
  have d0 := hVd.c0; have d1 := hVd.c1; have d2 := hVd.c2; have d3 := hVd.c3
  have KS := Lib.hid (fun (W : World) (hb : Below wd.heap.size wd W) => (⟨cell_below hb d0, cell_below hb d1, cell_below hb d2, cell_below hb d3⟩ : W.cell? ⟨w.heap.size, 0, none⟩ = some (.int .i64 k) ∧ W.cell? ⟨w.heap.size, 1, none⟩ = some (.int .i64 n) ∧ W.cell? ⟨w.heap.size, 2, none⟩ = some (.string s) ∧ W.cell? ⟨w.heap.size, 3, none⟩ = some (.slice sa sub.len sc)))
  have HR := Lib.hid hRd
  have HB := Lib.hid hbd
  have HWZ := Lib.hid hdz
  have HWA := Lib.hid hwa
  have HWD := Lib.hid hwd
  rw [hwd] at d0 d1 d2 d3
  rw [hwd] at VC HR HB HWZ KS
  clear hba hwz hV hR hwa hrep hbd hdz hVd hRd hwd
  go_enter Tryz.func31, Tryz.ntmps31
  go_wp2_with fail
  rw [← HWA.out]
  go_region_held3 (fun W => W.cell? ⟨w.heap.size, 0, none⟩ = some (.int .i64 k) ∧ W.cell? ⟨w.heap.size, 1, none⟩ = some (.int .i64 n) ∧ W.cell? ⟨w.heap.size, 2, none⟩ = some (.string s) ∧ W.cell? ⟨w.heap.size, 3, none⟩ = some (.slice sa sub.len sc))
    (first | assumption | exact ⟨d0, d1, d2, d3⟩ | exact KS.out _ (by assumption) | go_keep)
    (first | (go_at_call 12; refine VC.out.mono ?_; rintro e w5 ⟨sb, cb, rfl, hcb, hrb, hb5⟩
              have hr5 := HR.out.below hb5 (by have := HWZ.out; omega)
              have z0 := hr5.c0; have z1 := hr5.c1; have z2 := hr5.c2; have z3 := hr5.c3; have f0 := hr5.fr 0; have f1 := hr5.fr 1; have f2 := hr5.fr 2; have f3 := hr5.fr 3))
  all_goals
    have h5z := hb5.size
    have HF := Lib.hid (value_end (k := k) (n := n) (s := s) (HB.out.trans (below_le' hb5 (by have := HWZ.out; omega))) (by have := HWZ.out; omega) hr5 hcb (hrb.wide (fun c hc => ⟨by have := HWZ.out; omega, hc.2⟩)))
    go_wp2_with fail
    exact ret_cell4 Tryz.results31 (w.heap.size + 1) rfl rfl HF.out.1 HF.out.2

set_option maxRecDepth 100000 in
set_option maxHeartbeats 4000000 in
theorem values_step (N : Nat) (ih : ∀ N', N' < N → ValuesC N') : ValuesC N := by
  intro l sa sc w hN hcost hsc hrep
  obtain ⟨i0, hi0, hz0, hz1, hz2⟩ := info_parts val_info
  have hln := len_cost l
  by_cases h0 : l.len = 0
  · obtain rfl : l = .nil := by cases l with | nil => rfl | cons _ _ _ _ _ => exact absurd h0 (Nat.succ_ne_zero _)
    rw [show VL.nil.len = 0 from rfl]
    clear h0 hrep hln
    go_enter Tryz.func12, Tryz.ntmps12
    go_wp2_with fail
    go_ret
    exact ⟨none, 0, rfl, Nat.le_refl _, trivial, Below.refl _ _⟩
  have hb0 : ((l.len : Int) == 0) = false := (bne_of (by omega)).2
  have HRP := Lib.hid hrep
  clear hrep
  go_enter Tryz.func12, Tryz.ntmps12
  go_wp2_with (refine wpList_make_own w rfl (.const (.int .i64 0)) (.tmp 9) 22 rfl w.heap.size 24 i0 _ 4 Tryz.underlying22 hi0 hz0 hz1 .i64 .i64 (l.len : Int) l.len rfl rfl rfl ?c1 ?c2 ?c3 ?c4
               case c1 => rw [hz2]; omega
               case c2 => unfold maxLen; omega
               case c3 => exact Nat.le_refl _
               intro wm hown hgrow
               have CM := Lib.hid (show CInv w.heap.size w wm (.slice (some ⟨w.heap.size, 0, none⟩) 0 l.len) .nil [] from ⟨hown, rfl, ⟨hgrow.os, hgrow.tape, hgrow.output, hgrow.size, fun b hb => hgrow.block b hb (fun e => by cases e)⟩, hgrow.size⟩)
               clear hown hgrow)
  go_loopg [3, 4] l.len (fun kk ov v wr => ∃ (bv : Value) (i : Nat) (xs : List Value), bv = ov ∧ v = .int .i64 i ∧ i + kk = l.len ∧ Hid (CInv w.heap.size w wr bv (l.take i) xs))
  case atStart => exact ⟨_, 0, [], rfl, rfl, by omega, by show CInv _ _ _ _ (l.take 0) _; rw [VL.take]; exact CM.out⟩
  case round =>
    obtain ⟨bv, i, xs, rfl, rfl, hik, hC⟩ := hrel
    have hbr := hC.out.below
    have hrz := hC.out.size
    by_cases hi : i < l.len
    · obtain ⟨g, rfl⟩ : ∃ g, gk = g + 1 := ⟨gk - 1, by omega⟩
      obtain ⟨b, o, k', n', s', sub', sa', sc', hA, hd, hSb, c0, c1, c2, c3, hcl, hrs, hszd⟩ := rp_at (HRP.out.keep (w' := wr) (fun b hb => hbr.block b hb) (fun b hb => hb)) hi
      have hts := Lib.hid (VL.take_succ i l k' n' s' sub' hd)
      have hcd := cost_drop i l
      rw [hd, cost] at hcd
      have hcr := cost_ge (l.drop (i + 1))
      have hmm := mOf_ge k' s'
      have htl : (l.take i).len ≤ 100000 := by
        have h2 : (l.take i).len + (l.drop i).len = l.len := by rw [← VL.len_app, VL.take_app_drop]
        omega
      have IHC := Lib.hid (value_of k' n' s' sub' sa' sc' wr (ih _ (by omega)) (by omega) hcl (hrs.wide (fun b hb => by omega)))
      have CX := Lib.hid hC.out
      have HSA := Lib.hid hA
      subst hA
      clear hrs hd hcd hbr
      go_wp2_with fail
      refine IHC.out.mono ?_
      rintro e w3 ⟨sb, cb, rfl, hcb, hrb, hb3⟩
      have C3 := Lib.hid (CX.out.move hb3)
      have HB3 := Lib.hid hb3
      have HRB := Lib.hid hrb
      have h3z := hb3.size
      clear hb3 hrb c0 c1 c2 c3
      go_wp2_with (at_builtin; refine wpList_append_own_at _ rfl (.tmp 17) (.tmp 23) 22 rfl w.heap.size 24 i0 _ 4 56 Tryz.underlying22 hi0 hz0 hz1 hz2 rfl (by decide) bv (l.take i).len xs rfl (own_below C3.out.own ((Below.refl _ _).alloc (Nat.le_refl _) _)) ⟨w3.heap.size, 0, none⟩ 1 1 [.int .i64 k', .int .i64 n', .string s', .slice sb sub'.len cb] rfl rfl ?e1 ?e2 ?e3 ?e4 ?e5 ?e6
                   case e1 => exact cell_four_new w3 _ rfl _ _ _ _ _
                   case e2 => intro u hu; simp at hu; rcases hu with rfl | rfl | rfl | rfl <;> rfl
                   case e3 => unfold maxLen; omega
                   case e4 => omega
                   case e5 => simp; omega
                   intro V' w5 hown' hgrow _ hob
                   have ST := Lib.hid (CInv.step CX.out HB3.out hcb HRB.out hown' hgrow hob)
                   clear hown' hgrow hob)
      go_roundg g
      case measure => omega
      case rel => exact ⟨V', i + 1, _, rfl, by go_num, by omega, by show CInv _ _ _ _ (l.take (i + 1)) _; rw [hts.out]; exact ST.out⟩
    · obtain rfl : i = l.len := by omega
      obtain ⟨sb, cb, hbv, hcb, hrb⟩ := hC.out.rep
      rw [VL.take_len] at hbv hcb hrb
      have HF := Lib.hid (show PList w l (.returned bv) wr from ⟨sb, cb, by rw [hbv], hcb, hrb, hbr⟩)
      clear hC hbr hrb hbv
      go_wp2_with fail
      go_ret
      exact HF.out
theorem values_c (N : Nat) : ValuesC N := by
  induction N using Nat.strongRecOn with
  | _ N ih => exact values_step N ih

set_option maxRecDepth 100000 in
set_option maxHeartbeats 2000000 in
theorem refL_c (l : VL) (sa : Option Addr) (sc : Nat) (w : World) (hcost : cost l ≤ 100000) (hsc : l.len ≤ sc) (hrep : RpL w (fun b => b < w.heap.size) l sa) :
    Calls Tryz.prog 10 #[.slice sa l.len sc] w (PCopy w 4 0 ⟨#[]⟩ l) := by
  obtain ⟨wa, hwa⟩ : ∃ wa, wa = w.alloc (.cells #[.int .i64 0, .int .i64 0, .string ⟨#[]⟩, .slice none 0 0] 24) := ⟨_, rfl⟩
  have hba : Below w.heap.size w wa := by rw [hwa]; exact (Below.refl _ _).alloc (Nat.le_refl _) _
  have hwz : wa.heap.size = w.heap.size + 1 := by rw [hwa]; simp
  have hR : StB wa w.heap.size (.int .i64 0) (.int .i64 0) (.string ⟨#[]⟩) (.slice none 0 0) := by rw [hwa]; exact StB.new w _ _ _ _
  have VC := Lib.hid (values_c (l.size + 1) l sa sc wa (by omega) hcost hsc (hrep.keep (w' := wa) (S' := fun b => b < wa.heap.size) (fun b hb => hba.block b hb) (fun b hb => by omega)))
  have HR := Lib.hid hR
  have HB := Lib.hid hba
  have HWA := Lib.hid hwa
  have HWZ := Lib.hid hwz
  clear hba hR hwa hwz hrep
  go_enter Tryz.func10, Tryz.ntmps10
  go_wp2_with fail
  rw [← HWA.out]
  refine VC.out.mono ?_
  rintro e w5 ⟨sb, cb, rfl, hcb, hrb, hb5⟩
  have hr5 := HR.out.below hb5 (by have := HWZ.out; omega)
  have h5z := hb5.size
  have z0 := hr5.c0; have z1 := hr5.c1; have z2 := hr5.c2; have z3 := hr5.c3; have f0 := hr5.fr 0; have f1 := hr5.fr 1; have f2 := hr5.fr 2; have f3 := hr5.fr 3
  have HF := Lib.hid (list_end (HB.out.trans (below_le' hb5 (by have := HWZ.out; omega))) (by have := HWZ.out; omega) hr5 hcb (hrb.wide (fun c hc => ⟨by have := HWZ.out; omega, hc.2⟩)))
  clear hr5 hb5 hrb
  go_wp2_with fail
  exact ret_cell4 Tryz.results10 w.heap.size rfl rfl HF.out.1 HF.out.2
end Go.Proofs.YtbalpfpcbckghaaGreatDoor
namespace Go.Proofs.YtbalpfpcbckghaaGreatDoor
open Go.RowKit Go.Lib
set_option linter.unusedVariables false

/-- How deep values are, beside what was met. -/
def deepF : VL → Int → Int
  | .nil, a => a
  | .cons k n s sub rest, a => deepF rest (max a ((if k = 4 then deepF sub 0 else 0) + 1))
def dp (k : Int) (sub : VL) : Int := (if k = 4 then deepF sub 0 else 0) + 1
theorem deepF_cons (k n : Int) (s : ByteArray) (sub rest : VL) (a : Int) : deepF (.cons k n s sub rest) a = deepF rest (max a (dp k sub)) := rfl
theorem deepF_bound : ∀ (l : VL) (a : Int), a ≤ deepF l a ∧ deepF l a ≤ max a (cost l)
  | .nil, a => ⟨Int.le_refl _, by rw [deepF]; omega⟩
  | .cons k n s sub rest, a => by
    have h1 := deepF_bound sub 0
    have h2 := deepF_bound rest (max a (dp k sub))
    have hm := mOf_ge k s
    have hc := cost_ge sub
    have hr := cost_ge rest
    rw [deepF_cons, cost]
    have hd : dp k sub ≤ 1 + cost sub := by unfold dp; split <;> omega
    omega
/-- How great values are, beside what was met. -/
def szF : VL → Int → Int
  | .nil, a => a
  | .cons k n s sub rest, a => szF rest (a + (if k = 2 then 1 + (s.size : Int) else if k = 4 then szF sub 1 else 1))
def sz1 (k : Int) (s : ByteArray) (sub : VL) : Int := if k = 2 then 1 + (s.size : Int) else if k = 4 then szF sub 1 else 1
theorem szF_cons (k n : Int) (s : ByteArray) (sub rest : VL) (a : Int) : szF (.cons k n s sub rest) a = szF rest (a + sz1 k s sub) := rfl
theorem szF_bound : ∀ (l : VL) (a : Int), a ≤ szF l a ∧ szF l a ≤ a + cost l
  | .nil, a => ⟨Int.le_refl _, by rw [szF, cost]; omega⟩
  | .cons k n s sub rest, a => by
    have h1 := szF_bound sub 1
    have h2 := szF_bound rest (a + sz1 k s sub)
    have hm := mOf_ge k s
    have hc := cost_ge sub
    rw [szF_cons, cost]
    have hd : 0 ≤ sz1 k s sub ∧ sz1 k s sub ≤ 1 + mOf k s + cost sub := by
      unfold sz1
      by_cases h2 : k = 2
      · rw [if_pos h2]; have : mOf k s = s.size := by unfold mOf; rw [if_pos h2]
        omega
      · rw [if_neg h2]
        split <;> omega
    omega

def FDeepC (N : Nat) : Prop := ∀ (k n : Int) (s : ByteArray) (sub : VL) (sa : Option Addr) (sc : Nat) (w : World), sub.size < N → cost sub ≤ 100000 → sub.len ≤ sc → RpL w (fun b => b < w.heap.size) sub sa →
  Calls Tryz.prog 29 #[.agg #[.int .i64 k, .int .i64 n, .string s, .slice sa sub.len sc]] w fun e w' => e = .returned (.int .i64 (dp k sub)) ∧ Below w.heap.size w w'

set_option maxRecDepth 100000 in
set_option maxHeartbeats 4000000 in
theorem fdeep_step (N : Nat) (ih : ∀ N', N' < N → FDeepC N') : FDeepC N := by
  intro k n s sub sa sc w hN hcost hsc hrep
  obtain ⟨wa, hwa⟩ : ∃ wa, wa = w.alloc (.cells #[.int .i64 k, .int .i64 n, .string s, .slice sa sub.len sc] 24) := ⟨_, rfl⟩
  have hba : Below w.heap.size w wa := by rw [hwa]; exact (Below.refl _ _).alloc (Nat.le_refl _) _
  have hwz : wa.heap.size = w.heap.size + 1 := by rw [hwa]; simp
  have hV : StB wa w.heap.size (.int .i64 k) (.int .i64 n) (.string s) (.slice sa sub.len sc) := by rw [hwa]; exact StB.new w _ _ _ _
  have v0 := hV.c0; have v3 := hV.c3
  have HV := Lib.hid hV
  have HB := Lib.hid hba
  have HWA := Lib.hid hwa
  have HWZ := Lib.hid hwz
  have HRP := Lib.hid (hrep.keep (w' := wa) (fun b hb => hba.block b hb) (fun b hb => hb))
  have hln := len_cost sub
  have hall := deepF_bound sub 0
  rw [hwa] at v0 v3
  clear hba hwz hV hwa hrep
  by_cases h4 : k = 4
  · subst h4
    have HD := Lib.hid (show dp 4 sub = deepF sub 0 + 1 from rfl)
    go_enter Tryz.func29, Tryz.ntmps29
    go_wp2_with fail
    rw [← HWA.out]
    clear v0 v3
    go_loopg [3, 4] sub.len (fun kk ov v wr => ∃ (a : Int) (i : Nat), ov = .int .i64 a ∧ v = .int .i64 i ∧ i + kk = sub.len ∧ 0 ≤ a ∧ a ≤ 100000 ∧ Hid (deepF (sub.drop i) a = deepF sub 0) ∧ Hid (Below wa.heap.size wa wr))
    case atStart => exact ⟨0, 0, rfl, rfl, by omega, by omega, by omega, by show deepF (sub.drop 0) 0 = _; rw [VL.drop], Below.refl _ _⟩
    case round =>
      obtain ⟨a, i, rfl, rfl, hik, ha0, ha1, hda, hbr⟩ := hrel
      have hrz := hbr.out.size
      have hwz := HWZ.out
      have hvr := HV.out.below' hbr.out
      have x3 := hvr.c3
      clear hvr
      by_cases hi : i < sub.len
      · obtain ⟨g, rfl⟩ : ∃ g, gk = g + 1 := ⟨gk - 1, by omega⟩
        obtain ⟨b, o, k', n', s', sub', sa', sc', hA, hd, hSb, c0, c1, c2, c3, hcl, hrs, hszd⟩ := rp_at (HRP.out.keep (w' := wr) (fun b hb => hbr.out.block b (by omega)) (fun b hb => hb)) hi
        have hcd := cost_drop i sub
        rw [hd, cost] at hcd
        have hcr := cost_ge (sub.drop (i + 1))
        have hcs := cost_ge sub'
        have hmm := mOf_ge k' s'
        have IHC := Lib.hid (ih (sub'.size + 1) (by omega) k' n' s' sub' sa' sc' wr (by omega) (by omega) hcl (hrs.wide (fun b hb => by omega)))
        have HN := Lib.hid (show deepF (sub.drop (i + 1)) (max a (dp k' sub')) = deepF sub 0 by rw [← hda.out, hd, deepF_cons])
        have hdb : 0 ≤ dp k' sub' ∧ dp k' sub' ≤ 100000 := by
          have := deepF_bound sub' 0
          unfold dp; split <;> omega
        obtain ⟨q, hq⟩ : ∃ q, q = dp k' sub' := ⟨_, rfl⟩
        rw [← hq] at IHC HN hdb
        have HSA := Lib.hid hA
        subst hA
        clear hrs hd hcd hq
        go_wp2_with fail
        refine IHC.out.mono ?_
        rintro e w3 ⟨rfl, hb3⟩
        have HB3 := Lib.hid (hbr.out.trans (below_le' hb3 hrz))
        clear hb3 c0 c1 c2 c3
        by_cases hm : a < q
        · have hmx : max a q = q := by omega
          rw [hmx] at HN
          go_wp2_with fail
          go_roundg g
          case measure => omega
          case rel => exact ⟨q, i + 1, by go_num, by go_num, by omega, by omega, by omega, HN.out, HB3.out⟩
        · have hmx : max a q = a := by omega
          rw [hmx] at HN
          go_wp2_with fail
          go_roundg g
          case measure => omega
          case rel => exact ⟨a, i + 1, by go_num, by go_num, by omega, by omega, by omega, HN.out, HB3.out⟩
      · obtain rfl : i = sub.len := by omega
        have HN := Lib.hid (show dp 4 sub = a + 1 by rw [HD.out, ← hda.out, VL.drop_len, deepF])
        go_wp2_with fail
        go_ret
        exact ⟨ret_int HN.out.symm, HB.out.trans (below_le' hbr.out (by omega))⟩
  · have HD := Lib.hid (show dp k sub = 1 by unfold dp; rw [if_neg h4]; rfl)
    have hk := (bne_of h4).2
    rw [HD.out]
    clear h4
    go_enter Tryz.func29, Tryz.ntmps29
    go_wp2_with fail
    go_ret
    rw [← HWA.out]
    exact ⟨rfl, HB.out⟩
theorem fdeep_c (N : Nat) : FDeepC N := by
  induction N using Nat.strongRecOn with
  | _ N ih => exact fdeep_step N ih
end Go.Proofs.YtbalpfpcbckghaaGreatDoor
namespace Go.Proofs.YtbalpfpcbckghaaGreatDoor
open Go.RowKit Go.Lib
set_option linter.unusedVariables false

def SizeC (N : Nat) : Prop := ∀ (k n : Int) (s : ByteArray) (sub : VL) (sa : Option Addr) (sc : Nat) (w : World), sub.size < N → mOf k s + cost sub ≤ 100000 → sub.len ≤ sc → RpL w (fun b => b < w.heap.size) sub sa →
  Calls Tryz.prog 30 #[.agg #[.int .i64 k, .int .i64 n, .string s, .slice sa sub.len sc]] w fun e w' => e = .returned (.int .i64 (sz1 k s sub)) ∧ Below w.heap.size w w'

set_option maxRecDepth 100000 in
set_option maxHeartbeats 4000000 in
theorem size_step (N : Nat) (ih : ∀ N', N' < N → SizeC N') : SizeC N := by
  intro k n s sub sa sc w hN hcost hsc hrep
  obtain ⟨wa, hwa⟩ : ∃ wa, wa = w.alloc (.cells #[.int .i64 k, .int .i64 n, .string s, .slice sa sub.len sc] 24) := ⟨_, rfl⟩
  have hba : Below w.heap.size w wa := by rw [hwa]; exact (Below.refl _ _).alloc (Nat.le_refl _) _
  have hwz : wa.heap.size = w.heap.size + 1 := by rw [hwa]; simp
  have hV : StB wa w.heap.size (.int .i64 k) (.int .i64 n) (.string s) (.slice sa sub.len sc) := by rw [hwa]; exact StB.new w _ _ _ _
  have v0 := hV.c0; have v2 := hV.c2; have v3 := hV.c3
  have HV := Lib.hid hV
  have HB := Lib.hid hba
  have HWA := Lib.hid hwa
  have HWZ := Lib.hid hwz
  have HRP := Lib.hid (hrep.keep (w' := wa) (fun b hb => hba.block b hb) (fun b hb => hb))
  have hln := len_cost sub
  have hm0 := mOf_ge k s
  have hc0 := cost_ge sub
  have hall := szF_bound sub 1
  rw [hwa] at v0 v2 v3
  clear hba hwz hV hwa hrep
  by_cases h4 : k = 4
  · subst h4
    have HD := Lib.hid (show sz1 4 s sub = szF sub 1 from rfl)
    go_enter Tryz.func30, Tryz.ntmps30
    go_wp2_with fail
    rw [← HWA.out]
    clear v0 v2 v3
    go_loopg [3, 4] sub.len (fun kk ov v wr => ∃ (a : Int) (i : Nat), ov = .int .i64 a ∧ v = .int .i64 i ∧ i + kk = sub.len ∧ 0 ≤ a ∧ a + cost (sub.drop i) ≤ 100001 ∧ Hid (szF (sub.drop i) a = szF sub 1) ∧ Hid (Below wa.heap.size wa wr))
    case atStart => exact ⟨1, 0, rfl, rfl, by omega, by omega, by rw [VL.drop]; omega, by show szF (sub.drop 0) 1 = _; rw [VL.drop], Below.refl _ _⟩
    case round =>
      obtain ⟨a, i, rfl, rfl, hik, ha0, ha1, hda, hbr⟩ := hrel
      have hrz := hbr.out.size
      have hwz := HWZ.out
      have hvr := HV.out.below' hbr.out
      have x3 := hvr.c3
      clear hvr
      by_cases hi : i < sub.len
      · obtain ⟨g, rfl⟩ : ∃ g, gk = g + 1 := ⟨gk - 1, by omega⟩
        obtain ⟨b, o, k', n', s', sub', sa', sc', hA, hd, hSb, c0, c1, c2, c3, hcl, hrs, hszd⟩ := rp_at (HRP.out.keep (w' := wr) (fun b hb => hbr.out.block b (by omega)) (fun b hb => hb)) hi
        rw [hd, cost] at ha1
        have hcr := cost_ge (sub.drop (i + 1))
        have hcs := cost_ge sub'
        have hmm := mOf_ge k' s'
        have IHC := Lib.hid (ih (sub'.size + 1) (by omega) k' n' s' sub' sa' sc' wr (by omega) (by omega) hcl (hrs.wide (fun b hb => by omega)))
        have HN := Lib.hid (show szF (sub.drop (i + 1)) (a + sz1 k' s' sub') = szF sub 1 by rw [← hda.out, hd, szF_cons])
        have hdb : 0 ≤ sz1 k' s' sub' ∧ sz1 k' s' sub' ≤ 1 + mOf k' s' + cost sub' := by
          have := szF_bound (.cons k' n' s' sub' .nil) 0
          rw [szF_cons, szF, cost, cost] at this
          have h1 := szF_bound sub' 1
          refine ⟨?_, by omega⟩
          unfold sz1
          split
          · omega
          · split <;> omega
        obtain ⟨q, hq⟩ : ∃ q, q = sz1 k' s' sub' := ⟨_, rfl⟩
        rw [← hq] at IHC HN hdb
        obtain ⟨m, hm⟩ : ∃ m, m = cost (sub.drop (i + 1)) := ⟨_, rfl⟩
        have HM := Lib.hid hm
        rw [← hm] at ha1 hcr
        have HSA := Lib.hid hA
        subst hA
        clear hrs hd hq hm
        go_wp2_with fail
        refine IHC.out.mono ?_
        rintro e w3 ⟨rfl, hb3⟩
        have HB3 := Lib.hid (hbr.out.trans (below_le' hb3 hrz))
        clear hb3 c0 c1 c2 c3
        go_wp2_with fail
        go_roundg g
        case measure => omega
        case rel => exact ⟨a + q, i + 1, by go_num, by go_num, by omega, by omega, by rw [← HM.out]; omega, HN.out, HB3.out⟩
      · obtain rfl : i = sub.len := by omega
        have HN := Lib.hid (show sz1 4 s sub = a by rw [HD.out, ← hda.out, VL.drop_len, szF])
        go_wp2_with fail
        go_ret
        exact ⟨ret_int HN.out.symm, HB.out.trans (below_le' hbr.out (by omega))⟩
  · have hk := (bne_of h4).2
    by_cases h2 : k = 2
    · subst h2
      have hms : mOf 2 s = (s.size : Int) := rfl
      have HD := Lib.hid (show sz1 2 s sub = 1 + (s.size : Int) from rfl)
      rw [HD.out]
      go_enter Tryz.func30, Tryz.ntmps30
      go_wp2_with fail
      go_ret
      rw [← HWA.out]
      exact ⟨rfl, HB.out⟩
    · have hk2 := (bne_of h2).2
      have HD := Lib.hid (show sz1 k s sub = 1 by unfold sz1; rw [if_neg h2, if_neg h4])
      rw [HD.out]
      clear h4 h2
      go_enter Tryz.func30, Tryz.ntmps30
      go_wp2_with fail
      go_ret
      rw [← HWA.out]
      exact ⟨rfl, HB.out⟩
theorem size_c (N : Nat) : SizeC N := by
  induction N using Nat.strongRecOn with
  | _ N ih => exact size_step N ih

/-- Fits' code. -/
def fitsV (k : Int) (s : ByteArray) (sub : VL) : Int := if 40 < dp k sub then 9 else if 4096 < sz1 k s sub then 14 else 0
set_option maxRecDepth 100000 in
set_option maxHeartbeats 2000000 in
theorem fits_c (k n : Int) (s : ByteArray) (sub : VL) (sa : Option Addr) (sc : Nat) (w : World) (hcost : mOf k s + cost sub ≤ 100000) (hsc : sub.len ≤ sc) (hrep : RpL w (fun b => b < w.heap.size) sub sa) :
    Calls Tryz.prog 11 #[.agg #[.int .i64 k, .int .i64 n, .string s, .slice sa sub.len sc]] w fun e w' => e = .returned (.int .i64 (fitsV k s sub)) ∧ Below w.heap.size w w' := by
  obtain ⟨wa, hwa⟩ : ∃ wa, wa = w.alloc (.cells #[.int .i64 k, .int .i64 n, .string s, .slice sa sub.len sc] 24) := ⟨_, rfl⟩
  have hba : Below w.heap.size w wa := by rw [hwa]; exact (Below.refl _ _).alloc (Nat.le_refl _) _
  have hwz : wa.heap.size = w.heap.size + 1 := by rw [hwa]; simp
  have hV : StB wa w.heap.size (.int .i64 k) (.int .i64 n) (.string s) (.slice sa sub.len sc) := by rw [hwa]; exact StB.new w _ _ _ _
  have v0 := hV.c0; have v1 := hV.c1; have v2 := hV.c2; have v3 := hV.c3
  have hm0 := mOf_ge k s
  have DC := Lib.hid (fdeep_c (sub.size + 1) k n s sub sa sc wa (by omega) (by omega) hsc (hrep.keep (w' := wa) (fun b hb => hba.block b hb) (fun b hb => by omega)))
  have SC := Lib.hid (fun (W : World) (hb : Below wa.heap.size wa W) => size_c (sub.size + 1) k n s sub sa sc W (by omega) hcost hsc (hrep.keep (w' := W) (fun b hb' => (hb.block b (by omega)).trans (hba.block b hb')) (fun b hb' => by have := hb.size; omega)))
  have HV := Lib.hid hV
  have HB := Lib.hid hba
  have HWA := Lib.hid hwa
  have HWZ := Lib.hid hwz
  rw [hwa] at v0 v1 v2 v3
  obtain ⟨d, hd⟩ : ∃ d, d = dp k sub := ⟨_, rfl⟩
  obtain ⟨z, hz⟩ : ∃ z, z = sz1 k s sub := ⟨_, rfl⟩
  have HF := Lib.hid (show fitsV k s sub = if 40 < d then 9 else if 4096 < z then 14 else 0 by rw [hd, hz]; rfl)
  rw [← hd] at DC
  rw [← hz] at SC
  clear hba hwz hV hwa hrep hd hz
  rw [HF.out]
  by_cases h1 : 40 < d
  · rw [if_pos h1]
    have hd1 : decide (40 < d) = true := decide_eq_true h1
    clear h1
    go_enter Tryz.func11, Tryz.ntmps11
    go_wp2_with fail
    rw [← HWA.out]
    refine DC.out.mono ?_
    rintro e w2 ⟨rfl, hb2⟩
    have HB2 := Lib.hid hb2
    clear hb2
    go_wp2_with fail
    go_ret
    exact ⟨rfl, HB.out.trans (below_le' HB2.out (by have := HWZ.out; omega))⟩
  · rw [if_neg h1]
    have hd1 : decide (40 < d) = false := decide_eq_false h1
    clear h1
    by_cases h2 : 4096 < z
    · rw [if_pos h2]
      have hd2 : decide (4096 < z) = true := decide_eq_true h2
      clear h2
      go_enter Tryz.func11, Tryz.ntmps11
      go_wp2_with fail
      rw [← HWA.out]
      refine DC.out.mono ?_
      rintro e w2 ⟨rfl, hb2⟩
      have hv2 := HV.out.below' hb2
      have u0 := hv2.c0; have u1 := hv2.c1; have u2 := hv2.c2; have u3 := hv2.c3
      have HB2 := Lib.hid hb2
      clear hb2 hv2 v0 v1 v2 v3
      go_wp2_with fail
      refine (SC.out _ HB2.out).mono ?_
      rintro e w3 ⟨rfl, hb3⟩
      have HB3 := Lib.hid (HB2.out.trans (below_le' hb3 HB2.out.size))
      clear hb3
      go_wp2_with fail
      go_ret
      exact ⟨rfl, HB.out.trans (below_le' HB3.out (by have := HWZ.out; omega))⟩
    · rw [if_neg h2]
      have hd2 : decide (4096 < z) = false := decide_eq_false h2
      clear h2
      go_enter Tryz.func11, Tryz.ntmps11
      go_wp2_with fail
      rw [← HWA.out]
      refine DC.out.mono ?_
      rintro e w2 ⟨rfl, hb2⟩
      have hv2 := HV.out.below' hb2
      have u0 := hv2.c0; have u1 := hv2.c1; have u2 := hv2.c2; have u3 := hv2.c3
      have HB2 := Lib.hid hb2
      clear hb2 hv2 v0 v1 v2 v3
      go_wp2_with fail
      refine (SC.out _ HB2.out).mono ?_
      rintro e w3 ⟨rfl, hb3⟩
      have HB3 := Lib.hid (HB2.out.trans (below_le' hb3 HB2.out.size))
      clear hb3
      go_wp2_with fail
      go_ret
      exact ⟨rfl, HB.out.trans (below_le' HB3.out (by have := HWZ.out; omega))⟩

/-- Are all values right? -/
def rightsL : VL → Bool
  | .nil => true
  | .cons k n s sub rest => rightB k n s sub && rightsL rest
theorem rights_cost : ∀ (l : VL), rightsL l = true → cost l ≤ 4096 * (l.len : Int)
  | .nil, _ => by rw [cost, VL.len]; omega
  | .cons k n s sub rest, h => by
    rw [rightsL, Bool.and_eq_true] at h
    have h1 := walk1_cost k n s sub 1 4096 (by omega) (of_decide_eq_true h.1)
    have h2 := rights_cost rest h.2
    rw [cost, VL.len]; omega
/-- A number below another one. -/
def PNum (b : Nat) (w : World) (e : Ending) (w' : World) : Prop := ∃ r : Nat, r < b ∧ e = .returned (.int .i64 r) ∧ w = w'
set_option maxHeartbeats 1000000 in
theorem wnumber_c (n : Int) (b : Nat) (w : World) (hn0 : -9223372036854775808 ≤ n) (hn1 : n ≤ 9223372036854775807) (hb0 : 0 < b) (hb1 : b ≤ 1000000) :
    Calls Tryz.prog 16 #[.int .i64 n, .int .i64 b] w (PNum b w) := by
  have ht1 : Int.tmod n b < b := Int.tmod_lt_of_pos n (by omega)
  have ht0 : -(b : Int) < Int.tmod n b := by
    by_cases h : 0 ≤ n
    · have := Int.tmod_nonneg (b : Int) h; omega
    · have h1 := Int.tmod_lt_of_pos (-n) (show (0 : Int) < (b : Int) by omega)
      rw [Int.neg_tmod] at h1; omega
  have hbz : ((b : Int) == 0) = false := (bne_of (by omega)).2
  by_cases hneg : Int.tmod n b < 0
  · have hd : decide (Int.tmod n b < 0) = true := decide_eq_true hneg
    go_enter Tryz.func16, Tryz.ntmps16
    go_wp2_with fail
    go_ret
    exact ⟨(Int.tmod n b + b).toNat, by omega, ret_int (by omega), rfl⟩
  · have hd : decide (Int.tmod n b < 0) = false := decide_eq_false hneg
    go_enter Tryz.func16, Tryz.ntmps16
    go_wp2_with fail
    go_ret
    exact ⟨(Int.tmod n b).toNat, by omega, ret_int (by omega), rfl⟩
end Go.Proofs.YtbalpfpcbckghaaGreatDoor
namespace Go.Proofs.YtbalpfpcbckghaaGreatDoor
open Go.RowKit Go.Lib
set_option linter.unusedVariables false
set_option linter.unusedSimpArgs false

def VSameC (N : Nat) : Prop := ∀ (k n : Int) (s : ByteArray) (sub : VL) (sa sb : Option Addr) (ca cb : Nat) (w : World), sub.size < N → cost sub ≤ 100000 → sub.len ≤ ca → sub.len ≤ cb → RpL w (fun b => b < w.heap.size) sub sa → RpL w (fun b => b < w.heap.size) sub sb →
  Calls Tryz.prog 15 #[.agg #[.int .i64 k, .int .i64 n, .string s, .slice sa sub.len ca], .agg #[.int .i64 k, .int .i64 n, .string s, .slice sb sub.len cb]] w fun e w' => e = .returned (.bool true) ∧ Below w.heap.size w w'
set_option maxRecDepth 100000 in
set_option maxHeartbeats 4000000 in
theorem vsame_step (N : Nat) (ih : ∀ N', N' < N → VSameC N') : VSameC N := by
  intro k n s sub sa sb ca cb w hN hcost hca hcb ha hb
  obtain ⟨w1, hw1⟩ : ∃ w1, w1 = w.alloc (.cells #[.int .i64 k, .int .i64 n, .string s, .slice sa sub.len ca] 24) := ⟨_, rfl⟩
  have hb1 : Below w.heap.size w w1 := by rw [hw1]; exact (Below.refl _ _).alloc (Nat.le_refl _) _
  have hz1 : w1.heap.size = w.heap.size + 1 := by rw [hw1]; simp
  obtain ⟨w2, hw2⟩ : ∃ w2, w2 = w1.alloc (.cells #[.int .i64 k, .int .i64 n, .string s, .slice sb sub.len cb] 24) := ⟨_, rfl⟩
  have hb2 : Below w1.heap.size w1 w2 := by rw [hw2]; exact (Below.refl _ _).alloc (Nat.le_refl _) _
  have hz2 : w2.heap.size = w.heap.size + 2 := by rw [hw2]; simp; omega
  have V1 := (show StB w1 w.heap.size (.int .i64 k) (.int .i64 n) (.string s) (.slice sa sub.len ca) by rw [hw1]; exact StB.new w _ _ _ _).below hb2 (by omega)
  have V2 : StB w2 (w.heap.size + 1) (.int .i64 k) (.int .i64 n) (.string s) (.slice sb sub.len cb) := by rw [hw2, ← hz1]; exact StB.new w1 _ _ _ _
  have a0 := V1.c0; have a1 := V1.c1; have a2 := V1.c2; have a3 := V1.c3
  have b0 := V2.c0; have b1 := V2.c1; have b2 := V2.c2; have b3 := V2.c3
  have hbb := hb1.trans (below_le' hb2 hb1.size)
  have hln := len_cost sub
  have HB := Lib.hid hbb
  have HV2 := Lib.hid V2
  have RA := Lib.hid (fun W (hW : Below w.heap.size w W) => ha.keep (w' := W) (S' := fun b => b < W.heap.size) (fun b hlt => hW.block b hlt) (fun b hlt => Nat.lt_of_lt_of_le hlt hW.size))
  have RB := Lib.hid (fun W (hW : Below w.heap.size w W) => hb.keep (w' := W) (S' := fun b => b < W.heap.size) (fun b hlt => hW.block b hlt) (fun b hlt => Nat.lt_of_lt_of_le hlt hW.size))
  rw [hw2, hw1] at a0 a1 a2 a3 b0 b1 b2 b3
  have HW := Lib.hid (show w2 = (w.alloc (.cells #[.int .i64 k, .int .i64 n, .string s, .slice sa sub.len ca] 24)).alloc (.cells #[.int .i64 k, .int .i64 n, .string s, .slice sb sub.len cb] 24) by rw [hw2, hw1])
  have IH := Lib.hid ih
  clear hw1 hw2 hb1 hb2 hbb V1 V2 ha hb ih
  go_enter Tryz.func15, Tryz.ntmps15
  go_wp2_with fail
  rw [← HW.out]
  clear a0 a1 a2 a3 b0 b1 b2 b3
  go_loopg [38] sub.len (fun kk iv wr => ∃ i : Nat, iv = .int .i64 (i : Int) ∧ i + kk = sub.len ∧ Hid (Below w2.heap.size w2 wr))
  case atStart => exact ⟨0, rfl, by omega, Lib.hid (Below.refl _ _)⟩
  case round =>
    obtain ⟨i, rfl, hik, HBW⟩ := hrel
    have hrz := HBW.out.size
    have HBr := Lib.hid (HB.out.trans (below_le' HBW.out HB.out.size))
    by_cases hi : i < sub.len
    · obtain ⟨kk, rfl⟩ : ∃ kk, gk = kk + 1 := ⟨gk - 1, by omega⟩
      obtain ⟨b, o, k1, n1, s1, u1, p1, q1, hA, hd, hS1, c0, c1, c2, c3, hcl1, hrs1, hsz1⟩ := rp_at (RA.out wr HBr.out) hi
      obtain ⟨b', o', k2, n2, s2, u2, p2, q2, hA2, hd2, hS2, d0, d1, d2, d3, hcl2, hrs2, -⟩ := rp_at (RB.out wr HBr.out) hi
      rw [hd] at hd2
      injection hd2 with e1 e2 e3 e4 _
      subst e1; subst e2; subst e3; subst e4
      have hcd := cost_drop i sub
      rw [hd, cost] at hcd
      have hcr := cost_ge (sub.drop (i + 1))
      have hmm := mOf_ge k1 s1
      have hul := len_cost u1
      obtain ⟨wx, hwx⟩ : ∃ wx, wx = wr.alloc (.cells #[.int .i64 k1, .int .i64 n1, .string s1, .slice p1 u1.len q1] 24) := ⟨_, rfl⟩
      have hbx' : Below wr.heap.size wr wx := by rw [hwx]; exact (Below.refl _ _).alloc (Nat.le_refl _) _
      have hxz : wx.heap.size = wr.heap.size + 1 := by rw [hwx]; simp
      have hVx : StB wx wr.heap.size (.int .i64 k1) (.int .i64 n1) (.string s1) (.slice p1 u1.len q1) := by rw [hwx]; exact StB.new wr _ _ _ _
      have v0 := hVx.c0; have v1 := hVx.c1; have v2 := hVx.c2; have v3 := hVx.c3
      have m3 := (HV2.out.below (HBW.out.trans (below_le' hbx' hrz)) (by omega)).c3
      have n0 := (hbx'.cell (p := ⟨b', o' + i * 4, none⟩) hS2).trans d0
      have n1' := (hbx'.cell (p := ⟨b', o' + i * 4 + 1, none⟩) hS2).trans d1
      have n2 := (hbx'.cell (p := ⟨b', o' + i * 4 + 2, none⟩) hS2).trans d2
      have n3 := (hbx'.cell (p := ⟨b', o' + i * 4 + 3, none⟩) hS2).trans d3
      have SC := Lib.hid (IH.out (u1.size + 1) (by omega) k1 n1 s1 u1 p1 p2 q1 q2 wx.drew (by omega) (by omega) hcl1 hcl2
        (hrs1.keep (w' := wx.drew) (S' := fun b => b < wx.drew.heap.size) (fun b hb => hbx'.block b hb) (fun b hb => Nat.lt_of_lt_of_le hb hbx'.size)) (hrs2.keep (w' := wx.drew) (S' := fun b => b < wx.drew.heap.size) (fun b hb => hbx'.block b hb) (fun b hb => Nat.lt_of_lt_of_le hb hbx'.size)))
      have HBX := Lib.hid (HBW.out.trans (below_le' hbx' hrz))
      have HWX := Lib.hid hwx
      subst hA; subst hA2
      clear hd hcd hrs1 hrs2 hwx hbx' hVx d0 d1 d2 d3
      go_wp2_with fail
      rw [← HWX.out]
      go_still_tail 6, (by kernel_rfl)
      change wpList _ _ _ _ _ wx.drew
      go_wp2_with fail
      refine SC.out.mono ?_
      rintro e w5 ⟨rfl, hb5⟩
      have HB5 := Lib.hid (HBX.out.trans (below_le' (show Below wx.heap.size wx w5 from ((Below.refl wx.heap.size wx).drew).trans hb5) HBX.out.size))
      clear hb5 SC c0 c1 c2 c3 v0 v1 v2 v3 m3 n0 n1' n2 n3
      go_wp2_with fail
      go_roundg kk
      case measure => omega
      case rel => exact ⟨i + 1, by go_num, by omega, HB5⟩
    · go_wp2_with fail
      go_ret
      exact ⟨rfl, HBr.out⟩
theorem vsame_c (N : Nat) : VSameC N := by
  induction N using Nat.strongRecOn with
  | _ N ih => exact vsame_step N ih
end Go.Proofs.YtbalpfpcbckghaaGreatDoor
namespace Go.Proofs.YtbalpfpcbckghaaGreatDoor
open Go.RowKit Go.Lib
set_option linter.unusedVariables false

set_option maxRecDepth 100000 in
set_option maxHeartbeats 2000000 in
theorem worldValuesM_c (m : Nat) (l : VL) (sa : Option Addr) (sc : Nat) (w : World) (hfit : l.fit) (hln : l.len ≤ 140737488351232) (hsc : l.len ≤ sc) (hrep : RpL w (fun b => b < w.heap.size) l sa) :
    Calls Tryz.prog 8 #[.slice sa l.len sc, .int .i64 (m : Int)] w fun e w' => e = .returned (.bool (decide (l.len ≤ m) && rightsL l)) ∧ Below w.heap.size w w' := by
  by_cases h12 : l.len ≤ m
  · have hd : decide ((m : Int) < (l.len : Int)) = false := by simp; omega
    have hd2 : decide (m < l.len) = false := by simp; omega
    rw [decide_eq_true h12, Bool.true_and]
    have HRP := Lib.hid hrep
    clear hrep
    go_enter Tryz.func8, Tryz.ntmps8
    go_wp2_with fail
    go_loopg [5] l.len (fun kk v wr => ∃ (i : Nat), v = .int .i64 i ∧ i + kk = l.len ∧ Hid (rightsL (l.drop i) = rightsL l) ∧ Hid (Below w.heap.size w wr))
    case atStart => exact ⟨0, rfl, by omega, by show rightsL (l.drop 0) = _; rw [VL.drop], Below.refl _ _⟩
    case round =>
      obtain ⟨i, rfl, hik, hda, hbr⟩ := hrel
      have hrz := hbr.out.size
      by_cases hi : i < l.len
      · obtain ⟨g, rfl⟩ : ∃ g, gk = g + 1 := ⟨gk - 1, by omega⟩
        obtain ⟨b, o, k', n', s', sub', sa', sc', hA, hd', hSb, c0, c1, c2, c3, hcl, hrs, hszd⟩ := rp_at (HRP.out.keep (w' := wr) (fun b hb => hbr.out.block b hb) (fun b hb => hb)) hi
        have hfd := VL.fit_drop i l hfit
        rw [hd'] at hfd
        have RC := Lib.hid (right_c k' n' s' sub' sa' sc' wr ⟨hfd.1, hfd.2.1, hfd.2.2.1, trivial⟩ hcl (hrs.wide (fun b hb => by omega)))
        have HN := Lib.hid (show (rightB k' n' s' sub' && rightsL (l.drop (i + 1))) = rightsL l by rw [← hda.out, hd']; rfl)
        obtain ⟨q, hq⟩ : ∃ q, q = rightB k' n' s' sub' := ⟨_, rfl⟩
        rw [← hq] at RC HN
        have HSA := Lib.hid hA
        subst hA
        clear hrs hd' hq hfd
        go_wp2_with fail
        refine RC.out.mono ?_
        rintro e w3 ⟨rfl, hb3⟩
        have HB3 := Lib.hid (hbr.out.trans (below_le' hb3 hrz))
        clear hb3 c0 c1 c2 c3
        cases q with
        | true =>
          go_wp2_with fail
          go_roundg g
          case measure => omega
          case rel => exact ⟨i + 1, by go_num, by omega, by show rightsL _ = _; rw [← HN.out, Bool.true_and], HB3⟩
        | false =>
          go_wp2_with fail
          go_ret
          exact ⟨ret_bool (by rw [← HN.out, Bool.false_and]), HB3.out⟩
      · obtain rfl : i = l.len := by omega
        have HN := Lib.hid (show rightsL l = true by rw [← hda.out, VL.drop_len]; rfl)
        go_wp2_with fail
        go_ret
        exact ⟨ret_bool HN.out.symm, hbr.out⟩
  · have hd : decide ((m : Int) < (l.len : Int)) = true := by simp; omega
    have hd2 : decide (m < l.len) = true := by simp; omega
    rw [decide_eq_false h12, Bool.false_and]
    clear hrep
    go_enter Tryz.func8, Tryz.ntmps8
    go_wp2_with fail
    go_ret
    exact ⟨rfl, Below.refl _ _⟩
end Go.Proofs.YtbalpfpcbckghaaGreatDoor
namespace Go.Proofs.YtbalpfpcbckghaaGreatDoor
open Go.RowKit Go.Lib
set_option linter.unusedVariables false

def ValuesCB (N : Nat) : Prop := ∀ (l : VL) (sa : Option Addr) (sc : Nat) (w : World), l.size < N → cost l ≤ 200000 → l.len ≤ sc → RpL w (fun b => b < w.heap.size) l sa → Calls Tryz.prog 12 #[.slice sa l.len sc] w (PList w l)

set_option maxRecDepth 100000 in
set_option maxHeartbeats 4000000 in
theorem value_ofB (k n : Int) (s : ByteArray) (sub : VL) (sa : Option Addr) (sc : Nat) (w : World) (ih : ValuesCB (sub.size + 1)) (hcost : cost sub ≤ 200000) (hsc : sub.len ≤ sc) (hrep : RpL w (fun b => b < w.heap.size) sub sa) :
    Calls Tryz.prog 31 #[.agg #[.int .i64 k, .int .i64 n, .string s, .slice sa sub.len sc]] w (PCopy w k n s sub) := by
  obtain ⟨wa, hwa⟩ : ∃ wa, wa = (w.alloc (.cells #[.int .i64 k, .int .i64 n, .string s, .slice sa sub.len sc] 24)).alloc (.cells #[.int .i64 0, .int .i64 0, .string ⟨#[]⟩, .slice none 0 0] 24) := ⟨_, rfl⟩
  have hba : Below w.heap.size w wa := by rw [hwa]; exact ((Below.refl _ _).alloc (Nat.le_refl _) _).alloc (by simp) _
  have hwz : wa.heap.size = w.heap.size + 2 := by rw [hwa]; simp
  have hV : StB wa w.heap.size (.int .i64 k) (.int .i64 n) (.string s) (.slice sa sub.len sc) := by rw [hwa]; exact (StB.new w _ _ _ _).alloc _
  have hR : StB wa (w.heap.size + 1) (.int .i64 0) (.int .i64 0) (.string ⟨#[]⟩) (.slice none 0 0) := by
    rw [hwa]; have := StB.new (w.alloc (.cells #[.int .i64 k, .int .i64 n, .string s, .slice sa sub.len sc] 24)) (.int .i64 0) (.int .i64 0) (.string ⟨#[]⟩) (.slice none 0 0)
    simpa using this
  obtain ⟨wd, hwd⟩ : ∃ wd, wd = wa.drew := ⟨_, rfl⟩
  have hbd : Below w.heap.size w wd := by rw [hwd]; exact hba.drew
  have hdz : wd.heap.size = w.heap.size + 2 := by rw [hwd]; exact hwz
  have hVd : StB wd w.heap.size (.int .i64 k) (.int .i64 n) (.string s) (.slice sa sub.len sc) := by rw [hwd]; exact hV
  have hRd : StB wd (w.heap.size + 1) (.int .i64 0) (.int .i64 0) (.string ⟨#[]⟩) (.slice none 0 0) := by rw [hwd]; exact hR
  have VC := Lib.hid (ih sub sa sc wd (by omega) hcost hsc (hrep.keep (w' := wd) (S' := fun b => b < wd.heap.size) (fun b hb => hbd.block b hb) (fun b hb => by omega)))
  have v0 := hV.c0; have v1 := hV.c1; have v2 := hV.c2; have v3 := hV.c3
  have d0 := hVd.c0; have d1 := hVd.c1; have d2 := hVd.c2; have d3 := hVd.c3
  have KS := Lib.hid (fun (W : World) (hb : Below wd.heap.size wd W) => (⟨cell_below hb d0, cell_below hb d1, cell_below hb d2, cell_below hb d3⟩ : W.cell? ⟨w.heap.size, 0, none⟩ = some (.int .i64 k) ∧ W.cell? ⟨w.heap.size, 1, none⟩ = some (.int .i64 n) ∧ W.cell? ⟨w.heap.size, 2, none⟩ = some (.string s) ∧ W.cell? ⟨w.heap.size, 3, none⟩ = some (.slice sa sub.len sc)))
  have HR := Lib.hid hRd
  have HB := Lib.hid hbd
  have HWZ := Lib.hid hdz
  have HWA := Lib.hid hwa
  have HWD := Lib.hid hwd
  rw [hwd] at d0 d1 d2 d3
  rw [hwd] at VC HR HB HWZ KS
  clear hba hwz hV hR hwa hrep hbd hdz hVd hRd hwd
  go_enter Tryz.func31, Tryz.ntmps31
  go_wp2_with fail
  rw [← HWA.out]
  go_region_held3 (fun W => W.cell? ⟨w.heap.size, 0, none⟩ = some (.int .i64 k) ∧ W.cell? ⟨w.heap.size, 1, none⟩ = some (.int .i64 n) ∧ W.cell? ⟨w.heap.size, 2, none⟩ = some (.string s) ∧ W.cell? ⟨w.heap.size, 3, none⟩ = some (.slice sa sub.len sc))
    (first | assumption | exact ⟨d0, d1, d2, d3⟩ | exact KS.out _ (by assumption) | go_keep)
    (first | (go_at_call 12; refine VC.out.mono ?_; rintro e w5 ⟨sb, cb, rfl, hcb, hrb, hb5⟩
              have hr5 := HR.out.below hb5 (by have := HWZ.out; omega)
              have z0 := hr5.c0; have z1 := hr5.c1; have z2 := hr5.c2; have z3 := hr5.c3; have f0 := hr5.fr 0; have f1 := hr5.fr 1; have f2 := hr5.fr 2; have f3 := hr5.fr 3))
  all_goals
    have h5z := hb5.size
    have HF := Lib.hid (value_end (k := k) (n := n) (s := s) (HB.out.trans (below_le' hb5 (by have := HWZ.out; omega))) (by have := HWZ.out; omega) hr5 hcb (hrb.wide (fun c hc => ⟨by have := HWZ.out; omega, hc.2⟩)))
    go_wp2_with fail
    exact ret_cell4 Tryz.results31 (w.heap.size + 1) rfl rfl HF.out.1 HF.out.2

set_option maxRecDepth 100000 in
set_option maxHeartbeats 4000000 in
theorem values_stepB (N : Nat) (ih : ∀ N', N' < N → ValuesCB N') : ValuesCB N := by
  intro l sa sc w hN hcost hsc hrep
  obtain ⟨i0, hi0, hz0, hz1, hz2⟩ := info_parts val_info
  have hln := len_cost l
  by_cases h0 : l.len = 0
  · obtain rfl : l = .nil := by cases l with | nil => rfl | cons _ _ _ _ _ => exact absurd h0 (Nat.succ_ne_zero _)
    rw [show VL.nil.len = 0 from rfl]
    clear h0 hrep hln
    go_enter Tryz.func12, Tryz.ntmps12
    go_wp2_with fail
    go_ret
    exact ⟨none, 0, rfl, Nat.le_refl _, trivial, Below.refl _ _⟩
  have hb0 : ((l.len : Int) == 0) = false := (bne_of (by omega)).2
  have HRP := Lib.hid hrep
  clear hrep
  go_enter Tryz.func12, Tryz.ntmps12
  go_wp2_with (refine wpList_make_own w rfl (.const (.int .i64 0)) (.tmp 9) 22 rfl w.heap.size 24 i0 _ 4 Tryz.underlying22 hi0 hz0 hz1 .i64 .i64 (l.len : Int) l.len rfl rfl rfl ?c1 ?c2 ?c3 ?c4
               case c1 => rw [hz2]; omega
               case c2 => unfold maxLen; omega
               case c3 => exact Nat.le_refl _
               intro wm hown hgrow
               have CM := Lib.hid (show CInv w.heap.size w wm (.slice (some ⟨w.heap.size, 0, none⟩) 0 l.len) .nil [] from ⟨hown, rfl, ⟨hgrow.os, hgrow.tape, hgrow.output, hgrow.size, fun b hb => hgrow.block b hb (fun e => by cases e)⟩, hgrow.size⟩)
               clear hown hgrow)
  go_loopg [3, 4] l.len (fun kk ov v wr => ∃ (bv : Value) (i : Nat) (xs : List Value), bv = ov ∧ v = .int .i64 i ∧ i + kk = l.len ∧ Hid (CInv w.heap.size w wr bv (l.take i) xs))
  case atStart => exact ⟨_, 0, [], rfl, rfl, by omega, by show CInv _ _ _ _ (l.take 0) _; rw [VL.take]; exact CM.out⟩
  case round =>
    obtain ⟨bv, i, xs, rfl, rfl, hik, hC⟩ := hrel
    have hbr := hC.out.below
    have hrz := hC.out.size
    by_cases hi : i < l.len
    · obtain ⟨g, rfl⟩ : ∃ g, gk = g + 1 := ⟨gk - 1, by omega⟩
      obtain ⟨b, o, k', n', s', sub', sa', sc', hA, hd, hSb, c0, c1, c2, c3, hcl, hrs, hszd⟩ := rp_at (HRP.out.keep (w' := wr) (fun b hb => hbr.block b hb) (fun b hb => hb)) hi
      have hts := Lib.hid (VL.take_succ i l k' n' s' sub' hd)
      have hcd := cost_drop i l
      rw [hd, cost] at hcd
      have hcr := cost_ge (l.drop (i + 1))
      have hmm := mOf_ge k' s'
      have htl : (l.take i).len ≤ 200000 := by
        have h2 : (l.take i).len + (l.drop i).len = l.len := by rw [← VL.len_app, VL.take_app_drop]
        omega
      have IHC := Lib.hid (value_ofB k' n' s' sub' sa' sc' wr (ih _ (by omega)) (by omega) hcl (hrs.wide (fun b hb => by omega)))
      have CX := Lib.hid hC.out
      have HSA := Lib.hid hA
      subst hA
      clear hrs hd hcd hbr
      go_wp2_with fail
      refine IHC.out.mono ?_
      rintro e w3 ⟨sb, cb, rfl, hcb, hrb, hb3⟩
      have C3 := Lib.hid (CX.out.move hb3)
      have HB3 := Lib.hid hb3
      have HRB := Lib.hid hrb
      have h3z := hb3.size
      clear hb3 hrb c0 c1 c2 c3
      go_wp2_with (at_builtin; refine wpList_append_own_at _ rfl (.tmp 17) (.tmp 23) 22 rfl w.heap.size 24 i0 _ 4 56 Tryz.underlying22 hi0 hz0 hz1 hz2 rfl (by decide) bv (l.take i).len xs rfl (own_below C3.out.own ((Below.refl _ _).alloc (Nat.le_refl _) _)) ⟨w3.heap.size, 0, none⟩ 1 1 [.int .i64 k', .int .i64 n', .string s', .slice sb sub'.len cb] rfl rfl ?e1 ?e2 ?e3 ?e4 ?e5 ?e6
                   case e1 => exact cell_four_new w3 _ rfl _ _ _ _ _
                   case e2 => intro u hu; simp at hu; rcases hu with rfl | rfl | rfl | rfl <;> rfl
                   case e3 => unfold maxLen; omega
                   case e4 => omega
                   case e5 => simp; omega
                   intro V' w5 hown' hgrow _ hob
                   have ST := Lib.hid (CInv.step CX.out HB3.out hcb HRB.out hown' hgrow hob)
                   clear hown' hgrow hob)
      go_roundg g
      case measure => omega
      case rel => exact ⟨V', i + 1, _, rfl, by go_num, by omega, by show CInv _ _ _ _ (l.take (i + 1)) _; rw [hts.out]; exact ST.out⟩
    · obtain rfl : i = l.len := by omega
      obtain ⟨sb, cb, hbv, hcb, hrb⟩ := hC.out.rep
      rw [VL.take_len] at hbv hcb hrb
      have HF := Lib.hid (show PList w l (.returned bv) wr from ⟨sb, cb, by rw [hbv], hcb, hrb, hbr⟩)
      clear hC hbr hrb hbv
      go_wp2_with fail
      go_ret
      exact HF.out
theorem values_cB (N : Nat) : ValuesCB N := by
  induction N using Nat.strongRecOn with
  | _ N ih => exact values_stepB N ih

set_option maxRecDepth 100000 in
set_option maxHeartbeats 2000000 in
theorem refL_cB (l : VL) (sa : Option Addr) (sc : Nat) (w : World) (hcost : cost l ≤ 200000) (hsc : l.len ≤ sc) (hrep : RpL w (fun b => b < w.heap.size) l sa) :
    Calls Tryz.prog 10 #[.slice sa l.len sc] w (PCopy w 4 0 ⟨#[]⟩ l) := by
  obtain ⟨wa, hwa⟩ : ∃ wa, wa = w.alloc (.cells #[.int .i64 0, .int .i64 0, .string ⟨#[]⟩, .slice none 0 0] 24) := ⟨_, rfl⟩
  have hba : Below w.heap.size w wa := by rw [hwa]; exact (Below.refl _ _).alloc (Nat.le_refl _) _
  have hwz : wa.heap.size = w.heap.size + 1 := by rw [hwa]; simp
  have hR : StB wa w.heap.size (.int .i64 0) (.int .i64 0) (.string ⟨#[]⟩) (.slice none 0 0) := by rw [hwa]; exact StB.new w _ _ _ _
  have VC := Lib.hid (values_cB (l.size + 1) l sa sc wa (by omega) hcost hsc (hrep.keep (w' := wa) (S' := fun b => b < wa.heap.size) (fun b hb => hba.block b hb) (fun b hb => by omega)))
  have HR := Lib.hid hR
  have HB := Lib.hid hba
  have HWA := Lib.hid hwa
  have HWZ := Lib.hid hwz
  clear hba hR hwa hwz hrep
  go_enter Tryz.func10, Tryz.ntmps10
  go_wp2_with fail
  rw [← HWA.out]
  refine VC.out.mono ?_
  rintro e w5 ⟨sb, cb, rfl, hcb, hrb, hb5⟩
  have hr5 := HR.out.below hb5 (by have := HWZ.out; omega)
  have h5z := hb5.size
  have z0 := hr5.c0; have z1 := hr5.c1; have z2 := hr5.c2; have z3 := hr5.c3; have f0 := hr5.fr 0; have f1 := hr5.fr 1; have f2 := hr5.fr 2; have f3 := hr5.fr 3
  have HF := Lib.hid (list_end (HB.out.trans (below_le' hb5 (by have := HWZ.out; omega))) (by have := HWZ.out; omega) hr5 hcb (hrb.wide (fun c hc => ⟨by have := HWZ.out; omega, hc.2⟩)))
  clear hr5 hb5 hrb
  go_wp2_with fail
  exact ret_cell4 Tryz.results10 w.heap.size rfl rfl HF.out.1 HF.out.2
end Go.Proofs.YtbalpfpcbckghaaGreatDoor
namespace Go.Proofs.YtbalpfpcbckghaaGreatDoor
open Go.RowKit Go.Lib
set_option linter.unusedVariables false

set_option maxRecDepth 100000 in
set_option maxHeartbeats 4000000 in
/-- The reference's Values, told by its row. -/
theorem values_o (l : VL) (sa : Option Addr) (sc : Nat) (w : World) (hcost : cost l ≤ 100000) (hsc : l.len ≤ sc) (hrep : RpL w (fun b => b < w.heap.size) l sa) :
    Calls Tryz.prog 12 #[.slice sa l.len sc] w fun e w' => ∃ (V : Value) (xs : List Value), e = .returned V ∧ CInv w.heap.size w w' V l xs := by
  obtain ⟨i0, hi0, hz0, hz1, hz2⟩ := info_parts val_info
  have hln := len_cost l
  by_cases h0 : l.len = 0
  · obtain rfl : l = .nil := by cases l with | nil => rfl | cons _ _ _ _ _ => exact absurd h0 (Nat.succ_ne_zero _)
    rw [show VL.nil.len = 0 from rfl]
    clear h0 hrep hln
    go_enter Tryz.func12, Tryz.ntmps12
    go_wp2_with fail
    go_ret
    exact ⟨_, [], rfl, CInv.nil w⟩
  have hb0 : ((l.len : Int) == 0) = false := (bne_of (by omega)).2
  have HRP := Lib.hid hrep
  clear hrep
  go_enter Tryz.func12, Tryz.ntmps12
  go_wp2_with (refine wpList_make_own w rfl (.const (.int .i64 0)) (.tmp 9) 22 rfl w.heap.size 24 i0 _ 4 Tryz.underlying22 hi0 hz0 hz1 .i64 .i64 (l.len : Int) l.len rfl rfl rfl ?c1 ?c2 ?c3 ?c4
               case c1 => rw [hz2]; omega
               case c2 => unfold maxLen; omega
               case c3 => exact Nat.le_refl _
               intro wm hown hgrow
               have CM := Lib.hid (show CInv w.heap.size w wm (.slice (some ⟨w.heap.size, 0, none⟩) 0 l.len) .nil [] from ⟨hown, rfl, ⟨hgrow.os, hgrow.tape, hgrow.output, hgrow.size, fun b hb => hgrow.block b hb (fun e => by cases e)⟩, hgrow.size⟩)
               clear hown hgrow)
  go_loopg [3, 4] l.len (fun kk ov v wr => ∃ (bv : Value) (i : Nat) (xs : List Value), bv = ov ∧ v = .int .i64 i ∧ i + kk = l.len ∧ Hid (CInv w.heap.size w wr bv (l.take i) xs))
  case atStart => exact ⟨_, 0, [], rfl, rfl, by omega, by show CInv _ _ _ _ (l.take 0) _; rw [VL.take]; exact CM.out⟩
  case round =>
    obtain ⟨bv, i, xs, rfl, rfl, hik, hC⟩ := hrel
    have hbr := hC.out.below
    have hrz := hC.out.size
    by_cases hi : i < l.len
    · obtain ⟨g, rfl⟩ : ∃ g, gk = g + 1 := ⟨gk - 1, by omega⟩
      obtain ⟨b, o, k', n', s', sub', sa', sc', hA, hd, hSb, c0, c1, c2, c3, hcl, hrs, hszd⟩ := rp_at (HRP.out.keep (w' := wr) (fun b hb => hbr.block b hb) (fun b hb => hb)) hi
      have hts := Lib.hid (VL.take_succ i l k' n' s' sub' hd)
      have hcd := cost_drop i l
      rw [hd, cost] at hcd
      have hcr := cost_ge (l.drop (i + 1))
      have hmm := mOf_ge k' s'
      have htl : (l.take i).len ≤ 100000 := by
        have h2 : (l.take i).len + (l.drop i).len = l.len := by rw [← VL.len_app, VL.take_app_drop]
        omega
      have IHC := Lib.hid (value_of k' n' s' sub' sa' sc' wr (values_c _) (by omega) hcl (hrs.wide (fun b hb => by omega)))
      have CX := Lib.hid hC.out
      have HSA := Lib.hid hA
      subst hA
      clear hrs hd hcd hbr
      go_wp2_with fail
      refine IHC.out.mono ?_
      rintro e w3 ⟨sb, cb, rfl, hcb, hrb, hb3⟩
      have C3 := Lib.hid (CX.out.move hb3)
      have HB3 := Lib.hid hb3
      have HRB := Lib.hid hrb
      have h3z := hb3.size
      clear hb3 hrb c0 c1 c2 c3
      go_wp2_with (at_builtin; refine wpList_append_own_at _ rfl (.tmp 17) (.tmp 23) 22 rfl w.heap.size 24 i0 _ 4 56 Tryz.underlying22 hi0 hz0 hz1 hz2 rfl (by decide) bv (l.take i).len xs rfl (own_below C3.out.own ((Below.refl _ _).alloc (Nat.le_refl _) _)) ⟨w3.heap.size, 0, none⟩ 1 1 [.int .i64 k', .int .i64 n', .string s', .slice sb sub'.len cb] rfl rfl ?e1 ?e2 ?e3 ?e4 ?e5 ?e6
                   case e1 => exact cell_four_new w3 _ rfl _ _ _ _ _
                   case e2 => intro u hu; simp at hu; rcases hu with rfl | rfl | rfl | rfl <;> rfl
                   case e3 => unfold maxLen; omega
                   case e4 => omega
                   case e5 => simp; omega
                   intro V' w5 hown' hgrow _ hob
                   have ST := Lib.hid (CInv.step CX.out HB3.out hcb HRB.out hown' hgrow hob)
                   clear hown' hgrow hob)
      go_roundg g
      case measure => omega
      case rel => exact ⟨V', i + 1, _, rfl, by go_num, by omega, by show CInv _ _ _ _ (l.take (i + 1)) _; rw [hts.out]; exact ST.out⟩
    · obtain rfl : i = l.len := by omega
      have HF := Lib.hid (show CInv w.heap.size w wr bv l xs by have h := hC.out; rw [VL.take_len] at h; exact h)
      clear hC hbr
      go_wp2_with fail
      go_ret
      exact ⟨bv, xs, rfl, HF.out⟩
end Go.Proofs.YtbalpfpcbckghaaGreatDoor
