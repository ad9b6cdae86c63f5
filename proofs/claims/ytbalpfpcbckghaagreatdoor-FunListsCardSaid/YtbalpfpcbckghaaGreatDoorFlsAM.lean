/- Contracts of the functions that the statement reaches, and the plain mathematics beneath: several texts joined. -/
import Derived.Lib.IndexBytes
import Derived.StillTailTactics
import Derived.Lib.Split
import Derived.LaidEql
import Derived.Test.YtbalpfpcbckghaaGreatDoorFlsAJ
import Derived.Test.YtbalpfpcbckghaaGreatDoorFlsAD
import Derived.Test.YtbalpfpcbckghaaGreatDoorFlsAA
import Derived.Test.YtbalpfpcbckghaaGreatDoorFlsAI
import Derived.Test.YtbalpfpcbckghaaGreatDoorFlsAG
namespace Go.Proofs.YtbalpfpcbckghaaGreatDoor
open Go.RowKit Go.Lib
set_option linter.unusedVariables false

/-- A value of the call's own, and a code. -/
def PValC (w : World) (k n : Int) (s : ByteArray) (sub : VL) (code : Int) (e : Ending) (w' : World) : Prop :=
  ∃ (sa : Option Addr) (sc : Nat), e = .returned (.tuple #[.agg #[.int .i64 k, .int .i64 n, .string s, .slice sa sub.len sc], .int .i64 code]) ∧ sub.len ≤ sc ∧ RpL w' (fun b => w.heap.size ≤ b ∧ b < w'.heap.size) sub sa ∧ Below w.heap.size w w'
theorem nmT {nm : ByteArray} {l : List UInt8} (h : nm.data.toList = l) : (nm.toList == l) = true := by rw [Lib.toList_data, h, beq_iff_eq]
theorem nmF {nm : ByteArray} {l : List UInt8} (h : nm.data.toList = l) (m : List UInt8) (hm : l ≠ m) : (nm.toList == m) = false := by rw [Lib.toList_data, h, beq_eq_false_iff_ne]; exact hm

set_option maxRecDepth 100000 in
set_option maxHeartbeats 2000000 in
theorem right0_c (k n : Int) (s : ByteArray) (sub : VL) (sa : Option Addr) (sc : Nat) (ea : Nat → Addr) (w : World) (he : ErrsAt w ea) (hs : s.size ≤ 140737488351232) (hl : sub.len ≤ 140737488351232) (hf : sub.fit) (hsc : sub.len ≤ sc)
    (hr : RpL w (fun b => b < w.heap.size) sub sa) (h0 : (walk1 k n s sub 1 4096).1 = 0) :
    Calls Tryz.prog 35 #[.agg #[.int .i64 k, .int .i64 n, .string s, .slice sa sub.len sc]] w fun e w' => e = .returned (.int .i64 0) ∧ Below w.heap.size w w' := by
  obtain ⟨wa, hwa⟩ : ∃ wa, wa = w.alloc (.cells #[.int .i64 k, .int .i64 n, .string s, .slice sa sub.len sc] 24) := ⟨_, rfl⟩
  have hb : Below w.heap.size w wa := by rw [hwa]; exact (Below.refl _ _).alloc (Nat.le_refl _) _
  have hV : StB wa w.heap.size (.int .i64 k) (.int .i64 n) (.string s) (.slice sa sub.len sc) := by rw [hwa]; exact StB.new w _ _ _ _
  have v0 := hV.c0; have v1 := hV.c1; have v2 := hV.c2; have v3 := hV.c3
  have hroom := he.room
  have VC := Lib.hid (valid_c k n s sub sa sc ea wa (he.below hb (by omega)) hs hl hf hsc (hr.keep (fun b hlt => hb.block b hlt) (fun b hlt => Nat.lt_of_lt_of_le hlt hb.size)))
  rw [h0, show errV ea 0 = .nilIface from rfl] at VC
  have HB := Lib.hid hb
  rw [hwa] at v0 v1 v2 v3
  have HWA := Lib.hid hwa
  clear hb hwa hV he hr h0 hf
  go_enter Tryz.func35, Tryz.ntmps35
  go_wp2_with fail
  rw [← HWA.out]
  refine VC.out.mono ?_
  rintro e w2 ⟨rfl, hb2⟩
  have HB2 := Lib.hid (HB.out.trans (below_le' hb2 HB.out.size))
  clear hb2 v0 v1 v2 v3
  go_wp2_with fail
  go_ret
  exact ⟨rfl, HB2.out⟩

set_option maxHeartbeats 1000000 in
theorem strIndex_c (s t : ByteArray) (w : World) (hs : s.size < 4294967281) (hm : MaxAt w) :
    Calls Tryz.prog 95 #[.string s, .string t] w fun e w' => e = .returned (.int .i64 (Lib.index s.data.toList t.data.toList + 1)) ∧ w = w' := by
  obtain ⟨m, hm⟩ := hm
  have IC := Lib.hid (Tryz.strings_Index s t m w hs hm)
  have hb := And.intro (Lib.index_ge s.data.toList t.data.toList) (Lib.index_le s.data.toList t.data.toList)
  obtain ⟨i, hi⟩ : ∃ i, i = Lib.index s.data.toList t.data.toList := ⟨_, rfl⟩
  rw [← hi] at IC hb ⊢
  have hz : s.data.toList.length = s.size := by rw [Array.length_toList]; rfl
  rw [hz] at hb
  clear hi hm hz
  have h0 : -1 ≤ i := hb.1
  have h1 : i ≤ (s.size : Int) := hb.2
  clear hb
  go_enter Tryz.func95, Tryz.ntmps95
  go_wp2_with fail
  refine IC.out.mono ?_
  rintro e w2 ⟨rfl, hw⟩
  subst hw
  go_wp2_with fail
  go_ret
  exact ⟨by go_num, rfl⟩


set_option maxRecDepth 100000 in
set_option maxHeartbeats 4000000 in
theorem texts_index (s t : ByteArray) (n1 n2 : Int) (v1 v2 r : VL) (A : Option Addr) (c : Nat) (w : World) (hs : s.size < 4294967281) (hm : MaxAt w) (hroom : 14 < w.heap.size) (hc : r.len + 2 ≤ c) (hlen : r.len ≤ 100000)
    (hrep : RpL w (fun b => b < w.heap.size) (.cons 2 n1 s v1 (.cons 2 n2 t v2 r)) A) (nm : ByteArray) (hnm : nm.data.toList = [105, 110, 100, 101, 120]) :
    Calls Tryz.prog 65 #[.string nm, .slice A (r.len + 2) c] w (PValC w 0 (Lib.index s.data.toList t.data.toList + 1) ⟨#[]⟩ .nil 0) := by
  obtain ⟨b, o, sa, sc, rfl, hbS, c0, c1, c2, c3, hcl, hrs, hr2⟩ := hrep
  obtain ⟨b', o', sa', sc', hA', hbS', d0, d1, d2, d3, hcl', hrs', hr3⟩ := hr2
  injection hA' with hA'
  injection hA' with e1 e2
  subst e1; subst e2
  obtain ⟨wa, hwa⟩ : ∃ wa, wa = w.alloc (.cells #[.int .i64 0, .int .i64 0, .string ⟨#[]⟩, .slice none 0 0] 24) := ⟨_, rfl⟩
  have hb : Below w.heap.size w wa := by rw [hwa]; exact (Below.refl _ _).alloc (Nat.le_refl _) _
  have hza : wa.heap.size = w.heap.size + 1 := by rw [hwa]; simp
  have hR : StB wa w.heap.size (.int .i64 0) (.int .i64 0) (.string ⟨#[]⟩) (.slice none 0 0) := by rw [hwa]; exact StB.new w _ _ _ _
  have x2 := (hb.cell (p := ⟨b, o + 2, none⟩) hbS).trans c2
  have y2 := (hb.cell (p := ⟨b, o + 4 + 2, none⟩) hbS).trans d2
  have x2' := x2
  have y2' := y2
  rw [hwa] at x2 y2
  have SC := Lib.hid (strIndex_c s t wa hs (hm.below hb (by omega)))
  obtain ⟨ix, hix⟩ : ∃ ix, ix = Lib.index s.data.toList t.data.toList + 1 := ⟨_, rfl⟩
  rw [← hix] at SC ⊢
  have IC := Lib.hid (valI_c ix wa)
  obtain ⟨wi, hwi⟩ : ∃ wi, wi = wa.alloc (.cells #[.int .i64 0, .int .i64 ix, .string ⟨#[]⟩, .slice none 0 0] 24) := ⟨_, rfl⟩
  have hbi : Below wa.heap.size wa wi := by rw [hwi]; exact (Below.refl _ _).alloc (Nat.le_refl _) _
  have hRi : StB wi w.heap.size (.int .i64 0) (.int .i64 0) (.string ⟨#[]⟩) (.slice none 0 0) := hR.below hbi (by omega)
  have z0 := hRi.c0; have z1 := hRi.c1; have z2 := hRi.c2; have z3 := hRi.c3; have f0 := hRi.fr 0; have f1 := hRi.fr 1; have f2 := hRi.fr 2; have f3 := hRi.fr 3
  have HF := Lib.hid (show StB ((((wi.setCell ⟨w.heap.size, 0, none⟩ (.int .i64 0)).setCell ⟨w.heap.size, 1, none⟩ (.int .i64 ix)).setCell ⟨w.heap.size, 2, none⟩ (.string ⟨#[]⟩)).setCell ⟨w.heap.size, 3, none⟩ (.slice none 0 0)) w.heap.size (.int .i64 0) (.int .i64 ix) (.string ⟨#[]⟩) (.slice none 0 0) from hRi.set4 _ _ _ _)
  have HB := Lib.hid (show Below w.heap.size w ((((wi.setCell ⟨w.heap.size, 0, none⟩ (.int .i64 0)).setCell ⟨w.heap.size, 1, none⟩ (.int .i64 ix)).setCell ⟨w.heap.size, 2, none⟩ (.string ⟨#[]⟩)).setCell ⟨w.heap.size, 3, none⟩ (.slice none 0 0)) from below_set4 (hb.trans (below_le' hbi hb.size)) (Nat.le_refl _) _ _ _ _)
  have HWA := Lib.hid hwa
  have HWI := Lib.hid hwi
  rw [← hwi] at IC
  have qindex := nmT hnm
  have k1 : 1 < r.len + 2 := by omega
  have k2 : ((1 : Int) < ((r.len + 2 : Nat) : Int)) := by omega
  clear c0 c1 c2 c3 d0 d1 d2 d3 hrs hr3 hrs' hb hR hwa hwi hbi hRi hm hix hnm
  go_enter Tryz.func65, Tryz.ntmps65
  go_wp2_with fail
  rw [← HWA.out]
  refine SC.out.mono ?_
  rintro e w2 ⟨rfl, rfl⟩
  go_wp2_with fail
  refine IC.out.mono ?_
  rintro e w3 ⟨rfl, hw3⟩
  subst hw3
  go_wp2_with fail
  refine ret_cell4_tmp Tryz.results65 w.heap.size rfl rfl HF.out ?_
  exact ⟨none, 0, rfl, Nat.le_refl _, trivial, HB.out⟩
end Go.Proofs.YtbalpfpcbckghaaGreatDoor
namespace Go.Proofs.YtbalpfpcbckghaaGreatDoor
open Go.RowKit Go.Lib
set_option linter.unusedVariables false

theorem valC_end {w wr : World} {g : Nat} {k n : Int} {s : ByteArray} {sub : VL} {sb : Option Addr} {cb : Nat} (code : Int) (hg : w.heap.size ≤ g) (hb : Below w.heap.size w wr) {a0 a1 a2 a3 : Value} (hr : StB wr g a0 a1 a2 a3)
    (hcb : sub.len ≤ cb) (hrb : RpL wr (fun b => w.heap.size ≤ b ∧ b ≠ g ∧ b < wr.heap.size) sub sb) :
    StB ((((wr.setCell ⟨g, 0, none⟩ (.int .i64 k)).setCell ⟨g, 1, none⟩ (.int .i64 n)).setCell ⟨g, 2, none⟩ (.string s)).setCell ⟨g, 3, none⟩ (.slice sb sub.len cb)) g (.int .i64 k) (.int .i64 n) (.string s) (.slice sb sub.len cb) ∧
    PValC w k n s sub code (.returned (.tuple #[.agg #[.int .i64 k, .int .i64 n, .string s, .slice sb sub.len cb], .int .i64 code])) ((((wr.setCell ⟨g, 0, none⟩ (.int .i64 k)).setCell ⟨g, 1, none⟩ (.int .i64 n)).setCell ⟨g, 2, none⟩ (.string s)).setCell ⟨g, 3, none⟩ (.slice sb sub.len cb)) :=
  ⟨hr.set4 _ _ _ _, sb, cb, rfl, hcb, hrb.keep (fun c hc => heap_set4 _ _ _ _ _ _ _ hc.2.1) (fun c hc => ⟨hc.1, by rw [size_set4]; exact hc.2.2⟩), below_set4 hb hg _ _ _ _⟩

set_option maxRecDepth 100000 in
set_option maxHeartbeats 4000000 in
theorem call_index (s t : ByteArray) (n1 n2 : Int) (v1 v2 r : VL) (A : Option Addr) (c : Nat) (w : World) (hs : s.size < 4294967281) (hm : MaxAt w) (hroom : 14 < w.heap.size) (hc : r.len + 2 ≤ c) (hlen : r.len ≤ 100000)
    (hrep : RpL w (fun b => b < w.heap.size) (.cons 2 n1 s v1 (.cons 2 n2 t v2 r)) A) (nm : ByteArray) (hnm : nm.data.toList = [105, 110, 100, 101, 120]) :
    Calls Tryz.prog 34 #[.string nm, .slice A (r.len + 2) c] w (PValC w 0 (Lib.index s.data.toList t.data.toList + 1) ⟨#[]⟩ .nil 0) := by
  obtain ⟨b, o, sa, sc, rfl, hbS, c0, -, -, -, -, -, -⟩ := id hrep
  obtain ⟨wa, hwa⟩ : ∃ wa, wa = w.alloc (.cells #[.int .i64 0, .int .i64 0, .string ⟨#[]⟩, .slice none 0 0] 24) := ⟨_, rfl⟩
  have hb : Below w.heap.size w wa := by rw [hwa]; exact (Below.refl _ _).alloc (Nat.le_refl _) _
  have hza : wa.heap.size = w.heap.size + 1 := by rw [hwa]; simp
  have hR : StB wa w.heap.size (.int .i64 0) (.int .i64 0) (.string ⟨#[]⟩) (.slice none 0 0) := by rw [hwa]; exact StB.new w _ _ _ _
  have x0 := (hb.cell (p := ⟨b, o, none⟩) hbS).trans c0
  rw [hwa] at x0
  have TC := Lib.hid (texts_index s t n1 n2 v1 v2 r (some ⟨b, o, none⟩) c wa hs (hm.below hb (by omega)) (by omega) hc hlen (hrep.keep (fun b hlt => hb.block b hlt) (fun b hlt => Nat.lt_of_lt_of_le hlt hb.size)) nm hnm)
  obtain ⟨ix, hix⟩ : ∃ ix, ix = Lib.index s.data.toList t.data.toList + 1 := ⟨_, rfl⟩
  rw [← hix] at TC ⊢
  have HB := Lib.hid hb
  have HR := Lib.hid hR
  have HWA := Lib.hid hwa
  have k1 : 0 < r.len + 2 := by omega
  have k2 : ((0 : Int) < ((r.len + 2 : Nat) : Int)) := by omega
  have qtypeof := nmF hnm [116, 121, 112, 101, 111, 102] (by decide)
  have qlength := nmF hnm [108, 101, 110, 103, 116, 104] (by decide)
  have qtostr := nmF hnm [116, 111, 115, 116, 114] (by decide)
  have qtoliteral := nmF hnm [116, 111, 108, 105, 116, 101, 114, 97, 108] (by decide)
  have qtoint := nmF hnm [116, 111, 105, 110, 116] (by decide)
  have qtoobj := nmF hnm [116, 111, 111, 98, 106] (by decide)
  have qequal := nmF hnm [101, 113, 117, 97, 108] (by decide)
  have qsize := nmF hnm [115, 105, 122, 101] (by decide)
  have qabs := nmF hnm [97, 98, 115] (by decide)
  have qmin := nmF hnm [109, 105, 110] (by decide)
  have qmax := nmF hnm [109, 97, 120] (by decide)
  have qwords := nmF hnm [119, 111, 114, 100, 115] (by decide)
  have qjoin := nmF hnm [106, 111, 105, 110] (by decide)
  clear hb hR hwa hm hix hnm hrep c0
  go_enter Tryz.func34, Tryz.ntmps34
  go_wp2_with fail
  rw [← HWA.out]
  refine TC.out.mono ?_
  rintro e w2 ⟨sa2, sc2, rfl, hsc2, hr2, hb2⟩
  have hr5 := HR.out.below hb2 (by omega)
  have z0 := hr5.c0; have z1 := hr5.c1; have z2 := hr5.c2; have z3 := hr5.c3; have f0 := hr5.fr 0; have f1 := hr5.fr 1; have f2 := hr5.fr 2; have f3 := hr5.fr 3
  have HF := Lib.hid (valC_end (w := w) (k := 0) (n := ix) (s := ⟨#[]⟩) 0 (Nat.le_refl _) (HB.out.trans (below_le' hb2 HB.out.size)) hr5 hsc2 (hr2.wide (fun c hc => ⟨by omega, by omega, hc.2⟩)))
  clear hr5 hb2 hr2
  go_wp2_with fail
  refine ret_cell4_tmp Tryz.results34 w.heap.size rfl rfl HF.out.1 ?_
  exact HF.out.2

set_option maxRecDepth 100000 in
set_option maxHeartbeats 4000000 in
/-- Over what fun.call gives: a right value. -/
theorem Call_good (nm : ByteArray) (l : VL) (A : Option Addr) (c : Nat) (k n : Int) (s : ByteArray) (sub : VL) (ea : Nat → Addr) (w : World) (he : FnEnv w) (hea : ErrsAt w ea) (hc : l.len ≤ c) (hlen : l.len ≤ 100000) (hrep : RpL w (fun b => b < w.heap.size) l A)
    (hp : pureP nm.data.toList = true) (hf : fitsP nm.data.toList l = 0) (hs : s.size ≤ 140737488351232) (hsl : sub.len ≤ 140737488351232) (hsf : sub.fit) (hcost : cost sub ≤ 100000) (h0 : (walk1 k n s sub 1 4096).1 = 0)
    (hcall : ∀ W, Below w.heap.size w W → RpL W (fun b => b < W.heap.size) l A → Calls Tryz.prog 34 #[.string nm, .slice A l.len c] W (PValC W k n s sub 0)) :
    Calls Tryz.prog 14 #[.string nm, .slice A l.len c] w (PValC w k n s sub 0) := by
  have hroom := he.room
  obtain ⟨wa, hwa⟩ : ∃ wa, wa = w.alloc (.cells #[.int .i64 0, .int .i64 0, .string ⟨#[]⟩, .slice none 0 0] 24) := ⟨_, rfl⟩
  have hb : Below w.heap.size w wa := by rw [hwa]; exact (Below.refl _ _).alloc (Nat.le_refl _) _
  have hza : wa.heap.size = w.heap.size + 1 := by rw [hwa]; simp
  have hR : StB wa w.heap.size (.int .i64 0) (.int .i64 0) (.string ⟨#[]⟩) (.slice none 0 0) := by rw [hwa]; exact StB.new w _ _ _ _
  have PC := Lib.hid (pure_c nm wa (he.below hb (by omega)))
  rw [hp] at PC
  have RP := Lib.hid (fun W (hW : Below w.heap.size w W) => hrep.keep (w' := W) (S' := fun b => b < W.heap.size) (fun b hlt => hW.block b hlt) (fun b hlt => Nat.lt_of_lt_of_le hlt hW.size))
  have FC := Lib.hid (fun W (hW : Below w.heap.size w W) => ffits_c nm l A c W (he.below hW (by omega)) hc hlen (RP.out W hW))
  rw [hf] at FC
  have EA := Lib.hid (fun W (hW : Below w.heap.size w W) => hea.below hW (by omega))
  have CC := Lib.hid (fun W (hW : Below w.heap.size w W) => hcall W hW (RP.out W hW))
  have HSF := Lib.hid hsf
  have H0 := Lib.hid h0
  have HB := Lib.hid hb
  have HR := Lib.hid hR
  have HWA := Lib.hid hwa
  clear hb hR hwa he hea hcall hrep hp hf hsf h0
  go_enter Tryz.func14, Tryz.ntmps14
  go_wp2_with fail
  rw [← HWA.out]
  refine PC.out.mono ?_
  rintro e w2 ⟨rfl, hb2⟩
  have HB2 := Lib.hid (HB.out.trans (below_le' hb2 HB.out.size))
  have HR2 := Lib.hid (HR.out.below hb2 (by omega))
  have h2z := hb2.size
  clear hb2 PC HWA HR
  go_wp2_with fail
  refine (FC.out w2 HB2.out).mono ?_
  rintro e w3 ⟨rfl, hb3⟩
  have HB3 := Lib.hid (HB2.out.trans (below_le' hb3 HB2.out.size))
  have h3z := hb3.size
  have HR3 := Lib.hid (HR2.out.below hb3 (by omega))
  clear FC HR2
  obtain ⟨w4, hw4⟩ : ∃ w4, w4 = w3.alloc (.cells #[.int .i64 0, .int .i64 0, .string ⟨#[]⟩, .slice none 0 0] 24) := ⟨_, rfl⟩
  have hb4 : Below w3.heap.size w3 w4 := by rw [hw4]; exact (Below.refl _ _).alloc (Nat.le_refl _) _
  have h4z : w4.heap.size = w3.heap.size + 1 := by rw [hw4]; simp
  have HB4 := Lib.hid (HB3.out.trans (below_le' hb4 HB3.out.size))
  have hV4 : StB w4 w3.heap.size (.int .i64 0) (.int .i64 0) (.string ⟨#[]⟩) (.slice none 0 0) := by rw [hw4]; exact StB.new w3 _ _ _ _
  have HR4 := Lib.hid (HR3.out.below hb4 (by omega))
  have HV4 := Lib.hid hV4
  have HW4 := Lib.hid hw4
  clear hb4 hV4 hw4 HR3 hb3
  go_wp2_with fail
  rw [← HW4.out]
  refine (CC.out w4 HB4.out).mono ?_
  rintro e w5 ⟨sa5, sc5, rfl, hsc5, hr5, hb5⟩
  have h5z := hb5.size
  have HB5 := Lib.hid (HB4.out.trans (below_le' hb5 HB4.out.size))
  have hV5 := HV4.out.below hb5 (by omega)
  have HR5 := Lib.hid (HR4.out.below hb5 (by omega))
  have z0 := hV5.c0; have z1 := hV5.c1; have z2 := hV5.c2; have z3 := hV5.c3; have f0 := hV5.fr 0; have f1 := hV5.fr 1; have f2 := hV5.fr 2; have f3 := hV5.fr 3
  obtain ⟨w6, hw6⟩ : ∃ w6, w6 = (((w5.setCell ⟨w3.heap.size, 0, none⟩ (.int .i64 k)).setCell ⟨w3.heap.size, 1, none⟩ (.int .i64 n)).setCell ⟨w3.heap.size, 2, none⟩ (.string s)).setCell ⟨w3.heap.size, 3, none⟩ (.slice sa5 sub.len sc5) := ⟨_, rfl⟩
  have h6z : w6.heap.size = w5.heap.size := by rw [hw6]; exact size_set4 _ _ _ _ _ _
  have hV6 : StB w6 w3.heap.size (.int .i64 k) (.int .i64 n) (.string s) (.slice sa5 sub.len sc5) := by rw [hw6]; exact hV5.set4 _ _ _ _
  have HB6 := Lib.hid (show Below w.heap.size w w6 by rw [hw6]; exact below_set4 HB5.out (by omega) _ _ _ _)
  have HRP6 := Lib.hid (show RpL w6 (fun b => w4.heap.size ≤ b ∧ b < w5.heap.size) sub sa5 by rw [hw6]; exact hr5.keep (fun c hc => heap_set4 _ _ _ _ _ _ _ (by omega)) (fun c hc => hc))
  have HR6 := Lib.hid (show StB w6 w.heap.size (.int .i64 0) (.int .i64 0) (.string ⟨#[]⟩) (.slice none 0 0) by
    rw [hw6]; exact (heap_set4 _ _ _ _ _ _ _ (by omega)).trans HR5.out)
  have HV6 := Lib.hid hV6
  have HW6 := Lib.hid hw6
  have RC := Lib.hid (right0_c k n s sub sa5 sc5 ea w6 (EA.out w6 HB6.out) hs hsl HSF.out hsc5 (HRP6.out.wide (fun b hb => by omega)) H0.out)
  have y0 := hV6.c0; have y1 := hV6.c1; have y2 := hV6.c2; have y3 := hV6.c3
  clear hb5 hV5 HR5 hr5 hw6 hV6 CC
  go_wp2_with fail
  rw [← HW6.out]
  refine RC.out.mono ?_
  rintro e w7 ⟨rfl, hb7⟩
  have h7z := hb7.size
  have HB7 := Lib.hid (HB6.out.trans (below_le' hb7 HB6.out.size))
  have hV7 := HV6.out.below hb7 (by omega)
  have HR7 := Lib.hid (HR6.out.below hb7 (by omega))
  have KC := Lib.hid (clone_c (sub.size + 1) k n s sub sa5 sc5 w7 (by omega) hcost hsc5 ((HRP6.out.below hb7 (fun b hb => by omega)).wide (fun b hb => by omega)))
  have x0 := hV7.c0; have x1 := hV7.c1; have x2 := hV7.c2; have x3 := hV7.c3
  clear hb7 hV7 RC HW6 HRP6 y0 y1 y2 y3 z0 z1 z2 z3 f0 f1 f2 f3 HV6 HR6
  go_wp2_with fail
  refine KC.out.mono ?_
  rintro e w8 ⟨sa8, sc8, rfl, hsc8, hr8, hb8⟩
  have h8z := hb8.size
  have hR8 := HR7.out.below hb8 (by omega)
  have z0 := hR8.c0; have z1 := hR8.c1; have z2 := hR8.c2; have z3 := hR8.c3; have f0 := hR8.fr 0; have f1 := hR8.fr 1; have f2 := hR8.fr 2; have f3 := hR8.fr 3
  have HF := Lib.hid (valC_end (w := w) (k := k) (n := n) (s := s) 0 (Nat.le_refl _) (HB7.out.trans (below_le' hb8 HB7.out.size)) hR8 hsc8 (hr8.wide (fun c hc => ⟨by omega, by omega, hc.2⟩)))
  clear hb8 hR8 hr8 KC x0 x1 x2 x3
  go_wp2_with fail
  refine ret_cell4_tmp Tryz.results14 w.heap.size rfl rfl HF.out.1 ?_
  exact HF.out.2

end Go.Proofs.YtbalpfpcbckghaaGreatDoor
namespace Go.Proofs.YtbalpfpcbckghaaGreatDoor
open Go.RowKit Go.Lib
set_option linter.unusedVariables false

end Go.Proofs.YtbalpfpcbckghaaGreatDoor
namespace Go.Proofs.YtbalpfpcbckghaaGreatDoor
open Go.RowKit Go.Lib
set_option linter.unusedVariables false

end Go.Proofs.YtbalpfpcbckghaaGreatDoor
namespace Go.Proofs.YtbalpfpcbckghaaGreatDoor
open Go.RowKit Go.Lib
set_option linter.unusedVariables false

end Go.Proofs.YtbalpfpcbckghaaGreatDoor
namespace Go.Proofs.YtbalpfpcbckghaaGreatDoor
open Go.RowKit Go.Lib
set_option linter.unusedVariables false

set_option maxRecDepth 100000 in
set_option maxHeartbeats 1000000 in
theorem flist_c (l : VL) (A : Option Addr) (c : Nat) (code : Int) (w : World) (hc : l.len ≤ c) : Calls Tryz.prog 63 #[.slice A l.len c, .int .i64 code] w fun e w' => e = .returned (.tuple #[.agg #[.int .i64 4, .int .i64 0, .string ⟨#[]⟩, .slice A l.len c], .int .i64 code]) ∧ Below w.heap.size w w' := by
  have HF := Lib.hid (StB.new w (.int .i64 4) (.int .i64 0) (.string ⟨#[]⟩) (.slice A l.len c))
  go_enter Tryz.func63, Tryz.ntmps63
  go_wp2_with fail
  refine ret_cell4_tmp Tryz.results63 w.heap.size rfl rfl HF.out ?_
  exact ⟨rfl, (Below.refl _ _).alloc (Nat.le_refl _) _⟩
end Go.Proofs.YtbalpfpcbckghaaGreatDoor
namespace Go.Proofs.YtbalpfpcbckghaaGreatDoor
open Go.RowKit Go.Lib
set_option linter.unusedVariables false

end Go.Proofs.YtbalpfpcbckghaaGreatDoor
namespace Go.Proofs.YtbalpfpcbckghaaGreatDoor
open Go.RowKit Go.Lib
set_option linter.unusedVariables false

end Go.Proofs.YtbalpfpcbckghaaGreatDoor
namespace Go.Proofs.YtbalpfpcbckghaaGreatDoor
open Go.RowKit Go.Lib
set_option linter.unusedVariables false

end Go.Proofs.YtbalpfpcbckghaaGreatDoor
namespace Go.Proofs.YtbalpfpcbckghaaGreatDoor
open Go.RowKit Go.Lib
set_option linter.unusedVariables false

/-- The errors of too much and of too deep lie in memory. -/
structure MdAt (w : World) (ea : Nat → Addr) : Prop where
  many : ∃ c t, w.heap[(ea 104).block]? = some (.cells c t (0, 0))
  deep : ∃ c t, w.heap[(ea 112).block]? = some (.cells c t (0, 0))
theorem MdAt.below {w w' : World} {ea : Nat → Addr} (h : MdAt w ea) (hb : Below w.heap.size w w') : MdAt w' ea := by
  obtain ⟨c, t, h1⟩ := h.many
  obtain ⟨c', t', h2⟩ := h.deep
  exact ⟨⟨c, t, (hb.block _ (Array.getElem?_eq_some_iff.1 h1).1).trans h1⟩, ⟨c', t', (hb.block _ (Array.getElem?_eq_some_iff.1 h2).1).trans h2⟩⟩

end Go.Proofs.YtbalpfpcbckghaaGreatDoor
namespace Go.Proofs.YtbalpfpcbckghaaGreatDoor
open Go.RowKit Go.Lib
set_option linter.unusedVariables false

theorem fits_of {nm : List UInt8} {a : List UInt8} {l : VL} {x y : Int} (h : argsP nm = (a, true)) (ha : arityP nm = (x, y)) (h1 : ¬ (l.len : Int) < x) (h2 : ¬ (0 ≤ y ∧ y < (l.len : Int))) : fitsP nm l = kindsP (lettersP a) 0 l := by
  unfold fitsP
  rw [h, ha]
  simp only [if_true]
  rw [if_neg h1, if_neg h2]
end Go.Proofs.YtbalpfpcbckghaaGreatDoor
namespace Go.Proofs.YtbalpfpcbckghaaGreatDoor
open Go.RowKit Go.Lib
set_option linter.unusedVariables false

theorem num_walk (n : Int) : (walk1 0 n ⟨#[]⟩ .nil 1 4096).1 = 0 := by
  unfold walk1
  rw [if_neg (by decide), show mOf 0 ⟨#[]⟩ = 0 from rfl, if_neg (by decide), if_pos]
  · rfl
  · unfold ownE
    rw [if_neg (by decide), if_neg (by rintro ⟨h, _⟩; cases h), if_neg (by rintro ⟨h, _⟩; cases h), if_neg, if_neg (by decide)]
    rintro (⟨_, h⟩ | ⟨_, h⟩ | ⟨h | h, _⟩)
    · exact h rfl
    · exact absurd h (Nat.lt_irrefl _)
    · cases h
    · cases h
end Go.Proofs.YtbalpfpcbckghaaGreatDoor
namespace Go.Proofs.YtbalpfpcbckghaaGreatDoor
open Go.RowKit Go.Lib
set_option linter.unusedVariables false

def idxL : List UInt8 := [105, 110, 100, 101, 120]
theorem idx_args : argsP idxL = ([115, 115], true) := by decide +kernel
theorem idx_arity : arityP idxL = (2, 2) := by decide +kernel
theorem idx_letters : lettersP [115, 115] = [115, 115] := by decide +kernel
theorem idx_pure : pureP idxL = true := by decide +kernel
theorem idx_fits (n1 n2 : Int) (s t : ByteArray) (v1 v2 : VL) : fitsP idxL (.cons 2 n1 s v1 (.cons 2 n2 t v2 .nil)) = 0 := by
  unfold fitsP
  rw [idx_args, idx_arity]
  simp only [if_true, idx_letters]
  rw [if_neg (by show ¬ ((2 : Nat) : Int) < 2; decide), if_neg (by show ¬ (0 ≤ (2 : Int) ∧ (2 : Int) < ((2 : Nat) : Int)); decide)]
  rfl
theorem idx_abc : Lib.index [97, 98, 99] [99] = 2 := by decide +kernel

set_option maxRecDepth 100000 in
set_option maxHeartbeats 4000000 in
theorem funfirst_c (ea : Nat → Addr) (w : World) (he : FnEnv w) (hea : ErrsAt w ea) : Calls Tryz.prog 7 #[] w fun e w' => e = .returned (.bool true) ∧ Below w.heap.size w w' := by
  have hroom := he.room
  obtain ⟨s, hs⟩ : ∃ s : ByteArray, s = ⟨#[97, 98, 99]⟩ := ⟨_, rfl⟩
  obtain ⟨t, ht⟩ : ∃ t : ByteArray, t = ⟨#[99]⟩ := ⟨_, rfl⟩
  obtain ⟨nm, hnm⟩ : ∃ nm : ByteArray, nm = ⟨#[105, 110, 100, 101, 120]⟩ := ⟨_, rfl⟩
  have SC1 := Lib.hid (fun W => valS_c s W)
  have SC2 := Lib.hid (fun W => valS_c t W)
  have CC : Hid (∀ W, Below w.heap.size w W → ∀ g, g < W.heap.size → W.heap[g]? = some (.cells #[.int .i64 2, .int .i64 0, .string s, .slice none 0 0, .int .i64 2, .int .i64 0, .string t, .slice none 0 0] 24) →
      Calls Tryz.prog 14 #[.string nm, .slice (some ⟨g, 0, none⟩) 2 2] W (PValC W 0 3 ⟨#[]⟩ .nil 0)) := Lib.hid (fun W hW g hg hh => by
    have hrep : RpL W (fun b => b < W.heap.size) (.cons 2 0 s .nil (.cons 2 0 t .nil .nil)) (some ⟨g, 0, none⟩) :=
      ⟨g, 0, none, 0, rfl, hg, cell_of_row _ _ 0 _ _ _ hh, cell_of_row _ _ 1 _ _ _ hh, cell_of_row _ _ 2 _ _ _ hh, cell_of_row _ _ 3 _ _ _ hh, Nat.le_refl _, trivial,
        g, 4, none, 0, rfl, hg, cell_of_row _ _ 4 _ _ _ hh, cell_of_row _ _ 5 _ _ _ hh, cell_of_row _ _ 6 _ _ _ hh, cell_of_row _ _ 7 _ _ _ hh, Nat.le_refl _, trivial, trivial⟩
    have hnl : nm.data.toList = idxL := by rw [hnm]; rfl
    have h3 : Lib.index s.data.toList t.data.toList + 1 = 3 := by rw [hs, ht]; show Lib.index [97, 98, 99] [99] + 1 = 3; rw [idx_abc]; rfl
    refine Call_good nm (.cons 2 0 s .nil (.cons 2 0 t .nil .nil)) (some ⟨g, 0, none⟩) 2 0 3 ⟨#[]⟩ .nil ea W (he.below hW (by omega)) (hea.below hW (by omega)) (Nat.le_refl _) (by show 2 ≤ 100000; decide) hrep (by rw [hnl]; exact idx_pure) (by rw [hnl]; exact idx_fits _ _ _ _ _ _) (by decide) (by decide) trivial (by decide) (by decide +kernel) (fun W2 hW2 hr2 => ?_)
    have := call_index s t 0 0 .nil .nil .nil (some ⟨g, 0, none⟩) 2 W2 (by rw [hs]; decide) ((he.below hW (by omega)).below hW2 (by have := hW.size; omega)).mx (by have := hW.size; have := hW2.size; omega) (Nat.le_refl _) (by decide) hr2 nm hnl
    rw [h3] at this
    exact this)
  have h1 : (nm.size : Int) = 5 := by rw [hnm]; rfl
  clear he hea
  go_enter Tryz.func7, Tryz.ntmps7
  go_wp2_with fail
  rw [← hs]
  refine (SC1.out _).mono ?_
  rintro e w1 ⟨rfl, hw1⟩
  have hb1 : Below w.heap.size w w1 := by rw [← hw1]; exact (Below.refl _ _).alloc (Nat.le_refl _) _
  have HB1 := Lib.hid hb1
  clear hw1 hb1
  go_wp2_with fail
  rw [← ht]
  refine (SC2.out _).mono ?_
  rintro e w2 ⟨rfl, hw2⟩
  have hb2 : Below w.heap.size w w2 := by rw [← hw2]; exact HB1.out.alloc HB1.out.size _
  obtain ⟨w3, hw3⟩ : ∃ w3, w3 = w2.alloc (.cells #[.int .i64 2, .int .i64 0, .string ⟨#[97, 98, 99]⟩, .slice none 0 0, .int .i64 2, .int .i64 0, .string ⟨#[99]⟩, .slice none 0 0] 24) := ⟨_, rfl⟩
  have hb3 : Below w.heap.size w w3 := by rw [hw3]; exact hb2.alloc hb2.size _
  have C3 := Lib.hid (CC.out w3 hb3 w2.heap.size (by rw [hw3]; simp) (by rw [hw3, hs, ht]; exact heap_alloc_new w2 _))
  have HB3 := Lib.hid hb3
  have HW3 := Lib.hid hw3
  clear hw2 hb2 hw3 hb3 CC
  go_wp2_with fail
  rw [← hnm, ← HW3.out]
  refine C3.out.mono ?_
  rintro e w4 ⟨sa, sc, rfl, hsc, hr4, hb4⟩
  have HB4 := Lib.hid (HB3.out.trans (below_le' hb4 HB3.out.size))
  clear hb4 hr4 hsc
  go_wp2_with fail
  go_ret
  exact ⟨rfl, HB4.out.alloc HB4.out.size _⟩

end Go.Proofs.YtbalpfpcbckghaaGreatDoor
