/- Contracts of the functions that the statement reaches, and the plain mathematics beneath: several texts joined. -/
import Derived.Lib.IndexBytes
import Derived.StillTailTactics
import Derived.Test.YtbalpfpcbckghaaGreatDoorFtxAH
import Derived.Test.YtbalpfpcbckghaaGreatDoorFtxAD
import Derived.Test.YtbalpfpcbckghaaGreatDoorFtxAA
import Derived.Test.YtbalpfpcbckghaaGreatDoorFtxAI
import Derived.Test.YtbalpfpcbckghaaGreatDoorFtxAF
namespace Go.Proofs.YtbalpfpcbckghaaGreatDoor
open Go.RowKit Go.Lib
set_option linter.unusedVariables false

/-- A value of the call's own, and a code. -/
def PValC (w : World) (k n : Int) (s : ByteArray) (sub : VL) (code : Int) (e : Ending) (w' : World) : Prop :=
  ∃ (sa : Option Addr) (sc : Nat), e = .returned (.tuple #[.agg #[.int .i64 k, .int .i64 n, .string s, .slice sa sub.len sc], .int .i64 code]) ∧ sub.len ≤ sc ∧ RpL w' (fun b => w.heap.size ≤ b ∧ b < w'.heap.size) sub sa ∧ Below w.heap.size w w'
theorem nmT {nm : ByteArray} {l : List UInt8} (h : nm.data.toList = l) : (nm.toList == l) = true := by rw [Lib.toList_data, h, beq_iff_eq]
theorem nmF {nm : ByteArray} {l : List UInt8} (h : nm.data.toList = l) (m : List UInt8) (hm : l ≠ m) : (nm.toList == m) = false := by rw [Lib.toList_data, h, beq_eq_false_iff_ne]; exact hm

set_option maxRecDepth 100000 in
set_option maxHeartbeats 2000000 in
theorem right0_c (k n : Int) (s : ByteArray) (sub : VL) (sa : Option Addr) (sc : Nat) (ea : Nat → Addr) (w : World) (he : ErrsAt w ea) (hs : s.size ≤ 140737488351232) (hl : sub.len ≤ 140737488351232) (hf : sub.fit) (hsc : sub.len ≤ sc)
    (hr : RpL w (fun b => b < w.heap.size) sub sa) (h0 : (walk1 k n s sub 1 4096).1 = 0) :
    Calls Tryz.prog 35 #[.agg #[.int .i64 k, .int .i64 n, .string s, .slice sa sub.len sc]] w fun e w' => e = .returned (.int .i64 0) ∧ Below w.heap.size w w' := by
  obtain ⟨wa, hwa⟩ : ∃ wa, wa = w.alloc (.cells #[.int .i64 k, .int .i64 n, .string s, .slice sa sub.len sc] 24) := ⟨_, rfl⟩
  have hb : Below w.heap.size w wa := by rw [hwa]; exact (Below.refl _ _).alloc (Nat.le_refl _) _
  have hV : StB wa w.heap.size (.int .i64 k) (.int .i64 n) (.string s) (.slice sa sub.len sc) := by rw [hwa]; exact StB.new w _ _ _ _
  have v0 := hV.c0; have v1 := hV.c1; have v2 := hV.c2; have v3 := hV.c3
  have hroom := he.room
  have VC := Lib.hid (valid_c k n s sub sa sc ea wa (he.below hb (by omega)) hs hl hf hsc (hr.keep (fun b hlt => hb.block b hlt) (fun b hlt => Nat.lt_of_lt_of_le hlt hb.size)))
  rw [h0, show errV ea 0 = .nilIface from rfl] at VC
  have HB := Lib.hid hb
  rw [hwa] at v0 v1 v2 v3
  have HWA := Lib.hid hwa
  clear hb hwa hV he hr h0 hf
  go_enter Tryz.func35, Tryz.ntmps35
  go_wp2_with fail
  rw [← HWA.out]
  refine VC.out.mono ?_
  rintro e w2 ⟨rfl, hb2⟩
  have HB2 := Lib.hid (HB.out.trans (below_le' hb2 HB.out.size))
  clear hb2 v0 v1 v2 v3
  go_wp2_with fail
  go_ret
  exact ⟨rfl, HB2.out⟩

set_option maxHeartbeats 1000000 in
theorem strIndex_c (s t : ByteArray) (w : World) (hs : s.size < 4294967281) (hm : MaxAt w) :
    Calls Tryz.prog 95 #[.string s, .string t] w fun e w' => e = .returned (.int .i64 (Lib.index s.data.toList t.data.toList + 1)) ∧ w = w' := by
  obtain ⟨m, hm⟩ := hm
  have IC := Lib.hid (Tryz.strings_Index s t m w hs hm)
  have hb := And.intro (Lib.index_ge s.data.toList t.data.toList) (Lib.index_le s.data.toList t.data.toList)
  obtain ⟨i, hi⟩ : ∃ i, i = Lib.index s.data.toList t.data.toList := ⟨_, rfl⟩
  rw [← hi] at IC hb ⊢
  have hz : s.data.toList.length = s.size := by rw [Array.length_toList]; rfl
  rw [hz] at hb
  clear hi hm hz
  have h0 : -1 ≤ i := hb.1
  have h1 : i ≤ (s.size : Int) := hb.2
  clear hb
  go_enter Tryz.func95, Tryz.ntmps95
  go_wp2_with fail
  refine IC.out.mono ?_
  rintro e w2 ⟨rfl, hw⟩
  subst hw
  go_wp2_with fail
  go_ret
  exact ⟨by go_num, rfl⟩


set_option maxRecDepth 100000 in
set_option maxHeartbeats 4000000 in
theorem texts_index (s t : ByteArray) (n1 n2 : Int) (v1 v2 r : VL) (A : Option Addr) (c : Nat) (w : World) (hs : s.size < 4294967281) (hm : MaxAt w) (hroom : 14 < w.heap.size) (hc : r.len + 2 ≤ c) (hlen : r.len ≤ 100000)
    (hrep : RpL w (fun b => b < w.heap.size) (.cons 2 n1 s v1 (.cons 2 n2 t v2 r)) A) (nm : ByteArray) (hnm : nm.data.toList = [105, 110, 100, 101, 120]) :
    Calls Tryz.prog 65 #[.string nm, .slice A (r.len + 2) c] w (PValC w 0 (Lib.index s.data.toList t.data.toList + 1) ⟨#[]⟩ .nil 0) := by
  obtain ⟨b, o, sa, sc, rfl, hbS, c0, c1, c2, c3, hcl, hrs, hr2⟩ := hrep
  obtain ⟨b', o', sa', sc', hA', hbS', d0, d1, d2, d3, hcl', hrs', hr3⟩ := hr2
  injection hA' with hA'
  injection hA' with e1 e2
  subst e1; subst e2
  obtain ⟨wa, hwa⟩ : ∃ wa, wa = w.alloc (.cells #[.int .i64 0, .int .i64 0, .string ⟨#[]⟩, .slice none 0 0] 24) := ⟨_, rfl⟩
  have hb : Below w.heap.size w wa := by rw [hwa]; exact (Below.refl _ _).alloc (Nat.le_refl _) _
  have hza : wa.heap.size = w.heap.size + 1 := by rw [hwa]; simp
  have hR : StB wa w.heap.size (.int .i64 0) (.int .i64 0) (.string ⟨#[]⟩) (.slice none 0 0) := by rw [hwa]; exact StB.new w _ _ _ _
  have x2 := (hb.cell (p := ⟨b, o + 2, none⟩) hbS).trans c2
  have y2 := (hb.cell (p := ⟨b, o + 4 + 2, none⟩) hbS).trans d2
  have x2' := x2
  have y2' := y2
  rw [hwa] at x2 y2
  have SC := Lib.hid (strIndex_c s t wa hs (hm.below hb (by omega)))
  obtain ⟨ix, hix⟩ : ∃ ix, ix = Lib.index s.data.toList t.data.toList + 1 := ⟨_, rfl⟩
  rw [← hix] at SC ⊢
  have IC := Lib.hid (valI_c ix wa)
  obtain ⟨wi, hwi⟩ : ∃ wi, wi = wa.alloc (.cells #[.int .i64 0, .int .i64 ix, .string ⟨#[]⟩, .slice none 0 0] 24) := ⟨_, rfl⟩
  have hbi : Below wa.heap.size wa wi := by rw [hwi]; exact (Below.refl _ _).alloc (Nat.le_refl _) _
  have hRi : StB wi w.heap.size (.int .i64 0) (.int .i64 0) (.string ⟨#[]⟩) (.slice none 0 0) := hR.below hbi (by omega)
  have z0 := hRi.c0; have z1 := hRi.c1; have z2 := hRi.c2; have z3 := hRi.c3; have f0 := hRi.fr 0; have f1 := hRi.fr 1; have f2 := hRi.fr 2; have f3 := hRi.fr 3
  have HF := Lib.hid (show StB ((((wi.setCell ⟨w.heap.size, 0, none⟩ (.int .i64 0)).setCell ⟨w.heap.size, 1, none⟩ (.int .i64 ix)).setCell ⟨w.heap.size, 2, none⟩ (.string ⟨#[]⟩)).setCell ⟨w.heap.size, 3, none⟩ (.slice none 0 0)) w.heap.size (.int .i64 0) (.int .i64 ix) (.string ⟨#[]⟩) (.slice none 0 0) from hRi.set4 _ _ _ _)
  have HB := Lib.hid (show Below w.heap.size w ((((wi.setCell ⟨w.heap.size, 0, none⟩ (.int .i64 0)).setCell ⟨w.heap.size, 1, none⟩ (.int .i64 ix)).setCell ⟨w.heap.size, 2, none⟩ (.string ⟨#[]⟩)).setCell ⟨w.heap.size, 3, none⟩ (.slice none 0 0)) from below_set4 (hb.trans (below_le' hbi hb.size)) (Nat.le_refl _) _ _ _ _)
  have HWA := Lib.hid hwa
  have HWI := Lib.hid hwi
  rw [← hwi] at IC
  have qindex := nmT hnm
  have k1 : 1 < r.len + 2 := by omega
  have k2 : ((1 : Int) < ((r.len + 2 : Nat) : Int)) := by omega
  clear c0 c1 c2 c3 d0 d1 d2 d3 hrs hr3 hrs' hb hR hwa hwi hbi hRi hm hix hnm
  go_enter Tryz.func65, Tryz.ntmps65
  go_wp2_with fail
  rw [← HWA.out]
  refine SC.out.mono ?_
  rintro e w2 ⟨rfl, rfl⟩
  go_wp2_with fail
  refine IC.out.mono ?_
  rintro e w3 ⟨rfl, hw3⟩
  subst hw3
  go_wp2_with fail
  refine ret_cell4_tmp Tryz.results65 w.heap.size rfl rfl HF.out ?_
  exact ⟨none, 0, rfl, Nat.le_refl _, trivial, HB.out⟩
end Go.Proofs.YtbalpfpcbckghaaGreatDoor
namespace Go.Proofs.YtbalpfpcbckghaaGreatDoor
open Go.RowKit Go.Lib
set_option linter.unusedVariables false

theorem valC_end {w wr : World} {g : Nat} {k n : Int} {s : ByteArray} {sub : VL} {sb : Option Addr} {cb : Nat} (code : Int) (hg : w.heap.size ≤ g) (hb : Below w.heap.size w wr) {a0 a1 a2 a3 : Value} (hr : StB wr g a0 a1 a2 a3)
    (hcb : sub.len ≤ cb) (hrb : RpL wr (fun b => w.heap.size ≤ b ∧ b ≠ g ∧ b < wr.heap.size) sub sb) :
    StB ((((wr.setCell ⟨g, 0, none⟩ (.int .i64 k)).setCell ⟨g, 1, none⟩ (.int .i64 n)).setCell ⟨g, 2, none⟩ (.string s)).setCell ⟨g, 3, none⟩ (.slice sb sub.len cb)) g (.int .i64 k) (.int .i64 n) (.string s) (.slice sb sub.len cb) ∧
    PValC w k n s sub code (.returned (.tuple #[.agg #[.int .i64 k, .int .i64 n, .string s, .slice sb sub.len cb], .int .i64 code])) ((((wr.setCell ⟨g, 0, none⟩ (.int .i64 k)).setCell ⟨g, 1, none⟩ (.int .i64 n)).setCell ⟨g, 2, none⟩ (.string s)).setCell ⟨g, 3, none⟩ (.slice sb sub.len cb)) :=
  ⟨hr.set4 _ _ _ _, sb, cb, rfl, hcb, hrb.keep (fun c hc => heap_set4 _ _ _ _ _ _ _ hc.2.1) (fun c hc => ⟨hc.1, by rw [size_set4]; exact hc.2.2⟩), below_set4 hb hg _ _ _ _⟩

set_option maxRecDepth 100000 in
set_option maxHeartbeats 4000000 in
theorem call_index (s t : ByteArray) (n1 n2 : Int) (v1 v2 r : VL) (A : Option Addr) (c : Nat) (w : World) (hs : s.size < 4294967281) (hm : MaxAt w) (hroom : 14 < w.heap.size) (hc : r.len + 2 ≤ c) (hlen : r.len ≤ 100000)
    (hrep : RpL w (fun b => b < w.heap.size) (.cons 2 n1 s v1 (.cons 2 n2 t v2 r)) A) (nm : ByteArray) (hnm : nm.data.toList = [105, 110, 100, 101, 120]) :
    Calls Tryz.prog 34 #[.string nm, .slice A (r.len + 2) c] w (PValC w 0 (Lib.index s.data.toList t.data.toList + 1) ⟨#[]⟩ .nil 0) := by
  obtain ⟨b, o, sa, sc, rfl, hbS, c0, -, -, -, -, -, -⟩ := id hrep
  obtain ⟨wa, hwa⟩ : ∃ wa, wa = w.alloc (.cells #[.int .i64 0, .int .i64 0, .string ⟨#[]⟩, .slice none 0 0] 24) := ⟨_, rfl⟩
  have hb : Below w.heap.size w wa := by rw [hwa]; exact (Below.refl _ _).alloc (Nat.le_refl _) _
  have hza : wa.heap.size = w.heap.size + 1 := by rw [hwa]; simp
  have hR : StB wa w.heap.size (.int .i64 0) (.int .i64 0) (.string ⟨#[]⟩) (.slice none 0 0) := by rw [hwa]; exact StB.new w _ _ _ _
  have x0 := (hb.cell (p := ⟨b, o, none⟩) hbS).trans c0
  rw [hwa] at x0
  have TC := Lib.hid (texts_index s t n1 n2 v1 v2 r (some ⟨b, o, none⟩) c wa hs (hm.below hb (by omega)) (by omega) hc hlen (hrep.keep (fun b hlt => hb.block b hlt) (fun b hlt => Nat.lt_of_lt_of_le hlt hb.size)) nm hnm)
  obtain ⟨ix, hix⟩ : ∃ ix, ix = Lib.index s.data.toList t.data.toList + 1 := ⟨_, rfl⟩
  rw [← hix] at TC ⊢
  have HB := Lib.hid hb
  have HR := Lib.hid hR
  have HWA := Lib.hid hwa
  have k1 : 0 < r.len + 2 := by omega
  have k2 : ((0 : Int) < ((r.len + 2 : Nat) : Int)) := by omega
  have qtypeof := nmF hnm [116, 121, 112, 101, 111, 102] (by decide)
  have qlength := nmF hnm [108, 101, 110, 103, 116, 104] (by decide)
  have qtostr := nmF hnm [116, 111, 115, 116, 114] (by decide)
  have qtoliteral := nmF hnm [116, 111, 108, 105, 116, 101, 114, 97, 108] (by decide)
  have qtoint := nmF hnm [116, 111, 105, 110, 116] (by decide)
  have qtoobj := nmF hnm [116, 111, 111, 98, 106] (by decide)
  have qequal := nmF hnm [101, 113, 117, 97, 108] (by decide)
  have qsize := nmF hnm [115, 105, 122, 101] (by decide)
  have qabs := nmF hnm [97, 98, 115] (by decide)
  have qmin := nmF hnm [109, 105, 110] (by decide)
  have qmax := nmF hnm [109, 97, 120] (by decide)
  have qwords := nmF hnm [119, 111, 114, 100, 115] (by decide)
  have qjoin := nmF hnm [106, 111, 105, 110] (by decide)
  clear hb hR hwa hm hix hnm hrep c0
  go_enter Tryz.func34, Tryz.ntmps34
  go_wp2_with fail
  rw [← HWA.out]
  refine TC.out.mono ?_
  rintro e w2 ⟨sa2, sc2, rfl, hsc2, hr2, hb2⟩
  have hr5 := HR.out.below hb2 (by omega)
  have z0 := hr5.c0; have z1 := hr5.c1; have z2 := hr5.c2; have z3 := hr5.c3; have f0 := hr5.fr 0; have f1 := hr5.fr 1; have f2 := hr5.fr 2; have f3 := hr5.fr 3
  have HF := Lib.hid (valC_end (w := w) (k := 0) (n := ix) (s := ⟨#[]⟩) 0 (Nat.le_refl _) (HB.out.trans (below_le' hb2 HB.out.size)) hr5 hsc2 (hr2.wide (fun c hc => ⟨by omega, by omega, hc.2⟩)))
  clear hr5 hb2 hr2
  go_wp2_with fail
  refine ret_cell4_tmp Tryz.results34 w.heap.size rfl rfl HF.out.1 ?_
  exact HF.out.2

set_option maxRecDepth 100000 in
set_option maxHeartbeats 4000000 in
/-- Over what fun.call gives: a right value. -/
theorem Call_good (nm : ByteArray) (l : VL) (A : Option Addr) (c : Nat) (k n : Int) (s : ByteArray) (sub : VL) (ea : Nat → Addr) (w : World) (he : FnEnv w) (hea : ErrsAt w ea) (hc : l.len ≤ c) (hlen : l.len ≤ 100000) (hrep : RpL w (fun b => b < w.heap.size) l A)
    (hp : pureP nm.data.toList = true) (hf : fitsP nm.data.toList l = 0) (hs : s.size ≤ 140737488351232) (hsl : sub.len ≤ 140737488351232) (hsf : sub.fit) (hcost : cost sub ≤ 100000) (h0 : (walk1 k n s sub 1 4096).1 = 0)
    (hcall : ∀ W, Below w.heap.size w W → RpL W (fun b => b < W.heap.size) l A → Calls Tryz.prog 34 #[.string nm, .slice A l.len c] W (PValC W k n s sub 0)) :
    Calls Tryz.prog 14 #[.string nm, .slice A l.len c] w (PValC w k n s sub 0) := by
  have hroom := he.room
  obtain ⟨wa, hwa⟩ : ∃ wa, wa = w.alloc (.cells #[.int .i64 0, .int .i64 0, .string ⟨#[]⟩, .slice none 0 0] 24) := ⟨_, rfl⟩
  have hb : Below w.heap.size w wa := by rw [hwa]; exact (Below.refl _ _).alloc (Nat.le_refl _) _
  have hza : wa.heap.size = w.heap.size + 1 := by rw [hwa]; simp
  have hR : StB wa w.heap.size (.int .i64 0) (.int .i64 0) (.string ⟨#[]⟩) (.slice none 0 0) := by rw [hwa]; exact StB.new w _ _ _ _
  have PC := Lib.hid (pure_c nm wa (he.below hb (by omega)))
  rw [hp] at PC
  have RP := Lib.hid (fun W (hW : Below w.heap.size w W) => hrep.keep (w' := W) (S' := fun b => b < W.heap.size) (fun b hlt => hW.block b hlt) (fun b hlt => Nat.lt_of_lt_of_le hlt hW.size))
  have FC := Lib.hid (fun W (hW : Below w.heap.size w W) => ffits_c nm l A c W (he.below hW (by omega)) hc hlen (RP.out W hW))
  rw [hf] at FC
  have EA := Lib.hid (fun W (hW : Below w.heap.size w W) => hea.below hW (by omega))
  have CC := Lib.hid (fun W (hW : Below w.heap.size w W) => hcall W hW (RP.out W hW))
  have HSF := Lib.hid hsf
  have H0 := Lib.hid h0
  have HB := Lib.hid hb
  have HR := Lib.hid hR
  have HWA := Lib.hid hwa
  clear hb hR hwa he hea hcall hrep hp hf hsf h0
  go_enter Tryz.func14, Tryz.ntmps14
  go_wp2_with fail
  rw [← HWA.out]
  refine PC.out.mono ?_
  rintro e w2 ⟨rfl, hb2⟩
  have HB2 := Lib.hid (HB.out.trans (below_le' hb2 HB.out.size))
  have HR2 := Lib.hid (HR.out.below hb2 (by omega))
  have h2z := hb2.size
  clear hb2 PC HWA HR
  go_wp2_with fail
  refine (FC.out w2 HB2.out).mono ?_
  rintro e w3 ⟨rfl, hb3⟩
  have HB3 := Lib.hid (HB2.out.trans (below_le' hb3 HB2.out.size))
  have h3z := hb3.size
  have HR3 := Lib.hid (HR2.out.below hb3 (by omega))
  clear FC HR2
  obtain ⟨w4, hw4⟩ : ∃ w4, w4 = w3.alloc (.cells #[.int .i64 0, .int .i64 0, .string ⟨#[]⟩, .slice none 0 0] 24) := ⟨_, rfl⟩
  have hb4 : Below w3.heap.size w3 w4 := by rw [hw4]; exact (Below.refl _ _).alloc (Nat.le_refl _) _
  have h4z : w4.heap.size = w3.heap.size + 1 := by rw [hw4]; simp
  have HB4 := Lib.hid (HB3.out.trans (below_le' hb4 HB3.out.size))
  have hV4 : StB w4 w3.heap.size (.int .i64 0) (.int .i64 0) (.string ⟨#[]⟩) (.slice none 0 0) := by rw [hw4]; exact StB.new w3 _ _ _ _
  have HR4 := Lib.hid (HR3.out.below hb4 (by omega))
  have HV4 := Lib.hid hV4
  have HW4 := Lib.hid hw4
  clear hb4 hV4 hw4 HR3 hb3
  go_wp2_with fail
  rw [← HW4.out]
  refine (CC.out w4 HB4.out).mono ?_
  rintro e w5 ⟨sa5, sc5, rfl, hsc5, hr5, hb5⟩
  have h5z := hb5.size
  have HB5 := Lib.hid (HB4.out.trans (below_le' hb5 HB4.out.size))
  have hV5 := HV4.out.below hb5 (by omega)
  have HR5 := Lib.hid (HR4.out.below hb5 (by omega))
  have z0 := hV5.c0; have z1 := hV5.c1; have z2 := hV5.c2; have z3 := hV5.c3; have f0 := hV5.fr 0; have f1 := hV5.fr 1; have f2 := hV5.fr 2; have f3 := hV5.fr 3
  obtain ⟨w6, hw6⟩ : ∃ w6, w6 = (((w5.setCell ⟨w3.heap.size, 0, none⟩ (.int .i64 k)).setCell ⟨w3.heap.size, 1, none⟩ (.int .i64 n)).setCell ⟨w3.heap.size, 2, none⟩ (.string s)).setCell ⟨w3.heap.size, 3, none⟩ (.slice sa5 sub.len sc5) := ⟨_, rfl⟩
  have h6z : w6.heap.size = w5.heap.size := by rw [hw6]; exact size_set4 _ _ _ _ _ _
  have hV6 : StB w6 w3.heap.size (.int .i64 k) (.int .i64 n) (.string s) (.slice sa5 sub.len sc5) := by rw [hw6]; exact hV5.set4 _ _ _ _
  have HB6 := Lib.hid (show Below w.heap.size w w6 by rw [hw6]; exact below_set4 HB5.out (by omega) _ _ _ _)
  have HRP6 := Lib.hid (show RpL w6 (fun b => w4.heap.size ≤ b ∧ b < w5.heap.size) sub sa5 by rw [hw6]; exact hr5.keep (fun c hc => heap_set4 _ _ _ _ _ _ _ (by omega)) (fun c hc => hc))
  have HR6 := Lib.hid (show StB w6 w.heap.size (.int .i64 0) (.int .i64 0) (.string ⟨#[]⟩) (.slice none 0 0) by
    rw [hw6]; exact (heap_set4 _ _ _ _ _ _ _ (by omega)).trans HR5.out)
  have HV6 := Lib.hid hV6
  have HW6 := Lib.hid hw6
  have RC := Lib.hid (right0_c k n s sub sa5 sc5 ea w6 (EA.out w6 HB6.out) hs hsl HSF.out hsc5 (HRP6.out.wide (fun b hb => by omega)) H0.out)
  have y0 := hV6.c0; have y1 := hV6.c1; have y2 := hV6.c2; have y3 := hV6.c3
  clear hb5 hV5 HR5 hr5 hw6 hV6 CC
  go_wp2_with fail
  rw [← HW6.out]
  refine RC.out.mono ?_
  rintro e w7 ⟨rfl, hb7⟩
  have h7z := hb7.size
  have HB7 := Lib.hid (HB6.out.trans (below_le' hb7 HB6.out.size))
  have hV7 := HV6.out.below hb7 (by omega)
  have HR7 := Lib.hid (HR6.out.below hb7 (by omega))
  have KC := Lib.hid (clone_c (sub.size + 1) k n s sub sa5 sc5 w7 (by omega) hcost hsc5 ((HRP6.out.below hb7 (fun b hb => by omega)).wide (fun b hb => by omega)))
  have x0 := hV7.c0; have x1 := hV7.c1; have x2 := hV7.c2; have x3 := hV7.c3
  clear hb7 hV7 RC HW6 HRP6 y0 y1 y2 y3 z0 z1 z2 z3 f0 f1 f2 f3 HV6 HR6
  go_wp2_with fail
  refine KC.out.mono ?_
  rintro e w8 ⟨sa8, sc8, rfl, hsc8, hr8, hb8⟩
  have h8z := hb8.size
  have hR8 := HR7.out.below hb8 (by omega)
  have z0 := hR8.c0; have z1 := hR8.c1; have z2 := hR8.c2; have z3 := hR8.c3; have f0 := hR8.fr 0; have f1 := hR8.fr 1; have f2 := hR8.fr 2; have f3 := hR8.fr 3
  have HF := Lib.hid (valC_end (w := w) (k := k) (n := n) (s := s) 0 (Nat.le_refl _) (HB7.out.trans (below_le' hb8 HB7.out.size)) hR8 hsc8 (hr8.wide (fun c hc => ⟨by omega, by omega, hc.2⟩)))
  clear hb8 hR8 hr8 KC x0 x1 x2 x3
  go_wp2_with fail
  refine ret_cell4_tmp Tryz.results14 w.heap.size rfl rfl HF.out.1 ?_
  exact HF.out.2

end Go.Proofs.YtbalpfpcbckghaaGreatDoor
namespace Go.Proofs.YtbalpfpcbckghaaGreatDoor
open Go.RowKit Go.Lib
set_option linter.unusedVariables false

/-- Texts with another one between, while that is less than 4096 bytes. -/
def joinS (sep : List UInt8) : Bool → List (List UInt8) → List UInt8 → Option (List UInt8)
  | _, [], b => some b
  | true, x :: r, b => if 4096 ≤ x.length + b.length then none else joinS sep false r (b ++ x)
  | false, x :: r, b => if 4096 ≤ sep.length + b.length then none else if 4096 ≤ x.length + (b ++ sep).length then none else joinS sep false r ((b ++ sep) ++ x)
/-- What a call answers that may be too much. -/
def TextOut (r : Option (List UInt8)) (w : World) (e : Ending) (w' : World) : Prop :=
  e = .returned (.tuple #[.string (match r with | some b => ⟨b.toArray⟩ | none => ⟨#[]⟩), .int .i64 (match r with | some _ => 0 | none => 14)]) ∧ Below w.heap.size w w'
theorem mkb_size {l : List UInt8} {b : ByteArray} (h : b = ⟨l.toArray⟩) : b.size = l.length := by rw [h]; exact ba_size l

theorem own_slice {W : World} {base e size n : Nat} {V : Value} {xs : List Value} (h : W.ownsRow base e size V n xs) : ∃ (a : Option Addr) (cap : Nat), V = .slice a n cap := by
  rcases h.2 with ⟨rfl, h0⟩ | ⟨g, cap, cur, rfl, _⟩
  · exact ⟨none, 0, by first | rw [h0] | (rw [h0.1]) | (obtain ⟨rfl, _⟩ := h0; rfl)⟩
  · exact ⟨_, _, rfl⟩

set_option maxRecDepth 100000 in
set_option maxHeartbeats 4000000 in
theorem strJoin_c (sep : ByteArray) (A : Option Addr) (c : Nat) (l : List (List UInt8)) (w : World) (h : StrO w A l) (hl : l.length ≤ 100000) (hc : l.length ≤ c) (hs : sep.size ≤ 1000000) (hx : ∀ x ∈ l, x.length ≤ 1000000000) :
    Calls Tryz.prog 55 #[.string sep, .slice A l.length c] w (TextOut (joinS sep.data.toList true l []) w) := by
  obtain ⟨i0, hi0, hz0, hz1, hz2⟩ := info_parts u8_info
  obtain ⟨R, hR⟩ : ∃ R, R = joinS sep.data.toList true l [] := ⟨_, rfl⟩
  rw [← hR]
  have hsl : sep.data.toList.length = sep.size := by rw [Array.length_toList]; rfl

  have HR := Lib.hid hR
  have HH := Lib.hid h
  have HX := Lib.hid hx
  clear hR h hx
  go_enter Tryz.func55, Tryz.ntmps55
  go_wp2_with fail
  go_loopg [6, 11] l.length (fun kk bv iv wr => ∃ (i : Nat) (acc : List UInt8) (ov : Value), ov = bv ∧ iv = .int .i64 (i : Int) ∧ i + kk = l.length ∧ acc.length < 4096 ∧ Hid (JInv w.heap.size w wr ov acc) ∧ Hid (joinS sep.data.toList (i == 0) (l.drop i) acc = R))
  case atStart => exact ⟨0, [], _, rfl, rfl, by omega, by decide, Lib.hid ⟨World.ownsRow_nil _ _ _ _, Below.refl _ _, Nat.le_refl _⟩, Lib.hid HR.out.symm⟩
  case round =>
    obtain ⟨i, acc, ov, rfl, rfl, hk, hacc, HJ, HQ⟩ := hrel
    obtain ⟨va, vc, rfl⟩ := own_slice HJ.out.own
    by_cases hi : i < l.length
    · obtain ⟨kk, rfl⟩ : ∃ kk, gk = kk + 1 := ⟨gk - 1, by omega⟩
      obtain ⟨x, hx⟩ : ∃ x, l[i]? = some x := ⟨_, List.getElem?_eq_getElem hi⟩
      obtain ⟨ga, oa, rfl, hga, hca⟩ : ∃ g o, A = some ⟨g, o, none⟩ ∧ g < w.heap.size ∧ ∀ j x, l[j]? = some x → w.cell? ⟨g, o + j, none⟩ = some (.string ⟨x.toArray⟩) := by
        rcases HH.out with h | h
        · rw [h] at hi; exact absurd hi (Nat.not_lt_zero _)
        · exact h
      have CA := Lib.hid (hca i x hx)
      have ca := (HJ.out.below.cell (p := ⟨ga, oa + i, none⟩) hga).trans (hca i x hx)
      have hxl := HX.out x (List.mem_of_getElem? hx)
      obtain ⟨b, hb⟩ : ∃ b : ByteArray, b = ⟨x.toArray⟩ := ⟨_, rfl⟩
      have hbz := mkb_size hb
      rw [← hb] at ca CA
      have hqq := HQ.out
      rw [show l.drop i = x :: l.drop (i + 1) from by
        rw [List.drop_eq_getElem_cons hi]
        rw [List.getElem?_eq_getElem hi] at hx
        injection hx with hx
        rw [hx]] at hqq
      have hNJ : (i + 1 == 0) = false := by rw [beq_eq_false_iff_ne]; omega
      have HBB := Lib.hid hb
      clear hca hx hb HQ
      by_cases hi0' : i = 0
      · subst hi0'
        rw [show ((0 : Nat) == 0) = true from rfl] at hqq
        rw [Nat.add_zero] at ca
        simp only [joinS] at hqq
        have e1 : decide ((0 : Int) < ((0 : Nat) : Int)) = false := by decide
        by_cases hbig : 4096 ≤ x.length + acc.length
        · rw [if_pos hbig] at hqq
          have HQ := Lib.hid hqq
          have d1 : (4096 : Int) - (acc.length : Int) ≤ (b.size : Int) := by omega
          clear hqq hbig
          go_wp2_with fail
          go_returns
          exact ⟨by rw [← HQ.out]; rfl, HJ.out.below⟩
        · rw [if_neg hbig] at hqq
          have HQ := Lib.hid hqq
          have d1 : ¬ (4096 : Int) - (acc.length : Int) ≤ (b.size : Int) := by omega
          clear hqq
          go_wp2_with (at_builtin; refine wpList_append_own_string _ rfl (.tmp 33) (.tmp 34) 99 9 rfl w.heap.size 5 i0 Tryz.underlying99 Tryz.underlying9 hi0 hz0 hz1 hz2 (.slice va acc.length vc) acc.length (u8s acc) rfl HJ.out.own b rfl ?c1 ?c2 ?c3 ?_
                       case c1 => unfold maxLen; omega
                       case c2 => omega
                       case c3 => exact HJ.out.size
                       intro v3 w3 hown hgrow _
                       have J3 := Lib.hid (HJ.out.app (l := x) (by rw [← HBB.out]; exact hown) hgrow)
                       clear hown hgrow)
          go_roundg kk
          case measure => omega
          case rel => exact ⟨0 + 1, acc ++ x, v3, rfl, by go_num, by omega, by rw [List.length_append]; omega, J3, Lib.hid (by rw [hNJ]; exact HQ.out)⟩
      · have e0 : (i == 0) = false := by rw [beq_eq_false_iff_ne]; exact hi0'
        have e1 : decide ((0 : Int) < (i : Int)) = true := by rw [decide_eq_true_eq]; omega
        have e2 : (0 : Int) < (i : Int) := by omega
        rw [e0] at hqq
        simp only [joinS] at hqq
        by_cases hbig : 4096 ≤ sep.data.toList.length + acc.length
        · rw [if_pos hbig] at hqq
          have HQ := Lib.hid hqq
          have d1 : (4096 : Int) - (acc.length : Int) ≤ (sep.size : Int) := by omega
          clear hqq hbig
          go_wp2_with fail
          go_returns
          exact ⟨by rw [← HQ.out]; rfl, HJ.out.below⟩
        · rw [if_neg hbig] at hqq
          have d1 : ¬ (4096 : Int) - (acc.length : Int) ≤ (sep.size : Int) := by omega
          have hl2 : (acc ++ sep.data.toList).length = acc.length + sep.size := by rw [List.length_append, hsl]
          by_cases hbig2 : 4096 ≤ x.length + (acc ++ sep.data.toList).length
          · rw [if_pos hbig2] at hqq
            have HQ := Lib.hid hqq
            have d2 : (4096 : Int) - ((acc.length + sep.size : Nat) : Int) ≤ (b.size : Int) := by omega
            clear hqq
            go_wp2_with (at_builtin; refine wpList_append_own_string _ rfl (.tmp 24) (.tmp 25) 99 9 rfl w.heap.size 5 i0 Tryz.underlying99 Tryz.underlying9 hi0 hz0 hz1 hz2 (.slice va acc.length vc) acc.length (u8s acc) rfl HJ.out.own sep rfl ?d1 ?d2 ?d3 ?_
                         case d1 => unfold maxLen; omega
                         case d2 => omega
                         case d3 => exact HJ.out.size
                         intro v3 w3 hown hgrow _
                         have J3 := Lib.hid (HJ.out.app (l := sep.data.toList) (by rw [mk_toList]; exact hown) hgrow)
                         obtain ⟨va3, vc3, rfl⟩ := own_slice J3.out.own
                         rw [hl2]
                         clear hown hgrow)
            go_returns
            exact ⟨by rw [← HQ.out]; rfl, J3.out.below⟩
          · rw [if_neg hbig2] at hqq
            have HQ := Lib.hid hqq
            have d2 : ¬ (4096 : Int) - ((acc.length : Int) + (sep.size : Int)) ≤ (x.length : Int) := by omega
            clear hqq
            go_wp2_with (first
              | (at_builtin; refine wpList_append_own_string _ rfl (.tmp 24) (.tmp 25) 99 9 rfl w.heap.size 5 i0 Tryz.underlying99 Tryz.underlying9 hi0 hz0 hz1 hz2 (.slice va acc.length vc) acc.length (u8s acc) rfl HJ.out.own sep rfl ?e1 ?e2 ?e3 ?_
                 case e1 => unfold maxLen; omega
                 case e2 => omega
                 case e3 => exact HJ.out.size
                 intro v3 w3 hown hgrow _
                 have J3 := Lib.hid (HJ.out.app (l := sep.data.toList) (by rw [mk_toList]; exact hown) hgrow)
                 have ca3 := (J3.out.below.cell (p := ⟨ga, oa + i, none⟩) hga).trans CA.out
                 obtain ⟨va3, vc3, rfl⟩ := own_slice J3.out.own
                 have own3 := J3.out.own
                 rw [hl2] at own3
                 rw [hl2]
                 clear hown hgrow)
              | (at_builtin; refine wpList_append_own_string _ rfl (.tmp 33) (.tmp 34) 99 9 rfl w.heap.size 5 i0 Tryz.underlying99 Tryz.underlying9 hi0 hz0 hz1 hz2 (.slice va3 (acc.length + sep.size) vc3) (acc.length + sep.size) (u8s (acc ++ sep.data.toList)) rfl own3 b rfl ?f1 ?f2 ?f3 ?_
                 case f1 => unfold maxLen; omega
                 case f2 => omega
                 case f3 => exact J3.out.size
                 intro v4 w4 hown hgrow _
                 have J4 := Lib.hid (J3.out.app (l := x) (by rw [← HBB.out, hl2]; exact hown) (by rw [hl2]; exact hgrow))
                 clear hown hgrow))
            go_roundg kk
            case measure => omega
            case rel => exact ⟨i + 1, (acc ++ sep.data.toList) ++ x, v4, rfl, by go_num, by omega, by rw [List.length_append]; omega, J4, Lib.hid (by rw [hNJ]; exact HQ.out)⟩
    · have hiL : i = l.length := by omega
      have hqT := HQ.out
      rw [List.drop_eq_nil_of_le (by omega)] at hqT
      have HQ2 := Lib.hid (show R = some acc by rw [← hqT]; cases (i == 0) <;> rfl)
      have hcv := conv_text wr w.heap.size (.slice va acc.length vc) acc HJ.out.own
      clear HQ hqT
      go_wp2_with fail
      go_returns
      exact ⟨by rw [HQ2.out]; rfl, HJ.out.below⟩
end Go.Proofs.YtbalpfpcbckghaaGreatDoor
namespace Go.Proofs.YtbalpfpcbckghaaGreatDoor
open Go.RowKit Go.Lib
set_option linter.unusedVariables false

set_option maxRecDepth 100000 in
set_option maxHeartbeats 1000000 in
theorem ftext_c (s : ByteArray) (code : Int) (w : World) : Calls Tryz.prog 54 #[.string s, .int .i64 code] w (PValC w 2 0 s .nil code) := by
  obtain ⟨wa, hwa⟩ : ∃ wa, wa = w.alloc (.cells #[.int .i64 0, .int .i64 0, .string ⟨#[]⟩, .slice none 0 0] 24) := ⟨_, rfl⟩
  have hb : Below w.heap.size w wa := by rw [hwa]; exact (Below.refl _ _).alloc (Nat.le_refl _) _
  have hza : wa.heap.size = w.heap.size + 1 := by rw [hwa]; simp
  have hR : StB wa w.heap.size (.int .i64 0) (.int .i64 0) (.string ⟨#[]⟩) (.slice none 0 0) := by rw [hwa]; exact StB.new w _ _ _ _
  have SC := Lib.hid (valS_c s wa)
  obtain ⟨wi, hwi⟩ : ∃ wi, wi = wa.alloc (.cells #[.int .i64 2, .int .i64 0, .string s, .slice none 0 0] 24) := ⟨_, rfl⟩
  have hbi : Below wa.heap.size wa wi := by rw [hwi]; exact (Below.refl _ _).alloc (Nat.le_refl _) _
  have hr5 := hR.below hbi (by omega)
  have z0 := hr5.c0; have z1 := hr5.c1; have z2 := hr5.c2; have z3 := hr5.c3; have f0 := hr5.fr 0; have f1 := hr5.fr 1; have f2 := hr5.fr 2; have f3 := hr5.fr 3
  have HF := Lib.hid (valC_end (w := w) (k := 2) (n := 0) (s := s) (sub := .nil) (sb := none) (cb := 0) code (Nat.le_refl _) (hb.trans (below_le' hbi hb.size)) hr5 (Nat.le_refl _) trivial)
  rw [← hwi] at SC
  have HWA := Lib.hid hwa
  clear hb hR hwa hwi hbi hr5
  go_enter Tryz.func54, Tryz.ntmps54
  go_wp2_with fail
  rw [← HWA.out]
  refine SC.out.mono ?_
  rintro e w3 ⟨rfl, hw3⟩
  subst hw3
  go_wp2_with fail
  refine ret_cell4_tmp Tryz.results54 w.heap.size rfl rfl HF.out.1 ?_
  exact HF.out.2

set_option maxRecDepth 100000 in
set_option maxHeartbeats 1000000 in
theorem toint_str (s : ByteArray) (V : Value) (w : World) (hs : s.size ≤ 1000000000) (h : StrcAt w) :
    Calls Tryz.prog 57 #[.agg #[.int .i64 2, .int .i64 0, .string s, V], .string ⟨#[]⟩] w fun e w' => e = .returned (.tuple #[.int .i64 (numV s), .int .i64 0]) ∧ Below w.heap.size w w' := by
  obtain ⟨wa, hwa⟩ : ∃ wa, wa = w.alloc (.cells #[.int .i64 2, .int .i64 0, .string s, V] 24) := ⟨_, rfl⟩
  have hb : Below w.heap.size w wa := by rw [hwa]; exact (Below.refl _ _).alloc (Nat.le_refl _) _
  have hV : StB wa w.heap.size (.int .i64 2) (.int .i64 0) (.string s) V := by rw [hwa]; exact StB.new w _ _ _ _
  have v0 := hV.c0; have v2 := hV.c2
  rw [hwa] at v0 v2
  have TC := Lib.hid (fun W => Tryz.strings_TrimPrefix s ⟨#[]⟩ W)
  rw [show Lib.trimPrefix s.data.toList (⟨#[]⟩ : ByteArray).data.toList = s.data.toList from by unfold Lib.trimPrefix; split <;> rfl, mk_toList] at TC
  have NC := Lib.hid (number_l s wa hs (h.below hb (Nat.le_refl _)))
  have HB := Lib.hid hb
  have HWA := Lib.hid hwa
  clear hb hV hwa h
  go_enter Tryz.func57, Tryz.ntmps57
  go_wp2_with fail
  rw [← HWA.out]
  refine (TC.out _).mono ?_
  rintro e w1 ⟨rfl, hw1⟩
  subst hw1
  go_wp2_with fail
  refine NC.out.mono ?_
  rintro e w2 ⟨rfl, hb2⟩
  have HB2 := Lib.hid (HB.out.trans (below_le' hb2 HB.out.size))
  clear hb2 v0 v2
  go_wp2_with fail
  go_returns
  exact ⟨rfl, HB2.out⟩

set_option maxRecDepth 100000 in
set_option maxHeartbeats 4000000 in
theorem call_toliteral (k n : Int) (s : ByteArray) (v r : VL) (A : Option Addr) (c : Nat) (ea : Nat → Addr) (w : World) (he : ErrsAt w ea) (hst : TxAt w) (hfit : (val1 k n s v).fit) (h64 : (val1 k n s v).i64) (hc : r.len + 1 ≤ c) (hlen : r.len ≤ 100000)
    (hrep : RpL w (fun b => b < w.heap.size) (.cons k n s v r) A) (nm : ByteArray) (hnm : nm.data.toList = [116, 111, 108, 105, 116, 101, 114, 97, 108]) :
    Calls Tryz.prog 34 #[.string nm, .slice A (r.len + 1) c] w (PValC w 2 0 (txtV k n s v) .nil 0) := by
  have hroom := hst.room
  obtain ⟨b, o, sa, sc, rfl, hbS, c0, c1, c2, c3, hcl, hrs, -⟩ := id hrep
  obtain ⟨wa, hwa⟩ : ∃ wa, wa = w.alloc (.cells #[.int .i64 0, .int .i64 0, .string ⟨#[]⟩, .slice none 0 0] 24) := ⟨_, rfl⟩
  have hb : Below w.heap.size w wa := by rw [hwa]; exact (Below.refl _ _).alloc (Nat.le_refl _) _
  have hza : wa.heap.size = w.heap.size + 1 := by rw [hwa]; simp
  have hR : StB wa w.heap.size (.int .i64 0) (.int .i64 0) (.string ⟨#[]⟩) (.slice none 0 0) := by rw [hwa]; exact StB.new w _ _ _ _
  have x0 := (hb.cell (p := ⟨b, o, none⟩) hbS).trans c0
  have x1 := (hb.cell (p := ⟨b, o + 1, none⟩) hbS).trans c1
  have x2 := (hb.cell (p := ⟨b, o + 2, none⟩) hbS).trans c2
  have x3 := (hb.cell (p := ⟨b, o + 3, none⟩) hbS).trans c3
  rw [hwa] at x0 x1 x2 x3
  have HB := Lib.hid hb
  have HR := Lib.hid hR
  have HWA := Lib.hid hwa
  have k1 : 0 < r.len + 1 := by omega
  have k2 : ((0 : Int) < ((r.len + 1 : Nat) : Int)) := by omega
  have qtypeof := nmF hnm [116, 121, 112, 101, 111, 102] (by decide)
  have qlength := nmF hnm [108, 101, 110, 103, 116, 104] (by decide)
  have qtostr := nmF hnm [116, 111, 115, 116, 114] (by decide)
  have qtoliteral := nmT hnm
  have TC := Lib.hid (Text_c k n s v sa sc ea wa (he.below hb (by omega)) (hst.below hb (Nat.le_refl _)) hfit h64 hcl (hrs.keep (fun b hlt => hb.block b hlt) (fun b hlt => Nat.lt_of_lt_of_le hlt hb.size)))
  obtain ⟨T, hT⟩ : ∃ T, T = txtV k n s v := ⟨_, rfl⟩
  rw [← hT] at TC ⊢
  clear hb hR hwa hst he hT hnm hrep hrs c0 c1 c2 c3 hfit h64
  go_enter Tryz.func34, Tryz.ntmps34
  go_wp2_with fail
  rw [← HWA.out]
  refine TC.out.mono ?_
  rintro e w2 ⟨rfl, hb2⟩
  have HB2 := Lib.hid hb2
  have h2z := hb2.size
  clear hb2
  go_wp2_with fail
  refine (ftext_c T 0 w2).mono ?_
  rintro e w3 ⟨saZ, scZ, rfl, hscZ, hrZ, hb3⟩
  have HZ := Lib.hid (show Below wa.heap.size wa w3 ∧ RpL w3 (fun b => w2.heap.size ≤ b ∧ b < w3.heap.size) .nil saZ from ⟨HB2.out.trans (below_le' hb3 HB2.out.size), hrZ⟩)
  clear hb3 hrZ
  have hr5 := HR.out.below HZ.out.1 (by omega)
  have z0 := hr5.c0; have z1 := hr5.c1; have z2 := hr5.c2; have z3 := hr5.c3; have f0 := hr5.fr 0; have f1 := hr5.fr 1; have f2 := hr5.fr 2; have f3 := hr5.fr 3
  have HF := Lib.hid (valC_end (w := w) (k := 2) (n := 0) (s := T) 0 (Nat.le_refl _) (HB.out.trans (below_le' HZ.out.1 HB.out.size)) hr5 hscZ (HZ.out.2.wide (fun c hc => ⟨by omega, by omega, hc.2⟩)))
  clear hr5
  go_wp2_with fail
  refine ret_cell4_tmp Tryz.results34 w.heap.size rfl rfl HF.out.1 ?_
  exact HF.out.2

set_option maxRecDepth 100000 in
set_option maxHeartbeats 4000000 in
theorem call_toint (s : ByteArray) (v r : VL) (A : Option Addr) (c : Nat) (w : World) (hst : StrcAt w) (hs : s.size ≤ 1000000000) (hc : r.len + 1 ≤ c) (hlen : r.len ≤ 100000)
    (hrep : RpL w (fun b => b < w.heap.size) (.cons 2 0 s v r) A) (nm : ByteArray) (hnm : nm.data.toList = [116, 111, 105, 110, 116]) :
    Calls Tryz.prog 34 #[.string nm, .slice A (r.len + 1) c] w (PValC w 0 (numV s) ⟨#[]⟩ .nil 0) := by
  have hroom := hst.room
  obtain ⟨b, o, sa, sc, rfl, hbS, c0, c1, c2, c3, hcl, hrs, -⟩ := id hrep
  obtain ⟨wa, hwa⟩ : ∃ wa, wa = w.alloc (.cells #[.int .i64 0, .int .i64 0, .string ⟨#[]⟩, .slice none 0 0] 24) := ⟨_, rfl⟩
  have hb : Below w.heap.size w wa := by rw [hwa]; exact (Below.refl _ _).alloc (Nat.le_refl _) _
  have hza : wa.heap.size = w.heap.size + 1 := by rw [hwa]; simp
  have hR : StB wa w.heap.size (.int .i64 0) (.int .i64 0) (.string ⟨#[]⟩) (.slice none 0 0) := by rw [hwa]; exact StB.new w _ _ _ _
  have x0 := (hb.cell (p := ⟨b, o, none⟩) hbS).trans c0
  have x1 := (hb.cell (p := ⟨b, o + 1, none⟩) hbS).trans c1
  have x2 := (hb.cell (p := ⟨b, o + 2, none⟩) hbS).trans c2
  have x3 := (hb.cell (p := ⟨b, o + 3, none⟩) hbS).trans c3
  rw [hwa] at x0 x1 x2 x3
  have HB := Lib.hid hb
  have HR := Lib.hid hR
  have HWA := Lib.hid hwa
  have k1 : 0 < r.len + 1 := by omega
  have k2 : ((0 : Int) < ((r.len + 1 : Nat) : Int)) := by omega
  have qtypeof := nmF hnm [116, 121, 112, 101, 111, 102] (by decide)
  have qlength := nmF hnm [108, 101, 110, 103, 116, 104] (by decide)
  have qtostr := nmF hnm [116, 111, 115, 116, 114] (by decide)
  have qtoliteral := nmF hnm [116, 111, 108, 105, 116, 101, 114, 97, 108] (by decide)
  have qtoint := nmT hnm
  have TC := Lib.hid (toint_str s (.slice sa v.len sc) wa hs (hst.below hb (Nat.le_refl _)))
  obtain ⟨N, hN⟩ : ∃ N, N = numV s := ⟨_, rfl⟩
  rw [← hN] at TC ⊢
  clear hb hR hwa hst hN hnm hrep hrs c0 c1 c2 c3
  go_enter Tryz.func34, Tryz.ntmps34
  go_wp2_with fail
  rw [← HWA.out]
  refine TC.out.mono ?_
  rintro e w2 ⟨rfl, hb2⟩
  have HB2 := Lib.hid hb2
  have h2z := hb2.size
  clear hb2
  go_wp2_with fail
  refine (valI_c N w2).mono ?_
  rintro e w3 ⟨rfl, hw3⟩
  have hb3 : Below w2.heap.size w2 w3 := by rw [← hw3]; exact (Below.refl _ _).alloc (Nat.le_refl _) _
  obtain ⟨saZ, hsaZ⟩ : ∃ a : Option Addr, a = none := ⟨_, rfl⟩
  have hscZ : VL.nil.len ≤ 0 := Nat.le_refl _
  have HZ := Lib.hid (show Below wa.heap.size wa w3 ∧ RpL w3 (fun b => w2.heap.size ≤ b ∧ b < w3.heap.size) .nil none from ⟨HB2.out.trans (below_le' hb3 HB2.out.size), trivial⟩)
  clear hb3 hw3
  have hr5 := HR.out.below HZ.out.1 (by omega)
  have z0 := hr5.c0; have z1 := hr5.c1; have z2 := hr5.c2; have z3 := hr5.c3; have f0 := hr5.fr 0; have f1 := hr5.fr 1; have f2 := hr5.fr 2; have f3 := hr5.fr 3
  have HF := Lib.hid (valC_end (w := w) (k := 0) (n := N) (s := ⟨#[]⟩) 0 (Nat.le_refl _) (HB.out.trans (below_le' HZ.out.1 HB.out.size)) hr5 hscZ (HZ.out.2.wide (fun c hc => ⟨by omega, by omega, hc.2⟩)))
  clear hr5
  go_wp2_with fail
  refine ret_cell4_tmp Tryz.results34 w.heap.size rfl rfl HF.out.1 ?_
  exact HF.out.2

/-- What abs answers. -/
def absP (n : Int) : Int := max n (IntKind.i64.wrap (-n))
theorem absP_or (n : Int) : absP n = n ∨ absP n = IntKind.i64.wrap (-n) := by unfold absP; omega
set_option maxRecDepth 100000 in
set_option maxHeartbeats 4000000 in
theorem call_abs (n : Int) (s : ByteArray) (v r : VL) (A : Option Addr) (c : Nat) (w : World) (hc : r.len + 1 ≤ c) (hlen : r.len ≤ 100000)
    (hrep : RpL w (fun b => b < w.heap.size) (.cons 0 n s v r) A) (nm : ByteArray) (hnm : nm.data.toList = [97, 98, 115]) :
    Calls Tryz.prog 34 #[.string nm, .slice A (r.len + 1) c] w (PValC w 0 (absP n) ⟨#[]⟩ .nil 0) := by
  obtain ⟨b, o, sa, sc, rfl, hbS, c0, c1, c2, c3, hcl, hrs, -⟩ := id hrep
  obtain ⟨wa, hwa⟩ : ∃ wa, wa = w.alloc (.cells #[.int .i64 0, .int .i64 0, .string ⟨#[]⟩, .slice none 0 0] 24) := ⟨_, rfl⟩
  have hb : Below w.heap.size w wa := by rw [hwa]; exact (Below.refl _ _).alloc (Nat.le_refl _) _
  have hza : wa.heap.size = w.heap.size + 1 := by rw [hwa]; simp
  have hR : StB wa w.heap.size (.int .i64 0) (.int .i64 0) (.string ⟨#[]⟩) (.slice none 0 0) := by rw [hwa]; exact StB.new w _ _ _ _
  have x0 := (hb.cell (p := ⟨b, o, none⟩) hbS).trans c0
  have x1 := (hb.cell (p := ⟨b, o + 1, none⟩) hbS).trans c1
  have x2 := (hb.cell (p := ⟨b, o + 2, none⟩) hbS).trans c2
  have x3 := (hb.cell (p := ⟨b, o + 3, none⟩) hbS).trans c3
  have HB := Lib.hid hb
  have HR := Lib.hid hR
  have HWA := Lib.hid hwa
  have k1 : 0 < r.len + 1 := by omega
  have k2 : ((0 : Int) < ((r.len + 1 : Nat) : Int)) := by omega
  have qtypeof := nmF hnm [116, 121, 112, 101, 111, 102] (by decide)
  have qlength := nmF hnm [108, 101, 110, 103, 116, 104] (by decide)
  have qtostr := nmF hnm [116, 111, 115, 116, 114] (by decide)
  have qtoliteral := nmF hnm [116, 111, 108, 105, 116, 101, 114, 97, 108] (by decide)
  have qtoint := nmF hnm [116, 111, 105, 110, 116] (by decide)
  have qtoobj := nmF hnm [116, 111, 111, 98, 106] (by decide)
  have qequal := nmF hnm [101, 113, 117, 97, 108] (by decide)
  have qsize := nmF hnm [115, 105, 122, 101] (by decide)
  have qabs := nmT hnm
  obtain ⟨N, hN⟩ : ∃ N, N = absP n := ⟨_, rfl⟩
  rw [← hN]
  have hmx : max n (IntKind.i64.wrap (-n)) = N := hN.symm
  clear hb hR hwa hN hnm hrep hrs c0 c1 c2 c3
  go_enter Tryz.func34, Tryz.ntmps34
  go_wp2_with fail
  rw [← HWA.out]
  go_still_tail 10, (by kernel_rfl)
  change wpList _ _ _ _ _ wa.drew
  go_wp2_with fail
  refine (valI_c N wa.drew).mono ?_
  rintro e w3 ⟨rfl, hw3⟩
  have hb3 : Below wa.heap.size wa w3 := by rw [← hw3]; exact ((Below.refl _ _).drew).alloc (Nat.le_refl _) _
  have hscZ : VL.nil.len ≤ 0 := Nat.le_refl _
  have HZ := Lib.hid (show Below wa.heap.size wa w3 ∧ RpL w3 (fun b => wa.heap.size ≤ b ∧ b < w3.heap.size) .nil none from ⟨hb3, trivial⟩)
  clear hb3 hw3
  have hr5 := HR.out.below HZ.out.1 (by omega)
  have z0 := hr5.c0; have z1 := hr5.c1; have z2 := hr5.c2; have z3 := hr5.c3; have f0 := hr5.fr 0; have f1 := hr5.fr 1; have f2 := hr5.fr 2; have f3 := hr5.fr 3
  have HF := Lib.hid (valC_end (w := w) (k := 0) (n := N) (s := ⟨#[]⟩) 0 (Nat.le_refl _) (HB.out.trans (below_le' HZ.out.1 HB.out.size)) hr5 hscZ (HZ.out.2.wide (fun c hc => ⟨by omega, by omega, hc.2⟩)))
  clear hr5
  go_wp2_with fail
  refine ret_cell4_tmp Tryz.results34 w.heap.size rfl rfl HF.out.1 ?_
  exact HF.out.2
end Go.Proofs.YtbalpfpcbckghaaGreatDoor
namespace Go.Proofs.YtbalpfpcbckghaaGreatDoor
open Go.RowKit Go.Lib
set_option linter.unusedVariables false

/-- The plain texts of values. -/
def plnsV : VL → List (List UInt8)
  | .nil => []
  | .cons k n s sub r => (plnV k n s sub).data.toList :: plnsV r
theorem plns_app : ∀ a b : VL, plnsV (a.app b) = plnsV a ++ plnsV b
  | .nil, b => rfl
  | .cons k n s sub r, b => by rw [VL.app, plnsV, plnsV, plns_app r b]; rfl
def outS (r : Option (List UInt8)) : ByteArray := match r with | some b => ⟨b.toArray⟩ | none => ⟨#[]⟩
def outC (r : Option (List UInt8)) : Int := match r with | some _ => 0 | none => 14
/-- A row of texts of the call's own, as str takes it. -/
theorem own_strO {W : World} {base : Nat} {V : Value} {l : List (List UInt8)} (h : W.ownsRow base 9 1 V l.length (strs l)) : ∃ (a : Option Addr) (cap : Nat), V = .slice a l.length cap ∧ l.length ≤ cap ∧ StrO W a l := by
  rcases h.2 with ⟨rfl, h0⟩ | ⟨g, cap, cur, rfl, hb, hh, hle, hmx, hcs, ht⟩
  · have : l = [] := List.length_eq_zero_iff.1 h0
    subst this
    exact ⟨none, 0, rfl, Nat.le_refl _, .inl rfl⟩
  · refine ⟨some ⟨g, 0, none⟩, cap, rfl, hle, .inr ⟨g, 0, rfl, (Array.getElem?_eq_some_iff.1 hh).1, fun j x hj => ?_⟩⟩
    rw [cell_of_row _ _ (0 + j) _ _ _ hh, Nat.zero_add]
    have hjl : j < l.length := (List.getElem?_eq_some_iff.1 hj).1
    have e : (cur.toList.take (l.length * 1))[j]? = some (.string ⟨x.toArray⟩) := by
      rw [ht]; unfold strs; rw [List.getElem?_map, hj]; rfl
    rw [List.getElem?_take_of_lt (by omega)] at e
    rw [← Array.getElem?_toList]
    exact e

set_option maxRecDepth 100000 in
set_option maxHeartbeats 4000000 in
theorem call_tostr (l : VL) (A : Option Addr) (c : Nat) (ea : Nat → Addr) (w : World) (he : ErrsAt w ea) (hst : TxAt w) (hfit : l.fit) (h64 : l.i64) (hc : l.len ≤ c) (hlen : l.len ≤ 100000)
    (hrep : RpL w (fun b => b < w.heap.size) l A) (hx : ∀ x ∈ plnsV l, x.length ≤ 1000000000) (nm : ByteArray) (hnm : nm.data.toList = [116, 111, 115, 116, 114]) :
    Calls Tryz.prog 34 #[.string nm, .slice A l.len c] w (PValC w 2 0 (outS (joinS [] true (plnsV l) [])) .nil (outC (joinS [] true (plnsV l) []))) := by
  have hroom := hst.room
  obtain ⟨r, hr⟩ : ∃ r, r = joinS [] true (plnsV l) [] := ⟨_, rfl⟩
  rw [← hr]
  obtain ⟨S1, hS1⟩ : ∃ S1, S1 = outS r := ⟨_, rfl⟩
  obtain ⟨C1, hC1⟩ : ∃ C1, C1 = outC r := ⟨_, rfl⟩
  rw [← hS1, ← hC1]
  have HRR := Lib.hid hr
  have HS1 := Lib.hid hS1
  have HC1 := Lib.hid hC1
  clear hr hS1 hC1
  obtain ⟨j0, hj0, hy0, hy1, hy2⟩ := info_parts str_info
  obtain ⟨wa, hwa⟩ : ∃ wa, wa = w.alloc (.cells #[.int .i64 0, .int .i64 0, .string ⟨#[]⟩, .slice none 0 0] 24) := ⟨_, rfl⟩
  have hb : Below w.heap.size w wa := by rw [hwa]; exact (Below.refl _ _).alloc (Nat.le_refl _) _
  have hza : wa.heap.size = w.heap.size + 1 := by rw [hwa]; simp
  have hR : StB wa w.heap.size (.int .i64 0) (.int .i64 0) (.string ⟨#[]⟩) (.slice none 0 0) := by rw [hwa]; exact StB.new w _ _ _ _
  have HB := Lib.hid hb
  have HR := Lib.hid hR
  have HWA := Lib.hid hwa
  have qtypeof := nmF hnm [116, 121, 112, 101, 111, 102] (by decide)
  have qlength := nmF hnm [108, 101, 110, 103, 116, 104] (by decide)
  have qtostr := nmT hnm
  have EV := Lib.hid (fun W (hW : Below w.heap.size w W) => he.below hW (by omega))
  have TV := Lib.hid (fun W (hW : Below w.heap.size w W) => hst.below hW (Nat.le_refl _))
  have RP := Lib.hid (fun W (hW : Below w.heap.size w W) => hrep.keep (w' := W) (S' := fun b => b < W.heap.size) (fun b hlt => hW.block b hlt) (fun b hlt => Nat.lt_of_lt_of_le hlt hW.size))
  have HX := Lib.hid hx
  have HF0 := Lib.hid hfit
  have H64 := Lib.hid h64
  clear hb hR hwa hst he hnm hrep hx hfit h64
  go_enter Tryz.func34, Tryz.ntmps34
  go_wp2_with fail
  rw [← HWA.out]
  go_loopg [6, 40] l.len (fun kk av iv wr => ∃ (i : Nat) (outs : List (List UInt8)) (ov : Value), ov = av ∧ iv = .int .i64 (i : Int) ∧ i + kk = l.len ∧ outs.length = i ∧ Hid (outs = plnsV (l.take i)) ∧ Hid (Below wa.heap.size wa wr) ∧ Hid (wr.ownsRow wa.heap.size 9 1 ov outs.length (strs outs)))
  case atStart => exact ⟨0, [], _, rfl, rfl, by omega, rfl, Lib.hid (by rw [VL.take]; rfl), Lib.hid (Below.refl _ _), Lib.hid (World.ownsRow_nil _ _ _ _)⟩
  case round =>
    obtain ⟨i, outs, ov, rfl, rfl, hik, hol, HOU, HBW, HO⟩ := hrel
    have hbz : wa.heap.size ≤ wr.heap.size := HBW.out.size
    have HBr := Lib.hid (HB.out.trans (below_le' HBW.out HB.out.size))
    by_cases hi : i < l.len
    · obtain ⟨kk, rfl⟩ : ∃ kk, gk = kk + 1 := ⟨gk - 1, by omega⟩
      obtain ⟨b, o, k', n', s', sub', sa', sc', hA, hd, hSb, c0, c1, c2, c3, hcl, hrs, hszd⟩ := rp_at (RP.out wr HBr.out) hi
      have hfd := VL.fit_drop i l HF0.out
      rw [hd] at hfd
      have h6d := i64_drop i l H64.out
      rw [hd] at h6d
      obtain ⟨wx, hwx⟩ : ∃ wx, wx = wr.alloc (.cells #[.int .i64 k', .int .i64 n', .string s', .slice sa' sub'.len sc'] 24) := ⟨_, rfl⟩
      have hbx : Below wr.heap.size wr wx := by rw [hwx]; exact (Below.refl _ _).alloc (Nat.le_refl _) _
      have hBx := HBr.out.trans (below_le' hbx HBr.out.size)
      have PC := Lib.hid (Plain_c k' n' s' sub' sa' sc' ea wx (EV.out wx hBx) (TV.out wx hBx) (show (val1 k' n' s' sub').fit from ⟨hfd.1, hfd.2.1, hfd.2.2.1, trivial⟩) (show (val1 k' n' s' sub').i64 from ⟨h6d.1, h6d.2.1, h6d.2.2.1, trivial⟩) hcl (hrs.keep (fun b hlt => hbx.block b hlt) (fun b hlt => Nat.lt_of_lt_of_le hlt hbx.size)))
      have HT := Lib.hid (show outs ++ [(plnV k' n' s' sub').data.toList] = plnsV (l.take (i + 1)) by
        rw [HOU.out, VL.take_succ i l k' n' s' sub' hd, plns_app]; rfl)
      obtain ⟨T, hT⟩ : ∃ T, T = plnV k' n' s' sub' := ⟨_, rfl⟩
      rw [← hT] at PC HT
      have HBX := Lib.hid hbx
      have HWX := Lib.hid hwx
      have HOX := Lib.hid (own_below HO.out hbx)
      subst hA
      clear hd hrs hfd h6d hwx hbx hBx hT HOU
      go_wp2_with fail
      rw [← HWX.out]
      refine PC.out.mono ?_
      rintro e w4 ⟨rfl, hb4⟩
      have HB4 := Lib.hid (HBX.out.trans (below_le' hb4 HBX.out.size))
      have HO4 := Lib.hid (own_below HOX.out hb4)
      have h4z := HB4.out.size
      clear hb4 c0 c1 c2 c3 HO
      go_wp2_with (at_builtin; refine wpList_append_own _ rfl _ _ 38 rfl wa.heap.size 9 j0 (.string ⟨#[]⟩) 1 16 Tryz.underlying38 hj0 hy0 hy1 hy2 rfl (by decide) ov outs.length (strs outs) rfl (HO4.out.alloc _) ⟨w4.heap.size, 0, none⟩ 1 1 [.string T] rfl rfl ?c1 ?c2 ?c3 ?c4 ?c5 ?_
                   case c1 => exact cell_one_new _ _ _
                   case c2 => intro u hu; simp at hu; subst hu; rfl
                   case c3 => unfold maxLen; omega
                   case c4 => omega
                   case c5 => simp; omega
                   intro v' w5 hown hgrow _
                   have HB5 := Lib.hid (grown_below ((HBW.out.trans (below_le' HB4.out hbz)).alloc (by omega) _) (by simp; omega) hgrow (fun k hk => own_ge HO4.out k hk))
                   have HO5 := Lib.hid (strs_snoc (y := T.data.toList) (by rw [mk_toList]; exact hown))
                   clear hown hgrow)
      go_roundg kk
      case measure => omega
      case rel => exact ⟨i + 1, outs ++ [T.data.toList], v', rfl, by go_num, by omega, by simp; omega, HT, HB5, HO5⟩
    · have hiL : i = l.len := by omega
      have HOE := Lib.hid (show outs = plnsV l by rw [HOU.out, hiL, VL.take_len])
      obtain ⟨a, cap, rfl, hcap, hso⟩ := own_strO HO.out
      have JC := Lib.hid (strJoin_c ⟨#[]⟩ a cap outs wr hso (by omega) hcap (by decide) (by rw [HOE.out]; exact HX.out))
      rw [show (⟨#[]⟩ : ByteArray).data.toList = [] from rfl, HOE.out] at JC
      rw [← HRR.out] at JC
      have JC := Lib.hid (JC.out.mono (R' := fun e w' => e = .returned (.tuple #[.string (outS r), .int .i64 (outC r)]) ∧ Below wr.heap.size wr w') fun e w' h => h)
      rw [← HS1.out, ← HC1.out] at JC
      rw [← HOE.out, show outs.length = l.len by omega] at JC
      clear hso HOU
      go_wp2_with fail
      refine JC.out.mono ?_
      rintro e w4 ⟨rfl, hb4⟩
      have HB4 := Lib.hid (HBW.out.trans (below_le' hb4 hbz))
      have h4z := HB4.out.size
      clear hb4 JC
      go_wp2_with fail
      refine (ftext_c S1 C1 w4).mono ?_
      rintro e w3 ⟨saZ, scZ, rfl, hscZ, hrZ, hb3⟩
      have HZ := Lib.hid (show Below wa.heap.size wa w3 ∧ RpL w3 (fun b => w4.heap.size ≤ b ∧ b < w3.heap.size) .nil saZ from ⟨HB4.out.trans (below_le' hb3 HB4.out.size), hrZ⟩)
      clear hb3 hrZ
      have hr5 := HR.out.below HZ.out.1 (by omega)
      have z0 := hr5.c0; have z1 := hr5.c1; have z2 := hr5.c2; have z3 := hr5.c3; have f0 := hr5.fr 0; have f1 := hr5.fr 1; have f2 := hr5.fr 2; have f3 := hr5.fr 3
      have HF := Lib.hid (valC_end (w := w) (k := 2) (n := 0) (s := S1) C1 (Nat.le_refl _) (HB.out.trans (below_le' HZ.out.1 HB.out.size)) hr5 hscZ (HZ.out.2.wide (fun c hc => ⟨by omega, by omega, hc.2⟩)))
      clear hr5
      go_wp2_with fail
      refine ret_cell4_tmp Tryz.results34 w.heap.size rfl rfl HF.out.1 ?_
      exact HF.out.2
end Go.Proofs.YtbalpfpcbckghaaGreatDoor
namespace Go.Proofs.YtbalpfpcbckghaaGreatDoor
open Go.RowKit Go.Lib
set_option linter.unusedVariables false

def spB : ByteArray := ⟨#[32]⟩
/-- What spaces part, empty pieces too. -/
def piecesS (s : ByteArray) : List (List UInt8) := (Lib.splitB spB 0 (Lib.countB s spB) s).map (·.data.toList)
/-- The pieces that are not empty. -/
def wordsS (s : ByteArray) : List (List UInt8) := (piecesS s).filter (fun x => !x.isEmpty)
/-- Texts as values. -/
def strV : List (List UInt8) → VL
  | [] => .nil
  | x :: r => .cons 2 0 ⟨x.toArray⟩ .nil (strV r)
theorem strV_len : ∀ l, (strV l).len = l.length
  | [] => rfl
  | x :: r => by rw [strV, VL.len, strV_len r, List.length_cons]
theorem strV_snoc : ∀ (l : List (List UInt8)) (x : List UInt8), (strV l).app (val1 2 0 ⟨x.toArray⟩ .nil) = strV (l ++ [x])
  | [], x => rfl
  | y :: r, x => by rw [strV, VL.app, strV_snoc r x]; rfl
theorem own_less {W : World} {base base' e size n : Nat} {V : Value} {xs : List Value} (h : W.ownsRow base e size V n xs) (hb : base' ≤ base) : W.ownsRow base' e size V n xs := by
  refine ⟨h.1, ?_⟩
  rcases h.2 with h | ⟨g, cap, cur, h1, h2, h3⟩
  · exact .inl h
  · exact .inr ⟨g, cap, cur, h1, Nat.le_trans hb h2, h3⟩
set_option maxRecDepth 100000 in
set_option maxHeartbeats 4000000 in
theorem strWords_c (s : ByteArray) (w : World) (hs : s.size ≤ 1000000) (hm : MaxAt w) (hlen : (piecesS s).length = Lib.countB s spB + 1) (hl : (piecesS s).length ≤ 100000) :
    Calls Tryz.prog 62 #[.string s] w fun e w' => ∃ V, e = .returned V ∧ w'.ownsRow w.heap.size 9 1 V (wordsS s).length (strs (wordsS s)) ∧ Below w.heap.size w w' := by
  obtain ⟨m, hm⟩ := hm
  obtain ⟨j0, hj0, hy0, hy1, hy2⟩ := info_parts str_info
  obtain ⟨P, hP⟩ : ∃ P, P = piecesS s := ⟨_, rfl⟩
  have hW : wordsS s = P.filter (fun x => !x.isEmpty) := by rw [hP]; rfl
  rw [hW]
  have SC := Tryz.strings_Split s spB m w (by omega) hm (by decide)
  have hmap : (Lib.splitB spB 0 (Lib.countB s spB) s).map Value.string = strs P := by
    rw [hP]; unfold piecesS strs
    rw [List.map_map]
    exact List.map_congr_left (fun x _ => by show Value.string x = Value.string ⟨x.data.toList.toArray⟩; rw [mk_toList])
  rw [hmap, ← hlen, ← hP] at SC
  rw [← hP] at hl
  obtain ⟨w1, hw1⟩ : ∃ w1, w1 = w.alloc (.cells (strs P).toArray 9) := ⟨_, rfl⟩
  have hz : w1.heap.size = w.heap.size + 1 := by rw [hw1]; simp
  have hb : Below w.heap.size w w1 := by rw [hw1]; exact (Below.refl _ _).alloc (Nat.le_refl _) _
  have HC := Lib.hid (show ∀ (i : Nat) (x : List UInt8), P[i]? = some x → w1.cell? ⟨w.heap.size, i, none⟩ = some (.string ⟨x.toArray⟩) by
    intro i x hx
    rw [hw1, cell_of_row _ _ i _ _ _ (heap_alloc_new w _)]
    simp [strs, hx])
  rw [← hw1] at SC
  have SC := Lib.hid SC
  have HB := Lib.hid hb
  have hsp : spB = ⟨#[32]⟩ := rfl
  rw [hsp] at SC
  clear hw1 hb hmap hW hP hlen hsp hm
  go_enter Tryz.func62, Tryz.ntmps62
  go_wp2_with fail
  refine SC.out.mono ?_
  rintro e w2 ⟨rfl, hw2⟩
  have hw2 := hw2.symm
  subst hw2
  go_wp2_with fail
  go_loopg [3, 9] P.length (fun kk av iv wr => ∃ (i : Nat) (outs : List (List UInt8)) (ov : Value), ov = av ∧ iv = .int .i64 (i : Int) ∧ i + kk = P.length ∧ outs.length ≤ i ∧ Hid (outs = (P.take i).filter (fun x => !x.isEmpty)) ∧ Hid (Below w1.heap.size w1 wr) ∧ Hid (wr.ownsRow w1.heap.size 9 1 ov outs.length (strs outs)))
  case atStart => exact ⟨0, [], _, rfl, rfl, by omega, Nat.zero_le _, Lib.hid rfl, Lib.hid (Below.refl _ _), Lib.hid (World.ownsRow_nil _ _ _ _)⟩
  case round =>
    obtain ⟨i, outs, ov, rfl, rfl, hik, hol, HOU, HBW, HO⟩ := hrel
    have hbz : w1.heap.size ≤ wr.heap.size := HBW.out.size
    by_cases hi : i < P.length
    · obtain ⟨kk, rfl⟩ : ∃ kk, gk = kk + 1 := ⟨gk - 1, by omega⟩
      obtain ⟨x, hx⟩ : ∃ x, P[i]? = some x := ⟨_, List.getElem?_eq_getElem hi⟩
      have hcx : wr.cell? ⟨w.heap.size, i, none⟩ = some (.string ⟨x.toArray⟩) := (HBW.out.cell (p := ⟨w.heap.size, i, none⟩) (by show w.heap.size < _; omega)).trans (HC.out i x hx)
      have hta : P.take (i + 1) = P.take i ++ [x] := by
        rw [List.take_succ_eq_append_getElem hi]
        rw [List.getElem?_eq_getElem hi] at hx
        injection hx with hx
        rw [hx]
      obtain ⟨b, hb⟩ : ∃ b : ByteArray, b = ⟨x.toArray⟩ := ⟨_, rfl⟩
      rw [← hb] at hcx
      cases he : x.isEmpty with
      | true =>
        have hx0 : x = [] := List.isEmpty_iff.1 he
        have HT := Lib.hid (show outs = (P.take (i + 1)).filter (fun x => !x.isEmpty) by
          rw [hta, List.filter_append, ← HOU.out]; simp [he])
        have hb2 : b = ⟨#[]⟩ := by rw [hb, hx0]
        rw [hb2] at hcx
        clear hx hta hb HOU he
        go_wp2_with fail
        go_roundg kk
        case measure => omega
        case rel => exact ⟨i + 1, outs, ov, rfl, by go_num, by omega, by omega, HT, HBW, HO⟩
      | false =>
        have hx0 : x ≠ [] := fun h => by rw [h] at he; exact absurd he (by decide)
        have HT := Lib.hid (show outs ++ [x] = (P.take (i + 1)).filter (fun x => !x.isEmpty) by
          rw [hta, List.filter_append, ← HOU.out]; simp [he])
        have hbl : b.toList = x := by rw [hb, Lib.toList_data]
        have q1 : (b.toList == []) = false := by rw [hbl, beq_eq_false_iff_ne]; exact hx0
        have q2 : (b.toList == (⟨#[]⟩ : ByteArray).toList) = false := by rw [hbl, Lib.toList_data, beq_eq_false_iff_ne]; exact hx0
        have HBX := Lib.hid hb
        clear hx hta hb HOU he hbl
        go_wp2_with (at_builtin; refine wpList_append_own _ rfl _ _ 38 rfl w1.heap.size 9 j0 (.string ⟨#[]⟩) 1 16 Tryz.underlying38 hj0 hy0 hy1 hy2 rfl (by decide) ov outs.length (strs outs) rfl (HO.out.alloc _) ⟨wr.heap.size, 0, none⟩ 1 1 [.string b] rfl rfl ?c1 ?c2 ?c3 ?c4 ?c5 ?_
                     case c1 => exact cell_one_new _ _ _
                     case c2 => intro u hu; simp at hu; subst hu; rfl
                     case c3 => unfold maxLen; omega
                     case c4 => omega
                     case c5 => simp; omega
                     intro v' w5 hown hgrow _
                     have HB5 := Lib.hid (grown_below (HBW.out.alloc hbz _) (by simp; omega) hgrow (fun k hk => own_ge HO.out k hk))
                     have HO5 := Lib.hid (strs_snoc (y := x) (by rw [← HBX.out]; exact hown))
                     clear hown hgrow)
        go_roundg kk
        case measure => omega
        case rel => exact ⟨i + 1, outs ++ [x], v', rfl, by go_num, by omega, by simp; omega, HT, HB5, HO5⟩
    · have HE := Lib.hid (show outs = P.filter (fun x => !x.isEmpty) by rw [HOU.out, List.take_of_length_le (by omega)])
      go_wp2_with fail
      go_ret
      refine ⟨_, rfl, ?_, HB.out.trans (below_le' HBW.out HB.out.size)⟩
      rw [← HE.out]
      exact own_less HO.out (by omega)

set_option maxRecDepth 100000 in
set_option maxHeartbeats 1000000 in
theorem flist_c (l : VL) (A : Option Addr) (c : Nat) (code : Int) (w : World) (hc : l.len ≤ c) : Calls Tryz.prog 63 #[.slice A l.len c, .int .i64 code] w fun e w' => e = .returned (.tuple #[.agg #[.int .i64 4, .int .i64 0, .string ⟨#[]⟩, .slice A l.len c], .int .i64 code]) ∧ Below w.heap.size w w' := by
  have HF := Lib.hid (StB.new w (.int .i64 4) (.int .i64 0) (.string ⟨#[]⟩) (.slice A l.len c))
  go_enter Tryz.func63, Tryz.ntmps63
  go_wp2_with fail
  refine ret_cell4_tmp Tryz.results63 w.heap.size rfl rfl HF.out ?_
  exact ⟨rfl, (Below.refl _ _).alloc (Nat.le_refl _) _⟩
end Go.Proofs.YtbalpfpcbckghaaGreatDoor
namespace Go.Proofs.YtbalpfpcbckghaaGreatDoor
open Go.RowKit Go.Lib
set_option linter.unusedVariables false

end Go.Proofs.YtbalpfpcbckghaaGreatDoor
