/- Contracts of the functions that the statement reaches, and the plain mathematics beneath: several texts joined. -/
import Derived.Test.YtbalpfpcbckghaaGreatDoorFlsAO
import Derived.Test.YtbalpfpcbckghaaGreatDoorFlsAN
import Derived.Test.YtbalpfpcbckghaaGreatDoorFlsAM
namespace Go.Proofs.YtbalpfpcbckghaaGreatDoor
open Go.RowKit Go.Lib
set_option linter.unusedVariables false
set_option linter.unusedSimpArgs false

set_option maxRecDepth 100000 in
set_option maxHeartbeats 4000000 in
theorem lists_append (l : VL) (sa : Option Addr) (sc : Nat) (k' n' : Int) (s' : ByteArray) (sub' : VL) (va : Option Addr) (vc : Nat) (g c : Nat) (w : World) (nm : ByteArray) (hnm : nm.data.toList = [108, 105, 115, 116, 97, 112, 112, 101, 110, 100]) (hc : 2 ≤ c) (hlm : l.len ≤ 1000)
    (hg : w.heap[g]? = some (.cells #[.int .i64 4, .int .i64 0, .string ⟨#[]⟩, .slice sa l.len sc, .int .i64 k', .int .i64 n', .string s', .slice va sub'.len vc] 24 (0, 0))) (hF : FitL (l.app (.cons k' n' s' sub' .nil))) (hvc : sub'.len ≤ vc) (hA : (sa = none ∧ sc = 0) ∨ ∃ b o, sa = some ⟨b, o, none⟩) (hrv : RpL w (fun b => b < w.heap.size) sub' va) (hsc : l.len ≤ sc) (hrep : RpL w (fun b => b < w.heap.size) l sa) :
    Calls Tryz.prog 66 #[.string nm, .slice (some ⟨g, 0, none⟩) 2 c] w (PValC w 4 0 ⟨#[]⟩ (l.app (.cons k' n' s' sub' .nil)) 0) := by
  have hgz : g < w.heap.size := (Array.getElem?_eq_some_iff.1 hg).1
  obtain ⟨wa, hwa⟩ : ∃ wa, wa = w.alloc (.cells #[.int .i64 0, .int .i64 0, .string ⟨#[]⟩, .slice none 0 0] 24) := ⟨_, rfl⟩
  have hb : Below w.heap.size w wa := by rw [hwa]; exact (Below.refl _ _).alloc (Nat.le_refl _) _
  have hza : wa.heap.size = w.heap.size + 1 := by rw [hwa]; simp
  have hR : StB wa w.heap.size (.int .i64 0) (.int .i64 0) (.string ⟨#[]⟩) (.slice none 0 0) := by rw [hwa]; exact StB.new w _ _ _ _
  have hga := (hb.block g hgz).trans hg
  have x3 := cell_of_row wa g 3 _ _ _ hga
  have x4 := cell_of_row wa g 4 _ _ _ hga
  have x5 := cell_of_row wa g 5 _ _ _ hga
  have x6 := cell_of_row wa g 6 _ _ _ hga
  have x7 := cell_of_row wa g 7 _ _ _ hga
  have RL := hrep.keep (w' := wa) (S' := fun b => b < wa.heap.size) (fun b hb' => hb.block b hb') (fun b hb' => by omega)
  have RV := hrv.keep (w' := wa) (S' := fun b => b < wa.heap.size) (fun b hb' => hb.block b hb') (fun b hb' => by omega)
  obtain ⟨h1, h2, h3⟩ := (hF).made
  obtain ⟨m, hm⟩ : ∃ m, m = l.app (.cons k' n' s' sub' .nil) := ⟨_, rfl⟩
  rw [← hm] at h1 h2 h3
  have hml : m.len = l.len + 1 := by rw [hm]; first | (rw [VL.len_app]; rfl) | rfl
  have IC := Lib.hid (insert_c l sa sc k' n' s' sub' va vc l.len m wa (by rw [hm]; first | (rw [VL.take_len, VL.drop_len]) | rfl) (by omega) h1 (by omega) (by omega) h2 h3 hsc hvc hA RL RV)
  rw [← hm]
  clear RV hrv hm hF h1 h2 h3 hml
  have mx : max (l.len : Int) 0 = (l.len : Int) := by omega
  have mw : IntKind.i64.wrap ((l.len : Int) + 1) = (l.len : Int) + 1 := IntWalk.i64_in _ ⟨by omega, by omega⟩
  have hsz : l.len ≤ 100000 := by omega
  rw [hwa] at x3 x4 x5 x6 x7
  have HB := Lib.hid hb
  have HR := Lib.hid hR
  have HWA := Lib.hid hwa
  have k2 : ((0 : Int) < (2 : Int)) := by omega
  have qlistappend := nmT hnm
  clear hb hR hwa hnm hga hg RL hrep
  go_enter Tryz.func66, Tryz.ntmps66
  go_wp2_with fail
  rw [← HWA.out]
  refine IC.out.mono ?_
  rintro e w2 ⟨sb, cb, rfl, hcb, hrb, hb2⟩
  have LC := Lib.hid (flist_c m sb cb 0 w2 hcb)
  have h2z := hb2.size
  have HB2 := Lib.hid (HB.out.trans (below_le' hb2 HB.out.size))
  have HR2 := Lib.hid (HR.out.below hb2 (by omega))
  have HRB := Lib.hid hrb
  have HCB := Lib.hid hcb
  clear hb2 hrb IC hcb x3 x4 x5 x6 x7
  go_wp2_with fail
  refine LC.out.mono ?_
  rintro e w3 ⟨rfl, hb3⟩
  have h3z := hb3.size
  have hr5 := HR2.out.below hb3 (by omega)
  have z0 := hr5.c0; have z1 := hr5.c1; have z2 := hr5.c2; have z3 := hr5.c3; have f0 := hr5.fr 0; have f1 := hr5.fr 1; have f2 := hr5.fr 2; have f3 := hr5.fr 3
  have HF := Lib.hid (valC_end (w := w) (k := 4) (n := 0) (s := ⟨#[]⟩) 0 (Nat.le_refl _) (HB2.out.trans (below_le' hb3 (by omega))) hr5 HCB.out ((HRB.out.below hb3 (fun b hb => hb.2)).wide (fun b hb => ⟨by omega, by omega, by omega⟩)))
  clear hr5 hb3 LC HR2 HRB
  go_wp2_with fail
  refine ret_cell4_tmp Tryz.results66 w.heap.size rfl rfl HF.out.1 ?_
  exact HF.out.2
set_option maxRecDepth 100000 in
set_option maxHeartbeats 4000000 in
theorem lists_insert (l : VL) (sa : Option Addr) (sc : Nat) (k' n' : Int) (s' : ByteArray) (sub' : VL) (va : Option Addr) (vc : Nat) (g c : Nat) (w : World) (nm : ByteArray) (hnm : nm.data.toList = [108, 105, 115, 116, 105, 110, 115, 101, 114, 116]) (hc : 2 ≤ c) (hlm : l.len ≤ 1000)
    (hg : w.heap[g]? = some (.cells #[.int .i64 4, .int .i64 0, .string ⟨#[]⟩, .slice sa l.len sc, .int .i64 k', .int .i64 n', .string s', .slice va sub'.len vc] 24 (0, 0))) (hF : FitL (l.app (.cons k' n' s' sub' .nil))) (hvc : sub'.len ≤ vc) (hA : (sa = none ∧ sc = 0) ∨ ∃ b o, sa = some ⟨b, o, none⟩) (hrv : RpL w (fun b => b < w.heap.size) sub' va) (hsc : l.len ≤ sc) (hrep : RpL w (fun b => b < w.heap.size) l sa) :
    Calls Tryz.prog 66 #[.string nm, .slice (some ⟨g, 0, none⟩) 2 c] w (PValC w 4 0 ⟨#[]⟩ (VL.cons k' n' s' sub' l) 0) := by
  have hgz : g < w.heap.size := (Array.getElem?_eq_some_iff.1 hg).1
  obtain ⟨wa, hwa⟩ : ∃ wa, wa = w.alloc (.cells #[.int .i64 0, .int .i64 0, .string ⟨#[]⟩, .slice none 0 0] 24) := ⟨_, rfl⟩
  have hb : Below w.heap.size w wa := by rw [hwa]; exact (Below.refl _ _).alloc (Nat.le_refl _) _
  have hza : wa.heap.size = w.heap.size + 1 := by rw [hwa]; simp
  have hR : StB wa w.heap.size (.int .i64 0) (.int .i64 0) (.string ⟨#[]⟩) (.slice none 0 0) := by rw [hwa]; exact StB.new w _ _ _ _
  have hga := (hb.block g hgz).trans hg
  have x3 := cell_of_row wa g 3 _ _ _ hga
  have x4 := cell_of_row wa g 4 _ _ _ hga
  have x5 := cell_of_row wa g 5 _ _ _ hga
  have x6 := cell_of_row wa g 6 _ _ _ hga
  have x7 := cell_of_row wa g 7 _ _ _ hga
  have RL := hrep.keep (w' := wa) (S' := fun b => b < wa.heap.size) (fun b hb' => hb.block b hb') (fun b hb' => by omega)
  have RV := hrv.keep (w' := wa) (S' := fun b => b < wa.heap.size) (fun b hb' => hb.block b hb') (fun b hb' => by omega)
  obtain ⟨h1, h2, h3⟩ := (hF.ins).made
  obtain ⟨m, hm⟩ : ∃ m, m = VL.cons k' n' s' sub' l := ⟨_, rfl⟩
  rw [← hm] at h1 h2 h3
  have hml : m.len = l.len + 1 := by rw [hm]; first | (rw [VL.len_app]; rfl) | rfl
  have IC := Lib.hid (insert_c l sa sc k' n' s' sub' va vc 0 m wa (by rw [hm]; first | (rw [VL.take_len, VL.drop_len]) | rfl) (by omega) h1 (by omega) (by omega) h2 h3 hsc hvc hA RL RV)
  rw [← hm]
  clear RV hrv hm hF h1 h2 h3 hml
  rw [show (((0 : Nat) : Int) + 1) = 1 from rfl] at IC
  have hsz : l.len ≤ 100000 := by omega
  rw [hwa] at x3 x4 x5 x6 x7
  have HB := Lib.hid hb
  have HR := Lib.hid hR
  have HWA := Lib.hid hwa
  have k2 : ((0 : Int) < (2 : Int)) := by omega
  have qlistappend := nmF hnm [108, 105, 115, 116, 97, 112, 112, 101, 110, 100] (by decide)
  have qlistinsert := nmT hnm
  clear hb hR hwa hnm hga hg RL hrep
  go_enter Tryz.func66, Tryz.ntmps66
  go_wp2_with fail
  rw [← HWA.out]
  refine IC.out.mono ?_
  rintro e w2 ⟨sb, cb, rfl, hcb, hrb, hb2⟩
  have LC := Lib.hid (flist_c m sb cb 0 w2 hcb)
  have h2z := hb2.size
  have HB2 := Lib.hid (HB.out.trans (below_le' hb2 HB.out.size))
  have HR2 := Lib.hid (HR.out.below hb2 (by omega))
  have HRB := Lib.hid hrb
  have HCB := Lib.hid hcb
  clear hb2 hrb IC hcb x3 x4 x5 x6 x7
  go_wp2_with fail
  refine LC.out.mono ?_
  rintro e w3 ⟨rfl, hb3⟩
  have h3z := hb3.size
  have hr5 := HR2.out.below hb3 (by omega)
  have z0 := hr5.c0; have z1 := hr5.c1; have z2 := hr5.c2; have z3 := hr5.c3; have f0 := hr5.fr 0; have f1 := hr5.fr 1; have f2 := hr5.fr 2; have f3 := hr5.fr 3
  have HF := Lib.hid (valC_end (w := w) (k := 4) (n := 0) (s := ⟨#[]⟩) 0 (Nat.le_refl _) (HB2.out.trans (below_le' hb3 (by omega))) hr5 HCB.out ((HRB.out.below hb3 (fun b hb => hb.2)).wide (fun b hb => ⟨by omega, by omega, by omega⟩)))
  clear hr5 hb3 LC HR2 HRB
  go_wp2_with fail
  refine ret_cell4_tmp Tryz.results66 w.heap.size rfl rfl HF.out.1 ?_
  exact HF.out.2
set_option maxRecDepth 100000 in
set_option maxHeartbeats 4000000 in
theorem lists_delete (l : VL) (sa : Option Addr) (sc : Nat) (k : Nat) (g c : Nat) (w : World) (nm : ByteArray) (hnm : nm.data.toList = [108, 105, 115, 116, 100, 101, 108, 101, 116, 101]) (hc : 2 ≤ c) (hlm : l.len ≤ 1000)
    (hg : w.heap[g]? = some (.cells #[.int .i64 4, .int .i64 0, .string ⟨#[]⟩, .slice sa l.len sc, .int .i64 0, .int .i64 ((k : Int) + 1), .string ⟨#[]⟩, .slice none 0 0] 24 (0, 0))) (hF : FitL ((l.take k).app (l.drop (k + 1)))) (hk : k < l.len) (hsc : l.len ≤ sc) (hrep : RpL w (fun b => b < w.heap.size) l sa) :
    Calls Tryz.prog 66 #[.string nm, .slice (some ⟨g, 0, none⟩) 2 c] w (PValC w 4 0 ⟨#[]⟩ ((l.take k).app (l.drop (k + 1))) 0) := by
  have hgz : g < w.heap.size := (Array.getElem?_eq_some_iff.1 hg).1
  obtain ⟨wa, hwa⟩ : ∃ wa, wa = w.alloc (.cells #[.int .i64 0, .int .i64 0, .string ⟨#[]⟩, .slice none 0 0] 24) := ⟨_, rfl⟩
  have hb : Below w.heap.size w wa := by rw [hwa]; exact (Below.refl _ _).alloc (Nat.le_refl _) _
  have hza : wa.heap.size = w.heap.size + 1 := by rw [hwa]; simp
  have hR : StB wa w.heap.size (.int .i64 0) (.int .i64 0) (.string ⟨#[]⟩) (.slice none 0 0) := by rw [hwa]; exact StB.new w _ _ _ _
  have hga := (hb.block g hgz).trans hg
  have x3 := cell_of_row wa g 3 _ _ _ hga
  have x4 := cell_of_row wa g 4 _ _ _ hga
  have x5 := cell_of_row wa g 5 _ _ _ hga
  have x6 := cell_of_row wa g 6 _ _ _ hga
  have x7 := cell_of_row wa g 7 _ _ _ hga
  have RL := hrep.keep (w' := wa) (S' := fun b => b < wa.heap.size) (fun b hb' => hb.block b hb') (fun b hb' => by omega)
  obtain ⟨b, o, hsa⟩ : ∃ b o, sa = some ⟨b, o, none⟩ := by
    cases l with
    | nil => exact absurd hk (Nat.not_lt_zero _)
    | cons => obtain ⟨b, o, _, _, h, _⟩ := RL; exact ⟨b, o, h⟩
  obtain ⟨h1, h2, h3⟩ := hF.made
  obtain ⟨m, hm⟩ : ∃ m, m = (l.take k).app (l.drop (k + 1)) := ⟨_, rfl⟩
  rw [← hm] at h1 h2 h3
  have hml : m.len + 1 = l.len := by rw [hm, VL.len_app, take_vlen k l (by omega), VL.len_drop]; omega
  have IC := Lib.hid (delete_c l b o sc k m wa hm hk h1 (by omega) (by omega) h2 h3 hsc (by rw [hsa] at RL; exact RL))
  rw [← hsa] at IC
  rw [← hm]
  clear hm hF h1 h2 h3 hml hsa
  have hsz : l.len ≤ 100000 := by omega
  rw [hwa] at x3 x4 x5 x6 x7
  have HB := Lib.hid hb
  have HR := Lib.hid hR
  have HWA := Lib.hid hwa
  have k2 : ((0 : Int) < (2 : Int)) := by omega
  have qlistappend := nmF hnm [108, 105, 115, 116, 97, 112, 112, 101, 110, 100] (by decide)
  have qlistinsert := nmF hnm [108, 105, 115, 116, 105, 110, 115, 101, 114, 116] (by decide)
  have qlistdelete := nmT hnm
  clear hb hR hwa hnm hga hg RL hrep
  go_enter Tryz.func66, Tryz.ntmps66
  go_wp2_with fail
  rw [← HWA.out]
  refine IC.out.mono ?_
  rintro e w2 ⟨sb, cb, rfl, hcb, hrb, hb2⟩
  have LC := Lib.hid (flist_c m sb cb 0 w2 hcb)
  have h2z := hb2.size
  have HB2 := Lib.hid (HB.out.trans (below_le' hb2 HB.out.size))
  have HR2 := Lib.hid (HR.out.below hb2 (by omega))
  have HRB := Lib.hid hrb
  have HCB := Lib.hid hcb
  clear hb2 hrb IC hcb x3 x4 x5 x6 x7
  go_wp2_with fail
  refine LC.out.mono ?_
  rintro e w3 ⟨rfl, hb3⟩
  have h3z := hb3.size
  have hr5 := HR2.out.below hb3 (by omega)
  have z0 := hr5.c0; have z1 := hr5.c1; have z2 := hr5.c2; have z3 := hr5.c3; have f0 := hr5.fr 0; have f1 := hr5.fr 1; have f2 := hr5.fr 2; have f3 := hr5.fr 3
  have HF := Lib.hid (valC_end (w := w) (k := 4) (n := 0) (s := ⟨#[]⟩) 0 (Nat.le_refl _) (HB2.out.trans (below_le' hb3 (by omega))) hr5 HCB.out ((HRB.out.below hb3 (fun b hb => hb.2)).wide (fun b hb => ⟨by omega, by omega, by omega⟩)))
  clear hr5 hb3 LC HR2 HRB
  go_wp2_with fail
  refine ret_cell4_tmp Tryz.results66 w.heap.size rfl rfl HF.out.1 ?_
  exact HF.out.2
set_option maxRecDepth 100000 in
set_option maxHeartbeats 4000000 in
theorem lists_sort (l : VL) (sa : Option Addr) (sc : Nat) (g c : Nat) (w : World) (nm : ByteArray) (hnm : nm.data.toList = [115, 111, 114, 116]) (hc : 1 ≤ c) (hlm : l.len ≤ 1000)
    (hg : w.heap[g]? = some (.cells #[.int .i64 4, .int .i64 0, .string ⟨#[]⟩, .slice sa l.len sc] 24 (0, 0))) (hF : FitL l) (h0 : 0 < l.len) (hl : l.len < 40) (hsc : l.len ≤ sc) (hrep : RpL w (fun b => b < w.heap.size) l sa) :
    Calls Tryz.prog 66 #[.string nm, .slice (some ⟨g, 0, none⟩) 1 c] w (PValC w 4 0 ⟨#[]⟩ (sortV l) 0) := by
  have hgz : g < w.heap.size := (Array.getElem?_eq_some_iff.1 hg).1
  obtain ⟨wa, hwa⟩ : ∃ wa, wa = w.alloc (.cells #[.int .i64 0, .int .i64 0, .string ⟨#[]⟩, .slice none 0 0] 24) := ⟨_, rfl⟩
  have hb : Below w.heap.size w wa := by rw [hwa]; exact (Below.refl _ _).alloc (Nat.le_refl _) _
  have hza : wa.heap.size = w.heap.size + 1 := by rw [hwa]; simp
  have hR : StB wa w.heap.size (.int .i64 0) (.int .i64 0) (.string ⟨#[]⟩) (.slice none 0 0) := by rw [hwa]; exact StB.new w _ _ _ _
  have hga := (hb.block g hgz).trans hg
  have x3 := cell_of_row wa g 3 _ _ _ hga
  have RL := hrep.keep (w' := wa) (S' := fun b => b < wa.heap.size) (fun b hb' => hb.block b hb') (fun b hb' => by omega)
  have IC := Lib.hid (sort_r l sa sc wa hF hsc RL h0 hl)
  obtain ⟨m, hm⟩ : ∃ m, m = sortV l := ⟨_, rfl⟩
  rw [← hm] at IC ⊢
  clear hm hF
  have hsz : l.len ≤ 100000 := by omega
  rw [hwa] at x3
  have HB := Lib.hid hb
  have HR := Lib.hid hR
  have HWA := Lib.hid hwa
  have k2 : ((0 : Int) < (1 : Int)) := by omega
  have qlistappend := nmF hnm [108, 105, 115, 116, 97, 112, 112, 101, 110, 100] (by decide)
  have qlistinsert := nmF hnm [108, 105, 115, 116, 105, 110, 115, 101, 114, 116] (by decide)
  have qlistdelete := nmF hnm [108, 105, 115, 116, 100, 101, 108, 101, 116, 101] (by decide)
  have qlistset := nmF hnm [108, 105, 115, 116, 115, 101, 116] (by decide)
  have qsetadd := nmF hnm [115, 101, 116, 97, 100, 100] (by decide)
  have qsetremove := nmF hnm [115, 101, 116, 114, 101, 109, 111, 118, 101] (by decide)
  have qsort := nmT hnm
  clear hb hR hwa hnm hga hg RL hrep
  go_enter Tryz.func66, Tryz.ntmps66
  go_wp2_with fail
  rw [← HWA.out]
  refine IC.out.mono ?_
  rintro e w2 ⟨sb, cb, rfl, hcb, hrb, hb2⟩
  have LC := Lib.hid (flist_c m sb cb 0 w2 hcb)
  have h2z := hb2.size
  have HB2 := Lib.hid (HB.out.trans (below_le' hb2 HB.out.size))
  have HR2 := Lib.hid (HR.out.below hb2 (by omega))
  have HRB := Lib.hid hrb
  have HCB := Lib.hid hcb
  clear hb2 hrb IC hcb x3
  go_wp2_with fail
  refine LC.out.mono ?_
  rintro e w3 ⟨rfl, hb3⟩
  have h3z := hb3.size
  have hr5 := HR2.out.below hb3 (by omega)
  have z0 := hr5.c0; have z1 := hr5.c1; have z2 := hr5.c2; have z3 := hr5.c3; have f0 := hr5.fr 0; have f1 := hr5.fr 1; have f2 := hr5.fr 2; have f3 := hr5.fr 3
  have HF := Lib.hid (valC_end (w := w) (k := 4) (n := 0) (s := ⟨#[]⟩) 0 (Nat.le_refl _) (HB2.out.trans (below_le' hb3 (by omega))) hr5 HCB.out ((HRB.out.below hb3 (fun b hb => hb.2)).wide (fun b hb => ⟨by omega, by omega, by omega⟩)))
  clear hr5 hb3 LC HR2 HRB
  go_wp2_with fail
  refine ret_cell4_tmp Tryz.results66 w.heap.size rfl rfl HF.out.1 ?_
  exact HF.out.2
set_option maxRecDepth 100000 in
set_option maxHeartbeats 4000000 in
theorem lists_reverse (l : VL) (sa : Option Addr) (sc : Nat) (g c : Nat) (w : World) (nm : ByteArray) (hnm : nm.data.toList = [114, 101, 118, 101, 114, 115, 101]) (hc : 1 ≤ c) (hlm : l.len ≤ 1000)
    (hg : w.heap[g]? = some (.cells #[.int .i64 4, .int .i64 0, .string ⟨#[]⟩, .slice sa l.len sc] 24 (0, 0))) (hF : FitL l) (h0 : 0 < l.len) (hl : l.len < 40) (hsc : l.len ≤ sc) (hrep : RpL w (fun b => b < w.heap.size) l sa) :
    Calls Tryz.prog 66 #[.string nm, .slice (some ⟨g, 0, none⟩) 1 c] w (PValC w 4 0 ⟨#[]⟩ (turnV l) 0) := by
  have hgz : g < w.heap.size := (Array.getElem?_eq_some_iff.1 hg).1
  obtain ⟨wa, hwa⟩ : ∃ wa, wa = w.alloc (.cells #[.int .i64 0, .int .i64 0, .string ⟨#[]⟩, .slice none 0 0] 24) := ⟨_, rfl⟩
  have hb : Below w.heap.size w wa := by rw [hwa]; exact (Below.refl _ _).alloc (Nat.le_refl _) _
  have hza : wa.heap.size = w.heap.size + 1 := by rw [hwa]; simp
  have hR : StB wa w.heap.size (.int .i64 0) (.int .i64 0) (.string ⟨#[]⟩) (.slice none 0 0) := by rw [hwa]; exact StB.new w _ _ _ _
  have hga := (hb.block g hgz).trans hg
  have x3 := cell_of_row wa g 3 _ _ _ hga
  have RL := hrep.keep (w' := wa) (S' := fun b => b < wa.heap.size) (fun b hb' => hb.block b hb') (fun b hb' => by omega)
  have IC := Lib.hid (turn_r l sa sc wa hF hsc RL h0 hl)
  obtain ⟨m, hm⟩ : ∃ m, m = turnV l := ⟨_, rfl⟩
  rw [← hm] at IC ⊢
  clear hm hF
  have hsz : l.len ≤ 100000 := by omega
  rw [hwa] at x3
  have HB := Lib.hid hb
  have HR := Lib.hid hR
  have HWA := Lib.hid hwa
  have k2 : ((0 : Int) < (1 : Int)) := by omega
  have qlistappend := nmF hnm [108, 105, 115, 116, 97, 112, 112, 101, 110, 100] (by decide)
  have qlistinsert := nmF hnm [108, 105, 115, 116, 105, 110, 115, 101, 114, 116] (by decide)
  have qlistdelete := nmF hnm [108, 105, 115, 116, 100, 101, 108, 101, 116, 101] (by decide)
  have qlistset := nmF hnm [108, 105, 115, 116, 115, 101, 116] (by decide)
  have qsetadd := nmF hnm [115, 101, 116, 97, 100, 100] (by decide)
  have qsetremove := nmF hnm [115, 101, 116, 114, 101, 109, 111, 118, 101] (by decide)
  have qsort := nmF hnm [115, 111, 114, 116] (by decide)
  clear hb hR hwa hnm hga hg RL hrep
  go_enter Tryz.func66, Tryz.ntmps66
  go_wp2_with fail
  rw [← HWA.out]
  refine IC.out.mono ?_
  rintro e w2 ⟨sb, cb, rfl, hcb, hrb, hb2⟩
  have LC := Lib.hid (flist_c m sb cb 0 w2 hcb)
  have h2z := hb2.size
  have HB2 := Lib.hid (HB.out.trans (below_le' hb2 HB.out.size))
  have HR2 := Lib.hid (HR.out.below hb2 (by omega))
  have HRB := Lib.hid hrb
  have HCB := Lib.hid hcb
  clear hb2 hrb IC hcb x3
  go_wp2_with fail
  refine LC.out.mono ?_
  rintro e w3 ⟨rfl, hb3⟩
  have h3z := hb3.size
  have hr5 := HR2.out.below hb3 (by omega)
  have z0 := hr5.c0; have z1 := hr5.c1; have z2 := hr5.c2; have z3 := hr5.c3; have f0 := hr5.fr 0; have f1 := hr5.fr 1; have f2 := hr5.fr 2; have f3 := hr5.fr 3
  have HF := Lib.hid (valC_end (w := w) (k := 4) (n := 0) (s := ⟨#[]⟩) 0 (Nat.le_refl _) (HB2.out.trans (below_le' hb3 (by omega))) hr5 HCB.out ((HRB.out.below hb3 (fun b hb => hb.2)).wide (fun b hb => ⟨by omega, by omega, by omega⟩)))
  clear hr5 hb3 LC HR2 HRB
  go_wp2_with fail
  refine ret_cell4_tmp Tryz.results66 w.heap.size rfl rfl HF.out.1 ?_
  exact HF.out.2
set_option maxRecDepth 100000 in
set_option maxHeartbeats 4000000 in
theorem lists_set (l : VL) (sa : Option Addr) (sc : Nat) (k' n' : Int) (s' : ByteArray) (sub' : VL) (va : Option Addr) (vc : Nat) (k : Nat) (g c : Nat) (w : World) (nm : ByteArray) (hnm : nm.data.toList = [108, 105, 115, 116, 115, 101, 116]) (hc : 3 ≤ c) (hlm : l.len ≤ 1000)
    (hg : w.heap[g]? = some (.cells #[.int .i64 4, .int .i64 0, .string ⟨#[]⟩, .slice sa l.len sc, .int .i64 k', .int .i64 n', .string s', .slice va sub'.len vc, .int .i64 0, .int .i64 ((k : Int) + 1), .string ⟨#[]⟩, .slice none 0 0] 24 (0, 0))) (hF : FitL ((l.take k).app (.cons k' n' s' sub' (l.drop (k + 1))))) (hk : k < l.len) (hvc : sub'.len ≤ vc) (hrv : RpL w (fun b => b < w.heap.size) sub' va) (hsc : l.len ≤ sc) (hrep : RpL w (fun b => b < w.heap.size) l sa) :
    Calls Tryz.prog 66 #[.string nm, .slice (some ⟨g, 0, none⟩) 3 c] w (PValC w 4 0 ⟨#[]⟩ ((l.take k).app (.cons k' n' s' sub' (l.drop (k + 1)))) 0) := by
  have hgz : g < w.heap.size := (Array.getElem?_eq_some_iff.1 hg).1
  obtain ⟨wa, hwa⟩ : ∃ wa, wa = w.alloc (.cells #[.int .i64 0, .int .i64 0, .string ⟨#[]⟩, .slice none 0 0] 24) := ⟨_, rfl⟩
  have hb : Below w.heap.size w wa := by rw [hwa]; exact (Below.refl _ _).alloc (Nat.le_refl _) _
  have hza : wa.heap.size = w.heap.size + 1 := by rw [hwa]; simp
  have hR : StB wa w.heap.size (.int .i64 0) (.int .i64 0) (.string ⟨#[]⟩) (.slice none 0 0) := by rw [hwa]; exact StB.new w _ _ _ _
  have hga := (hb.block g hgz).trans hg
  have x3 := cell_of_row wa g 3 _ _ _ hga
  have x4 := cell_of_row wa g 4 _ _ _ hga
  have x5 := cell_of_row wa g 5 _ _ _ hga
  have x6 := cell_of_row wa g 6 _ _ _ hga
  have x7 := cell_of_row wa g 7 _ _ _ hga
  have x8 := cell_of_row wa g 8 _ _ _ hga
  have x9 := cell_of_row wa g 9 _ _ _ hga
  have x10 := cell_of_row wa g 10 _ _ _ hga
  have x11 := cell_of_row wa g 11 _ _ _ hga
  have RL := hrep.keep (w' := wa) (S' := fun b => b < wa.heap.size) (fun b hb' => hb.block b hb') (fun b hb' => by omega)
  have RV := hrv.keep (w' := wa.drew) (S' := fun b => b < wa.drew.heap.size) (fun b hb' => hb.block b hb') (fun b hb' => by show b < wa.heap.size; omega)
  obtain ⟨b, o, hsa⟩ : ∃ b o, sa = some ⟨b, o, none⟩ := by
    cases l with
    | nil => exact absurd hk (Nat.not_lt_zero _)
    | cons => obtain ⟨b, o, _, _, h, _⟩ := RL; exact ⟨b, o, h⟩
  obtain ⟨h1, h2, h3⟩ := hF.made
  obtain ⟨m, hm⟩ : ∃ m, m = (l.take k).app (.cons k' n' s' sub' (l.drop (k + 1))) := ⟨_, rfl⟩
  rw [← hm] at h1 h2 h3
  have IC := Lib.hid (seqPut_c l b o sc k' n' s' sub' va vc k m wa.drew hm hk h1 (by omega) h2 h3 hsc hvc (by rw [hsa] at RL; exact RL.keep (w := wa) (w' := wa.drew) (S' := fun b => b < wa.drew.heap.size) (fun _ _ => rfl) (fun _ h => h)) RV)
  rw [← hsa] at IC
  rw [← hm]
  have KS := Lib.hid (fun W (hW : Below wa.heap.size wa W) => (show W.cell? ⟨g, 4, none⟩ = some (.int .i64 k') ∧ W.cell? ⟨g, 5, none⟩ = some (.int .i64 n') ∧ W.cell? ⟨g, 6, none⟩ = some (.string s') ∧ W.cell? ⟨g, 7, none⟩ = some (.slice va sub'.len vc) ∧ W.cell? ⟨g, 9, none⟩ = some (.int .i64 ((k : Int) + 1)) from ⟨cell_below hW x4, cell_below hW x5, cell_below hW x6, cell_below hW x7, cell_below hW x9⟩))
  have hgn : g ≠ w.heap.size := by omega
  have hgn2 : w.heap.size ≠ g := by omega
  have hml : m.len ≤ 1000 := by rw [hm, VL.len_app, take_vlen k l (by omega)]; show k + ((l.drop (k + 1)).len + 1) ≤ 1000; rw [VL.len_drop]; omega
  clear RV hrv hm hF h1 h2 h3 hsa
  have hsz : l.len ≤ 100000 := by omega
  rw [hwa] at x3 x4 x5 x6 x7 x8 x9 x10 x11
  have HB := Lib.hid hb
  have HR := Lib.hid hR
  have HWA := Lib.hid hwa
  have k2 : ((0 : Int) < (3 : Int)) := by omega
  have qlistappend := nmF hnm [108, 105, 115, 116, 97, 112, 112, 101, 110, 100] (by decide)
  have qlistinsert := nmF hnm [108, 105, 115, 116, 105, 110, 115, 101, 114, 116] (by decide)
  have qlistdelete := nmF hnm [108, 105, 115, 116, 100, 101, 108, 101, 116, 101] (by decide)
  have qlistset := nmT hnm
  clear hb hR hwa hnm hga hg RL hrep
  go_enter Tryz.func66, Tryz.ntmps66
  go_upto_region 16 with fail
  rw [← HWA.out] at x4 x5 x6 x7 x9 ⊢
  go_region_held3 (fun W => W.cell? ⟨g, 4, none⟩ = some (.int .i64 k') ∧ W.cell? ⟨g, 5, none⟩ = some (.int .i64 n') ∧ W.cell? ⟨g, 6, none⟩ = some (.string s') ∧ W.cell? ⟨g, 7, none⟩ = some (.slice va sub'.len vc) ∧ W.cell? ⟨g, 9, none⟩ = some (.int .i64 ((k : Int) + 1)))
    (first | with_reducible assumption | go_keep | with_reducible exact KS.out _ (by assumption))
    (first
      | (go_at_call 103; refine IC.out.mono ?_; rintro e w2 ⟨sb, cb, rfl, hcb, hrb, hb2'⟩; have hb2 := (show Below wa.heap.size wa wa.drew from (Below.refl _ _).drew).trans hb2'; have HRB := Lib.hid hrb; have HCB := Lib.hid hcb; clear hb2' hrb hcb)
      | (go_at_call 63; refine (flist_c m _ _ 0 _ HCB.out).mono ?_; rintro e w3 ⟨rfl, hb3⟩; have hzd : wa.drew.heap.size = wa.heap.size := rfl; have h2z := hb2.size; have h3z := hb3.size; have hbb3 := hb2.trans (below_le' hb3 h2z); have hr5 := HR.out.below hbb3 (by omega); have z0 := hr5.c0; have z1 := hr5.c1; have z2 := hr5.c2; have z3 := hr5.c3; have f0 := hr5.fr 0; have f1 := hr5.fr 1; have f2 := hr5.fr 2; have f3 := hr5.fr 3; have HF := Lib.hid (valC_end (w := w) (k := 4) (n := 0) (s := ⟨#[]⟩) 0 (Nat.le_refl _) (HB.out.trans (below_le' hbb3 (by omega))) hr5 HCB.out ((HRB.out.below hb3 (fun b hb => hb.2)).wide (fun b hb => ⟨by omega, by omega, by omega⟩))); clear hr5 hb3 hb2))
  all_goals
    go_wp2_with fail
    refine ret_cell4_tmp Tryz.results66 w.heap.size rfl rfl HF.out.1 ?_
    exact HF.out.2
set_option maxRecDepth 100000 in
set_option maxHeartbeats 4000000 in
theorem call_length (l : VL) (sa : Option Addr) (sc : Nat) (g c : Nat) (w : World) (nm : ByteArray) (hnm : nm.data.toList = [108, 101, 110, 103, 116, 104]) (hc : 1 ≤ c) (hlm : l.len ≤ 1000)
    (hg : w.heap[g]? = some (.cells #[.int .i64 4, .int .i64 0, .string ⟨#[]⟩, .slice sa l.len sc] 24 (0, 0))) :
    Calls Tryz.prog 34 #[.string nm, .slice (some ⟨g, 0, none⟩) 1 c] w (PValC w 0 (l.len : Int) ⟨#[]⟩ .nil 0) := by
  have hgz : g < w.heap.size := (Array.getElem?_eq_some_iff.1 hg).1
  obtain ⟨wa, hwa⟩ : ∃ wa, wa = w.alloc (.cells #[.int .i64 0, .int .i64 0, .string ⟨#[]⟩, .slice none 0 0] 24) := ⟨_, rfl⟩
  have hb : Below w.heap.size w wa := by rw [hwa]; exact (Below.refl _ _).alloc (Nat.le_refl _) _
  have hza : wa.heap.size = w.heap.size + 1 := by rw [hwa]; simp
  have hR : StB wa w.heap.size (.int .i64 0) (.int .i64 0) (.string ⟨#[]⟩) (.slice none 0 0) := by rw [hwa]; exact StB.new w _ _ _ _
  have hga := (hb.block g hgz).trans hg
  have x2 := cell_of_row wa g 2 _ _ _ hga
  have x3 := cell_of_row wa g 3 _ _ _ hga
  have HB := Lib.hid hb
  have HR := Lib.hid hR
  have HWA := Lib.hid hwa
  have k2 : ((0 : Int) < (1 : Int)) := by omega
  have z0 : (⟨#[]⟩ : ByteArray).size = 0 := rfl
  have hadd : IntKind.i64.wrap ((0 : Int) + (l.len : Int)) = (l.len : Int) := by rw [Int.zero_add]; exact IntWalk.i64_in _ ⟨by omega, by omega⟩
  have qtypeof := nmF hnm [116, 121, 112, 101, 111, 102] (by decide)
  have qlength := nmT hnm
  clear hb hR hwa hnm hga hg
  go_enter Tryz.func34, Tryz.ntmps34
  go_wp2_with fail
  rw [← HWA.out]
  go_still_tail 11, (by kernel_rfl)
  change wpList _ _ _ _ _ wa.drew
  go_wp2_with fail
  refine (valI_c (l.len : Int) wa.drew).mono ?_
  rintro e w3 ⟨rfl, hw3⟩
  have hb3 : Below wa.heap.size wa w3 := by rw [← hw3]; exact ((Below.refl _ _).drew).alloc (Nat.le_refl _) _
  have hscZ : VL.nil.len ≤ 0 := Nat.le_refl _
  have HZ := Lib.hid (show Below wa.heap.size wa w3 ∧ RpL w3 (fun b => wa.heap.size ≤ b ∧ b < w3.heap.size) .nil none from ⟨hb3, trivial⟩)
  clear hb3 hw3
  have hr5 := HR.out.below HZ.out.1 (by omega)
  have z0 := hr5.c0; have z1 := hr5.c1; have z2 := hr5.c2; have z3 := hr5.c3; have f0 := hr5.fr 0; have f1 := hr5.fr 1; have f2 := hr5.fr 2; have f3 := hr5.fr 3
  have HF := Lib.hid (valC_end (w := w) (k := 0) (n := (l.len : Int)) (s := ⟨#[]⟩) 0 (Nat.le_refl _) (HB.out.trans (below_le' HZ.out.1 HB.out.size)) hr5 hscZ (HZ.out.2.wide (fun c hc => ⟨by omega, by omega, hc.2⟩)))
  clear hr5
  go_wp2_with fail
  refine ret_cell4_tmp Tryz.results34 w.heap.size rfl rfl HF.out.1 ?_
  exact HF.out.2
end Go.Proofs.YtbalpfpcbckghaaGreatDoor
namespace Go.Proofs.YtbalpfpcbckghaaGreatDoor
open Go.RowKit Go.Lib
set_option linter.unusedVariables false
set_option linter.unusedSimpArgs false

theorem listappend_facts : pureP [108, 105, 115, 116, 97, 112, 112, 101, 110, 100] = true ∧ argsP [108, 105, 115, 116, 97, 112, 112, 101, 110, 100] = ([108, 118, 63, 105], true) ∧ arityP [108, 105, 115, 116, 97, 112, 112, 101, 110, 100] = (2, 3) ∧ lettersP [108, 118, 63, 105] = [108, 118, 105] := by decide +kernel
theorem listappend_own : ∀ x ∈ ownNames, [108, 105, 115, 116, 97, 112, 112, 101, 110, 100] ≠ x := by decide +kernel
theorem listinsert_facts : pureP [108, 105, 115, 116, 105, 110, 115, 101, 114, 116] = true ∧ argsP [108, 105, 115, 116, 105, 110, 115, 101, 114, 116] = ([108, 118, 63, 105], true) ∧ arityP [108, 105, 115, 116, 105, 110, 115, 101, 114, 116] = (2, 3) ∧ lettersP [108, 118, 63, 105] = [108, 118, 105] := by decide +kernel
theorem listinsert_own : ∀ x ∈ ownNames, [108, 105, 115, 116, 105, 110, 115, 101, 114, 116] ≠ x := by decide +kernel
theorem listdelete_facts : pureP [108, 105, 115, 116, 100, 101, 108, 101, 116, 101] = true ∧ argsP [108, 105, 115, 116, 100, 101, 108, 101, 116, 101] = ([108, 105], true) ∧ arityP [108, 105, 115, 116, 100, 101, 108, 101, 116, 101] = (2, 2) ∧ lettersP [108, 105] = [108, 105] := by decide +kernel
theorem listdelete_own : ∀ x ∈ ownNames, [108, 105, 115, 116, 100, 101, 108, 101, 116, 101] ≠ x := by decide +kernel
theorem listset_facts : pureP [108, 105, 115, 116, 115, 101, 116] = true ∧ argsP [108, 105, 115, 116, 115, 101, 116] = ([108, 118, 105], true) ∧ arityP [108, 105, 115, 116, 115, 101, 116] = (3, 3) ∧ lettersP [108, 118, 105] = [108, 118, 105] := by decide +kernel
theorem listset_own : ∀ x ∈ ownNames, [108, 105, 115, 116, 115, 101, 116] ≠ x := by decide +kernel
theorem sort_facts : pureP [115, 111, 114, 116] = true ∧ argsP [115, 111, 114, 116] = ([108], true) ∧ arityP [115, 111, 114, 116] = (1, 1) ∧ lettersP [108] = [108] := by decide +kernel
theorem sort_own : ∀ x ∈ ownNames, [115, 111, 114, 116] ≠ x := by decide +kernel
theorem reverse_facts : pureP [114, 101, 118, 101, 114, 115, 101] = true ∧ argsP [114, 101, 118, 101, 114, 115, 101] = ([108], true) ∧ arityP [114, 101, 118, 101, 114, 115, 101] = (1, 1) ∧ lettersP [108] = [108] := by decide +kernel
theorem reverse_own : ∀ x ∈ ownNames, [114, 101, 118, 101, 114, 115, 101] ≠ x := by decide +kernel
theorem length_facts : pureP [108, 101, 110, 103, 116, 104] = true ∧ argsP [108, 101, 110, 103, 116, 104] = ([113], true) ∧ arityP [108, 101, 110, 103, 116, 104] = (1, 1) ∧ lettersP [113] = [113] := by decide +kernel
set_option maxRecDepth 100000 in
set_option maxHeartbeats 1000000 in
theorem callAppend (l : VL) (sa : Option Addr) (sc : Nat) (k' n' : Int) (s' : ByteArray) (sub' : VL) (va : Option Addr) (vc : Nat) (g : Nat) (ea : Nat → Addr) (w : World) (he : FnEnv w) (hea : ErrsAt w ea) (hlm : l.len ≤ 1000)
    (hg : w.heap[g]? = some (.cells #[.int .i64 4, .int .i64 0, .string ⟨#[]⟩, .slice sa l.len sc, .int .i64 k', .int .i64 n', .string s', .slice va sub'.len vc] 24 (0, 0))) (hF : FitL (l.app (.cons k' n' s' sub' .nil))) (hvc : sub'.len ≤ vc) (hA : (sa = none ∧ sc = 0) ∨ ∃ b o, sa = some ⟨b, o, none⟩) (hrv : RpL w (fun b => b < w.heap.size) sub' va) (hsc : l.len ≤ sc) (hrep : RpL w (fun b => b < w.heap.size) l sa) :
    Calls Tryz.prog 14 #[.string ⟨#[108, 105, 115, 116, 97, 112, 112, 101, 110, 100]⟩, .slice (some ⟨g, 0, none⟩) 2 2] w (PValC w 4 0 ⟨#[]⟩ (l.app (.cons k' n' s' sub' .nil)) 0) := by
  have hgz : g < w.heap.size := (Array.getElem?_eq_some_iff.1 hg).1
  have hrp : RpL w (fun b => b < w.heap.size) (.cons 4 0 ⟨#[]⟩ l (.cons k' n' s' sub' .nil)) (some ⟨g, 0, none⟩) := ⟨g, 0, sa, sc, rfl, hgz, cell_of_row w g 0 _ _ _ hg, cell_of_row w g 1 _ _ _ hg, cell_of_row w g 2 _ _ _ hg, cell_of_row w g 3 _ _ _ hg, hsc, hrep, ⟨g, 0 + 4, va, vc, rfl, hgz, cell_of_row w g 4 _ _ _ hg, cell_of_row w g 5 _ _ _ hg, cell_of_row w g 6 _ _ _ hg, cell_of_row w g 7 _ _ _ hg, hvc, hrv, trivial⟩⟩
  have hF' : FitL (l.app (.cons k' n' s' sub' .nil)) := hF
  obtain ⟨h1, h2, h3⟩ := hF'.made
  refine Call_good ⟨#[108, 105, 115, 116, 97, 112, 112, 101, 110, 100]⟩ (.cons 4 0 ⟨#[]⟩ l (.cons k' n' s' sub' .nil)) (some ⟨g, 0, none⟩) 2 4 0 ⟨#[]⟩ (l.app (.cons k' n' s' sub' .nil)) ea w he hea (by show 2 ≤ 2; omega) (by show 2 ≤ 100000; omega) hrp listappend_facts.1
    (by rw [show (⟨#[108, 105, 115, 116, 97, 112, 112, 101, 110, 100]⟩ : ByteArray).data.toList = [108, 105, 115, 116, 97, 112, 112, 101, 110, 100] from rfl, fits_of listappend_facts.2.1 listappend_facts.2.2.1 (by show ¬ ((2 : Nat) : Int) < 2; decide) (by show ¬ (0 ≤ (3 : Int) ∧ (3 : Int) < ((2 : Nat) : Int)); decide), listappend_facts.2.2.2]; first | rfl | (rw [kindsP_cons]; rfl) | (unfold kindsP kindB; rfl) | simp [kindsP, kindB])
    (by decide) (by have := len_costI (l.app (.cons k' n' s' sub' .nil)); omega) (fit_cost _ hF'.own h1) h1 hF'.right ?_
  intro W hW hr
  have hWz := hW.size
  refine call_lists _ [108, 105, 115, 116, 97, 112, 112, 101, 110, 100] rfl listappend_own g 2 2 4 0 ⟨#[]⟩ _ W (by omega) (by omega) (by omega) (by omega) (cell_of_row W g 0 _ _ _ ((hW.block g hgz).trans hg)) fun W' hW' => ?_
  have hB := hW.trans (below_le' hW' hWz)
  have hBz := hB.size
  have hg' := (hB.block g hgz).trans hg
  have hr' := hrep.keep (w' := W') (S' := fun b => b < W'.heap.size) (fun b hb => hB.block b hb) (fun b hb => by omega)
  have hv' := hrv.keep (w' := W') (S' := fun b => b < W'.heap.size) (fun b hb => hB.block b hb) (fun b hb => by omega)
  exact lists_append l sa sc k' n' s' sub' va vc g 2 W' _ rfl (by omega) hlm hg' hF hvc hA hv' hsc hr'
set_option maxRecDepth 100000 in
set_option maxHeartbeats 1000000 in
theorem callInsert (l : VL) (sa : Option Addr) (sc : Nat) (k' n' : Int) (s' : ByteArray) (sub' : VL) (va : Option Addr) (vc : Nat) (g : Nat) (ea : Nat → Addr) (w : World) (he : FnEnv w) (hea : ErrsAt w ea) (hlm : l.len ≤ 1000)
    (hg : w.heap[g]? = some (.cells #[.int .i64 4, .int .i64 0, .string ⟨#[]⟩, .slice sa l.len sc, .int .i64 k', .int .i64 n', .string s', .slice va sub'.len vc] 24 (0, 0))) (hF : FitL (l.app (.cons k' n' s' sub' .nil))) (hvc : sub'.len ≤ vc) (hA : (sa = none ∧ sc = 0) ∨ ∃ b o, sa = some ⟨b, o, none⟩) (hrv : RpL w (fun b => b < w.heap.size) sub' va) (hsc : l.len ≤ sc) (hrep : RpL w (fun b => b < w.heap.size) l sa) :
    Calls Tryz.prog 14 #[.string ⟨#[108, 105, 115, 116, 105, 110, 115, 101, 114, 116]⟩, .slice (some ⟨g, 0, none⟩) 2 2] w (PValC w 4 0 ⟨#[]⟩ (VL.cons k' n' s' sub' l) 0) := by
  have hgz : g < w.heap.size := (Array.getElem?_eq_some_iff.1 hg).1
  have hrp : RpL w (fun b => b < w.heap.size) (.cons 4 0 ⟨#[]⟩ l (.cons k' n' s' sub' .nil)) (some ⟨g, 0, none⟩) := ⟨g, 0, sa, sc, rfl, hgz, cell_of_row w g 0 _ _ _ hg, cell_of_row w g 1 _ _ _ hg, cell_of_row w g 2 _ _ _ hg, cell_of_row w g 3 _ _ _ hg, hsc, hrep, ⟨g, 0 + 4, va, vc, rfl, hgz, cell_of_row w g 4 _ _ _ hg, cell_of_row w g 5 _ _ _ hg, cell_of_row w g 6 _ _ _ hg, cell_of_row w g 7 _ _ _ hg, hvc, hrv, trivial⟩⟩
  have hF' : FitL (VL.cons k' n' s' sub' l) := hF.ins
  obtain ⟨h1, h2, h3⟩ := hF'.made
  refine Call_good ⟨#[108, 105, 115, 116, 105, 110, 115, 101, 114, 116]⟩ (.cons 4 0 ⟨#[]⟩ l (.cons k' n' s' sub' .nil)) (some ⟨g, 0, none⟩) 2 4 0 ⟨#[]⟩ (VL.cons k' n' s' sub' l) ea w he hea (by show 2 ≤ 2; omega) (by show 2 ≤ 100000; omega) hrp listinsert_facts.1
    (by rw [show (⟨#[108, 105, 115, 116, 105, 110, 115, 101, 114, 116]⟩ : ByteArray).data.toList = [108, 105, 115, 116, 105, 110, 115, 101, 114, 116] from rfl, fits_of listinsert_facts.2.1 listinsert_facts.2.2.1 (by show ¬ ((2 : Nat) : Int) < 2; decide) (by show ¬ (0 ≤ (3 : Int) ∧ (3 : Int) < ((2 : Nat) : Int)); decide), listinsert_facts.2.2.2]; first | rfl | (rw [kindsP_cons]; rfl) | (unfold kindsP kindB; rfl) | simp [kindsP, kindB])
    (by decide) (by have := len_costI (VL.cons k' n' s' sub' l); omega) (fit_cost _ hF'.own h1) h1 hF'.right ?_
  intro W hW hr
  have hWz := hW.size
  refine call_lists _ [108, 105, 115, 116, 105, 110, 115, 101, 114, 116] rfl listinsert_own g 2 2 4 0 ⟨#[]⟩ _ W (by omega) (by omega) (by omega) (by omega) (cell_of_row W g 0 _ _ _ ((hW.block g hgz).trans hg)) fun W' hW' => ?_
  have hB := hW.trans (below_le' hW' hWz)
  have hBz := hB.size
  have hg' := (hB.block g hgz).trans hg
  have hr' := hrep.keep (w' := W') (S' := fun b => b < W'.heap.size) (fun b hb => hB.block b hb) (fun b hb => by omega)
  have hv' := hrv.keep (w' := W') (S' := fun b => b < W'.heap.size) (fun b hb => hB.block b hb) (fun b hb => by omega)
  exact lists_insert l sa sc k' n' s' sub' va vc g 2 W' _ rfl (by omega) hlm hg' hF hvc hA hv' hsc hr'
set_option maxRecDepth 100000 in
set_option maxHeartbeats 1000000 in
theorem callDelete (l : VL) (sa : Option Addr) (sc : Nat) (k : Nat) (g : Nat) (ea : Nat → Addr) (w : World) (he : FnEnv w) (hea : ErrsAt w ea) (hlm : l.len ≤ 1000)
    (hg : w.heap[g]? = some (.cells #[.int .i64 4, .int .i64 0, .string ⟨#[]⟩, .slice sa l.len sc, .int .i64 0, .int .i64 ((k : Int) + 1), .string ⟨#[]⟩, .slice none 0 0] 24 (0, 0))) (hF : FitL ((l.take k).app (l.drop (k + 1)))) (hk : k < l.len) (hsc : l.len ≤ sc) (hrep : RpL w (fun b => b < w.heap.size) l sa) :
    Calls Tryz.prog 14 #[.string ⟨#[108, 105, 115, 116, 100, 101, 108, 101, 116, 101]⟩, .slice (some ⟨g, 0, none⟩) 2 2] w (PValC w 4 0 ⟨#[]⟩ ((l.take k).app (l.drop (k + 1))) 0) := by
  have hgz : g < w.heap.size := (Array.getElem?_eq_some_iff.1 hg).1
  have hrp : RpL w (fun b => b < w.heap.size) (.cons 4 0 ⟨#[]⟩ l (.cons 0 ((k : Int) + 1) ⟨#[]⟩ .nil .nil)) (some ⟨g, 0, none⟩) := ⟨g, 0, sa, sc, rfl, hgz, cell_of_row w g 0 _ _ _ hg, cell_of_row w g 1 _ _ _ hg, cell_of_row w g 2 _ _ _ hg, cell_of_row w g 3 _ _ _ hg, hsc, hrep, ⟨g, 0 + 4, none, 0, rfl, hgz, cell_of_row w g 4 _ _ _ hg, cell_of_row w g 5 _ _ _ hg, cell_of_row w g 6 _ _ _ hg, cell_of_row w g 7 _ _ _ hg, Nat.le_refl _, trivial, trivial⟩⟩
  have hF' : FitL ((l.take k).app (l.drop (k + 1))) := hF
  obtain ⟨h1, h2, h3⟩ := hF'.made
  refine Call_good ⟨#[108, 105, 115, 116, 100, 101, 108, 101, 116, 101]⟩ (.cons 4 0 ⟨#[]⟩ l (.cons 0 ((k : Int) + 1) ⟨#[]⟩ .nil .nil)) (some ⟨g, 0, none⟩) 2 4 0 ⟨#[]⟩ ((l.take k).app (l.drop (k + 1))) ea w he hea (by show 2 ≤ 2; omega) (by show 2 ≤ 100000; omega) hrp listdelete_facts.1
    (by rw [show (⟨#[108, 105, 115, 116, 100, 101, 108, 101, 116, 101]⟩ : ByteArray).data.toList = [108, 105, 115, 116, 100, 101, 108, 101, 116, 101] from rfl, fits_of listdelete_facts.2.1 listdelete_facts.2.2.1 (by show ¬ ((2 : Nat) : Int) < 2; decide) (by show ¬ (0 ≤ (2 : Int) ∧ (2 : Int) < ((2 : Nat) : Int)); decide), listdelete_facts.2.2.2]; first | rfl | (rw [kindsP_cons]; rfl) | (unfold kindsP kindB; rfl) | simp [kindsP, kindB])
    (by decide) (by have := len_costI ((l.take k).app (l.drop (k + 1))); omega) (fit_cost _ hF'.own h1) h1 hF'.right ?_
  intro W hW hr
  have hWz := hW.size
  refine call_lists _ [108, 105, 115, 116, 100, 101, 108, 101, 116, 101] rfl listdelete_own g 2 2 4 0 ⟨#[]⟩ _ W (by omega) (by omega) (by omega) (by omega) (cell_of_row W g 0 _ _ _ ((hW.block g hgz).trans hg)) fun W' hW' => ?_
  have hB := hW.trans (below_le' hW' hWz)
  have hBz := hB.size
  have hg' := (hB.block g hgz).trans hg
  have hr' := hrep.keep (w' := W') (S' := fun b => b < W'.heap.size) (fun b hb => hB.block b hb) (fun b hb => by omega)
  exact lists_delete l sa sc k g 2 W' _ rfl (by omega) hlm hg' hF hk hsc hr'
set_option maxRecDepth 100000 in
set_option maxHeartbeats 1000000 in
theorem callSet (l : VL) (sa : Option Addr) (sc : Nat) (k' n' : Int) (s' : ByteArray) (sub' : VL) (va : Option Addr) (vc : Nat) (k : Nat) (g : Nat) (ea : Nat → Addr) (w : World) (he : FnEnv w) (hea : ErrsAt w ea) (hlm : l.len ≤ 1000)
    (hg : w.heap[g]? = some (.cells #[.int .i64 4, .int .i64 0, .string ⟨#[]⟩, .slice sa l.len sc, .int .i64 k', .int .i64 n', .string s', .slice va sub'.len vc, .int .i64 0, .int .i64 ((k : Int) + 1), .string ⟨#[]⟩, .slice none 0 0] 24 (0, 0))) (hF : FitL ((l.take k).app (.cons k' n' s' sub' (l.drop (k + 1))))) (hk : k < l.len) (hvc : sub'.len ≤ vc) (hrv : RpL w (fun b => b < w.heap.size) sub' va) (hsc : l.len ≤ sc) (hrep : RpL w (fun b => b < w.heap.size) l sa) :
    Calls Tryz.prog 14 #[.string ⟨#[108, 105, 115, 116, 115, 101, 116]⟩, .slice (some ⟨g, 0, none⟩) 3 3] w (PValC w 4 0 ⟨#[]⟩ ((l.take k).app (.cons k' n' s' sub' (l.drop (k + 1)))) 0) := by
  have hgz : g < w.heap.size := (Array.getElem?_eq_some_iff.1 hg).1
  have hrp : RpL w (fun b => b < w.heap.size) (.cons 4 0 ⟨#[]⟩ l (.cons k' n' s' sub' (.cons 0 ((k : Int) + 1) ⟨#[]⟩ .nil .nil))) (some ⟨g, 0, none⟩) := ⟨g, 0, sa, sc, rfl, hgz, cell_of_row w g 0 _ _ _ hg, cell_of_row w g 1 _ _ _ hg, cell_of_row w g 2 _ _ _ hg, cell_of_row w g 3 _ _ _ hg, hsc, hrep, ⟨g, 0 + 4, va, vc, rfl, hgz, cell_of_row w g 4 _ _ _ hg, cell_of_row w g 5 _ _ _ hg, cell_of_row w g 6 _ _ _ hg, cell_of_row w g 7 _ _ _ hg, hvc, hrv, ⟨g, 0 + 4 + 4, none, 0, rfl, hgz, cell_of_row w g 8 _ _ _ hg, cell_of_row w g 9 _ _ _ hg, cell_of_row w g 10 _ _ _ hg, cell_of_row w g 11 _ _ _ hg, Nat.le_refl _, trivial, trivial⟩⟩⟩
  have hF' : FitL ((l.take k).app (.cons k' n' s' sub' (l.drop (k + 1)))) := hF
  obtain ⟨h1, h2, h3⟩ := hF'.made
  refine Call_good ⟨#[108, 105, 115, 116, 115, 101, 116]⟩ (.cons 4 0 ⟨#[]⟩ l (.cons k' n' s' sub' (.cons 0 ((k : Int) + 1) ⟨#[]⟩ .nil .nil))) (some ⟨g, 0, none⟩) 3 4 0 ⟨#[]⟩ ((l.take k).app (.cons k' n' s' sub' (l.drop (k + 1)))) ea w he hea (by show 3 ≤ 3; omega) (by show 3 ≤ 100000; omega) hrp listset_facts.1
    (by rw [show (⟨#[108, 105, 115, 116, 115, 101, 116]⟩ : ByteArray).data.toList = [108, 105, 115, 116, 115, 101, 116] from rfl, fits_of listset_facts.2.1 listset_facts.2.2.1 (by show ¬ ((3 : Nat) : Int) < 3; decide) (by show ¬ (0 ≤ (3 : Int) ∧ (3 : Int) < ((3 : Nat) : Int)); decide), listset_facts.2.2.2]; first | rfl | (rw [kindsP_cons]; rfl) | (unfold kindsP kindB; rfl) | simp [kindsP, kindB])
    (by decide) (by have := len_costI ((l.take k).app (.cons k' n' s' sub' (l.drop (k + 1)))); omega) (fit_cost _ hF'.own h1) h1 hF'.right ?_
  intro W hW hr
  have hWz := hW.size
  refine call_lists _ [108, 105, 115, 116, 115, 101, 116] rfl listset_own g 3 3 4 0 ⟨#[]⟩ _ W (by omega) (by omega) (by omega) (by omega) (cell_of_row W g 0 _ _ _ ((hW.block g hgz).trans hg)) fun W' hW' => ?_
  have hB := hW.trans (below_le' hW' hWz)
  have hBz := hB.size
  have hg' := (hB.block g hgz).trans hg
  have hr' := hrep.keep (w' := W') (S' := fun b => b < W'.heap.size) (fun b hb => hB.block b hb) (fun b hb => by omega)
  have hv' := hrv.keep (w' := W') (S' := fun b => b < W'.heap.size) (fun b hb => hB.block b hb) (fun b hb => by omega)
  exact lists_set l sa sc k' n' s' sub' va vc k g 3 W' _ rfl (by omega) hlm hg' hF hk hvc hv' hsc hr'
set_option maxRecDepth 100000 in
set_option maxHeartbeats 1000000 in
theorem callSort (l : VL) (sa : Option Addr) (sc : Nat) (g : Nat) (ea : Nat → Addr) (w : World) (he : FnEnv w) (hea : ErrsAt w ea) (hlm : l.len ≤ 1000)
    (hg : w.heap[g]? = some (.cells #[.int .i64 4, .int .i64 0, .string ⟨#[]⟩, .slice sa l.len sc] 24 (0, 0))) (hF : FitL l) (h0 : 0 < l.len) (hl : l.len < 40) (hsc : l.len ≤ sc) (hrep : RpL w (fun b => b < w.heap.size) l sa) :
    Calls Tryz.prog 14 #[.string ⟨#[115, 111, 114, 116]⟩, .slice (some ⟨g, 0, none⟩) 1 1] w (PValC w 4 0 ⟨#[]⟩ (sortV l) 0) := by
  have hgz : g < w.heap.size := (Array.getElem?_eq_some_iff.1 hg).1
  have hrp : RpL w (fun b => b < w.heap.size) (.cons 4 0 ⟨#[]⟩ l .nil) (some ⟨g, 0, none⟩) := ⟨g, 0, sa, sc, rfl, hgz, cell_of_row w g 0 _ _ _ hg, cell_of_row w g 1 _ _ _ hg, cell_of_row w g 2 _ _ _ hg, cell_of_row w g 3 _ _ _ hg, hsc, hrep, trivial⟩
  have hF' : FitL (sortV l) := hF.sort
  obtain ⟨h1, h2, h3⟩ := hF'.made
  refine Call_good ⟨#[115, 111, 114, 116]⟩ (.cons 4 0 ⟨#[]⟩ l .nil) (some ⟨g, 0, none⟩) 1 4 0 ⟨#[]⟩ (sortV l) ea w he hea (by show 1 ≤ 1; omega) (by show 1 ≤ 100000; omega) hrp sort_facts.1
    (by rw [show (⟨#[115, 111, 114, 116]⟩ : ByteArray).data.toList = [115, 111, 114, 116] from rfl, fits_of sort_facts.2.1 sort_facts.2.2.1 (by show ¬ ((1 : Nat) : Int) < 1; decide) (by show ¬ (0 ≤ (1 : Int) ∧ (1 : Int) < ((1 : Nat) : Int)); decide), sort_facts.2.2.2]; first | rfl | (rw [kindsP_cons]; rfl) | (unfold kindsP kindB; rfl) | simp [kindsP, kindB])
    (by decide) (by have := len_costI (sortV l); omega) (fit_cost _ hF'.own h1) h1 hF'.right ?_
  intro W hW hr
  have hWz := hW.size
  refine call_lists _ [115, 111, 114, 116] rfl sort_own g 1 1 4 0 ⟨#[]⟩ _ W (by omega) (by omega) (by omega) (by omega) (cell_of_row W g 0 _ _ _ ((hW.block g hgz).trans hg)) fun W' hW' => ?_
  have hB := hW.trans (below_le' hW' hWz)
  have hBz := hB.size
  have hg' := (hB.block g hgz).trans hg
  have hr' := hrep.keep (w' := W') (S' := fun b => b < W'.heap.size) (fun b hb => hB.block b hb) (fun b hb => by omega)
  exact lists_sort l sa sc g 1 W' _ rfl (by omega) hlm hg' hF h0 hl hsc hr'
set_option maxRecDepth 100000 in
set_option maxHeartbeats 1000000 in
theorem callReverse (l : VL) (sa : Option Addr) (sc : Nat) (g : Nat) (ea : Nat → Addr) (w : World) (he : FnEnv w) (hea : ErrsAt w ea) (hlm : l.len ≤ 1000)
    (hg : w.heap[g]? = some (.cells #[.int .i64 4, .int .i64 0, .string ⟨#[]⟩, .slice sa l.len sc] 24 (0, 0))) (hF : FitL l) (h0 : 0 < l.len) (hl : l.len < 40) (hsc : l.len ≤ sc) (hrep : RpL w (fun b => b < w.heap.size) l sa) :
    Calls Tryz.prog 14 #[.string ⟨#[114, 101, 118, 101, 114, 115, 101]⟩, .slice (some ⟨g, 0, none⟩) 1 1] w (PValC w 4 0 ⟨#[]⟩ (turnV l) 0) := by
  have hgz : g < w.heap.size := (Array.getElem?_eq_some_iff.1 hg).1
  have hrp : RpL w (fun b => b < w.heap.size) (.cons 4 0 ⟨#[]⟩ l .nil) (some ⟨g, 0, none⟩) := ⟨g, 0, sa, sc, rfl, hgz, cell_of_row w g 0 _ _ _ hg, cell_of_row w g 1 _ _ _ hg, cell_of_row w g 2 _ _ _ hg, cell_of_row w g 3 _ _ _ hg, hsc, hrep, trivial⟩
  have hF' : FitL (turnV l) := hF.turn
  obtain ⟨h1, h2, h3⟩ := hF'.made
  refine Call_good ⟨#[114, 101, 118, 101, 114, 115, 101]⟩ (.cons 4 0 ⟨#[]⟩ l .nil) (some ⟨g, 0, none⟩) 1 4 0 ⟨#[]⟩ (turnV l) ea w he hea (by show 1 ≤ 1; omega) (by show 1 ≤ 100000; omega) hrp reverse_facts.1
    (by rw [show (⟨#[114, 101, 118, 101, 114, 115, 101]⟩ : ByteArray).data.toList = [114, 101, 118, 101, 114, 115, 101] from rfl, fits_of reverse_facts.2.1 reverse_facts.2.2.1 (by show ¬ ((1 : Nat) : Int) < 1; decide) (by show ¬ (0 ≤ (1 : Int) ∧ (1 : Int) < ((1 : Nat) : Int)); decide), reverse_facts.2.2.2]; first | rfl | (rw [kindsP_cons]; rfl) | (unfold kindsP kindB; rfl) | simp [kindsP, kindB])
    (by decide) (by have := len_costI (turnV l); omega) (fit_cost _ hF'.own h1) h1 hF'.right ?_
  intro W hW hr
  have hWz := hW.size
  refine call_lists _ [114, 101, 118, 101, 114, 115, 101] rfl reverse_own g 1 1 4 0 ⟨#[]⟩ _ W (by omega) (by omega) (by omega) (by omega) (cell_of_row W g 0 _ _ _ ((hW.block g hgz).trans hg)) fun W' hW' => ?_
  have hB := hW.trans (below_le' hW' hWz)
  have hBz := hB.size
  have hg' := (hB.block g hgz).trans hg
  have hr' := hrep.keep (w' := W') (S' := fun b => b < W'.heap.size) (fun b hb => hB.block b hb) (fun b hb => by omega)
  exact lists_reverse l sa sc g 1 W' _ rfl (by omega) hlm hg' hF h0 hl hsc hr'
set_option maxHeartbeats 1000000 in
theorem callLength (l : VL) (sa : Option Addr) (sc : Nat) (g : Nat) (ea : Nat → Addr) (w : World) (he : FnEnv w) (hea : ErrsAt w ea) (hlm : l.len ≤ 1000)
    (hg : w.heap[g]? = some (.cells #[.int .i64 4, .int .i64 0, .string ⟨#[]⟩, .slice sa l.len sc] 24 (0, 0))) (hsc : l.len ≤ sc) (hrep : RpL w (fun b => b < w.heap.size) l sa) :
    Calls Tryz.prog 14 #[.string ⟨#[108, 101, 110, 103, 116, 104]⟩, .slice (some ⟨g, 0, none⟩) 1 1] w (PValC w 0 (l.len : Int) ⟨#[]⟩ .nil 0) := by
  have hgz : g < w.heap.size := (Array.getElem?_eq_some_iff.1 hg).1
  have hrp : RpL w (fun b => b < w.heap.size) (.cons 4 0 ⟨#[]⟩ l .nil) (some ⟨g, 0, none⟩) := ⟨g, 0, sa, sc, rfl, hgz, cell_of_row w g 0 _ _ _ hg, cell_of_row w g 1 _ _ _ hg, cell_of_row w g 2 _ _ _ hg, cell_of_row w g 3 _ _ _ hg, hsc, hrep, trivial⟩
  refine Call_good ⟨#[108, 101, 110, 103, 116, 104]⟩ (.cons 4 0 ⟨#[]⟩ l .nil) (some ⟨g, 0, none⟩) 1 0 (l.len : Int) ⟨#[]⟩ .nil ea w he hea (by show 1 ≤ 1; omega) (by show 1 ≤ 100000; omega) hrp length_facts.1
    (by rw [show (⟨#[108, 101, 110, 103, 116, 104]⟩ : ByteArray).data.toList = [108, 101, 110, 103, 116, 104] from rfl, fits_of length_facts.2.1 length_facts.2.2.1 (by show ¬ ((1 : Nat) : Int) < 1; decide) (by show ¬ (0 ≤ (1 : Int) ∧ (1 : Int) < ((1 : Nat) : Int)); decide), length_facts.2.2.2]; first | rfl | (rw [kindsP_cons]; rfl) | (unfold kindsP kindB; rfl) | simp [kindsP, kindB])
    (by decide) (by decide) trivial (by decide) (num_walk _) ?_
  intro W hW hr
  exact call_length l sa sc g 1 W _ rfl (by omega) hlm ((hW.block g hgz).trans hg)
end Go.Proofs.YtbalpfpcbckghaaGreatDoor
