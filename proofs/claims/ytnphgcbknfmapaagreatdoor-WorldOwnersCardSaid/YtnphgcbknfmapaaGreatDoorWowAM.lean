/- Contracts of the functions that the statement reaches, and the plain mathematics beneath: several texts joined. -/
import Derived.Test.YtnphgcbknfmapaaGreatDoorWowAI
import Derived.Test.YtnphgcbknfmapaaGreatDoorWowAH
import Derived.Test.YtnphgcbknfmapaaGreatDoorWowAK
namespace Go.Proofs.YtnphgcbknfmapaaGreatDoor
open Go.RowKit Go.Lib
set_option linter.unusedVariables false
set_option linter.unusedSimpArgs false
def LyQ (wr : World) (B : Nat) (y : OM) (gs : Nat) (t f : SL) (wx : World) : Prop :=
  ∃ g9 cap wb w9, Below wr.heap.size wr wb ∧ wb.grownBy w9 (some gs) ∧ (g9 = gs ∨ g9 = wb.heap.size) ∧ w9.ownsRow B 35 8 (.slice (some ⟨g9, 0, none⟩) 2 cap) 2 (t.cells ++ f.cells) ∧ wx = w9.setCell ⟨y.g, 8, none⟩ (.slice (some ⟨g9, 0, none⟩) 2 cap)
section
variable {w : World} {B a m : Nat} {T : List OM} {mx o : Int} {x : OM}
set_option maxHeartbeats 4000000 in
set_option maxRecDepth 100000 in
theorem add_one (h : TS w B a m T mx) (ho : I64 o) (hx : findT T o = some x) (n : ByteArray) (ow bits v : Int) (hn : n.size ≤ 140737488351232) (hb : nmB n.data.toList = true) (hi : biB n = false) (hs : slotI x.o.slots n = none)
    {r : List Int} (hrq : r = [o]) (hr : belowO (obT T) o = some r) {t : SL} {gs cs : Nat} (hsl : x.o.slots = [t]) (hsv : x.sv = .slice (some ⟨gs, 0, none⟩) 1 cs) (hfl : FlatS ⟨n, ow, bits, false, 0, v, ⟨#[]⟩⟩)
    (how : I64 ow) (hoh : hasO (obT T) ow = true) (hb0' : 0 ≤ bits) (hb7' : bits ≤ 7) (hdf : x.o.defs = []) (hdv : x.dv = .slice none 0 0)
    (hso : ∀ (b c : Nat) (W : World), 2 ≤ c → W.ownsRow B 35 8 (.slice (some ⟨b, 0, none⟩) 2 c) 2 ([t, ⟨n, ow, bits, false, 0, v, ⟨#[]⟩⟩].flatMap SL.cells) → Calls Tryz.prog 68 #[.slice (some ⟨b, 0, none⟩) 2 c] W fun e w' => e = .returned (.tuple #[]) ∧ Swp W b ⟨n, ow, bits, false, 0, v, ⟨#[]⟩⟩ t w') :
    Calls Tryz.prog 26 #[.pointer (some ⟨a, 0, none⟩), .int .i64 o, addV n ow bits v] w fun e w' => e = .returned (.int .i64 0) ∧ ∃ T', StS w w' B a m T T' mx mx ∧ obT T' = repO (repO (obT T) o { x.o with defs := [n] }) o { x.o with defs := [n], slots := [⟨n, ow, bits, false, 0, v, ⟨#[]⟩⟩, t] } := by
  obtain ⟨f, hfq⟩ : ∃ f : SL, f = ⟨n, ow, bits, false, 0, v, ⟨#[]⟩⟩ := ⟨_, rfl⟩
  rw [← hfq] at hfl hso ⊢
  have HFE := Lib.hid hfq
  have HFLX := Lib.hid hfl
  have HSO := Lib.hid hso
  have HNO := Lib.hid (fun d (hd : d ∈ r) y (hy : findT T d = some y) => (show slotI y.o.slots n = none from by
    rw [hrq, List.mem_singleton] at hd
    rw [hd, hx] at hy
    injection hy with hy
    rw [← hy]
    exact hs))
  have hri : ∀ d ∈ r, I64 d := by intro d hd; rw [hrq, List.mem_singleton] at hd; rw [hd]; exact ho
  have hrl : r.length ≤ 1000000 := by rw [hrq]; simp
  have hT : ∀ d ∈ r, ∃ y, findT T d = some y := by intro d hd; rw [hrq, List.mem_singleton] at hd; rw [hd]; exact ⟨x, hx⟩
  have HSV := Lib.hid hsv
  have HSL := Lib.hid hsl
  have HLEN := Lib.hid (show r.length = 1 from by rw [hrq]; rfl)
  have HR0 := Lib.hid (show r[0]? = some o from by rw [hrq]; rfl)
  have HDF := Lib.hid hdf
  have HDV := Lib.hid hdv
  have HO := Lib.hid ho
  have HXM := Lib.hid (findT_some hx).1
  have HFX := Lib.hid hx
  clear hsv hsl hdf hdv hfq hfl hso hrq
  unfold addV
  have hb0 : Below w.heap.size w (w.alloc (.cells #[.string n, .int .i64 ow, .int .i64 bits, .bool false, .int .i64 0, .int .i64 v, .string ⟨#[]⟩, .slice none 0 0] 35)) := (Below.refl _ _).alloc (Nat.le_refl _) _
  have CR := Lib.hid (ref_c (h.tab.below hb0) ho)
  rw [ptrT_some hx] at CR
  have CN := Lib.hid (fun W => oname_c n W hn)
  rw [hb] at CN
  have CB := Lib.hid (fun W => pbuiltin_c n W)
  rw [hi] at CB
  have HB0 := Lib.hid hb0
  have CS := Lib.hid (fun W (hW : Below w.heap.size w W) => slot_c ((h.tab.below hW).objs x (findT_some hx).1) n)
  rw [slotV_none hs] at CS
  have CL := Lib.hid (fun W (hW : Below w.heap.size w W) => pbelow_c (h.tab.below hW) ho hr hri hrl)
  have H := Lib.hid h
  have HT := Lib.hid hT
  have HRI := Lib.hid hri
  clear h hx hb hb0 hi hs hT hri
  go_enter Tryz.func26, Tryz.ntmps26
  go_wp2_with fail
  refine CR.out.mono ?_
  rintro e w1 ⟨rfl, rfl⟩
  go_wp2_with fail
  refine (CN.out _).mono ?_
  rintro e w1 ⟨rfl, rfl⟩
  go_wp2_with fail
  refine (CB.out _).mono ?_
  rintro e w1 ⟨rfl, hb1⟩
  have hb2 := HB0.out.trans (hb1.mono HB0.out.size)
  have hrw1 := (hb1.block w.heap.size (by simp)).trans (heap_alloc_new w _)
  have hq0 : w1.cell? ⟨w.heap.size, 0, none⟩ = some (.string n) := cell_of_row _ w.heap.size 0 _ _ _ hrw1
  have HB1 := Lib.hid hb2
  have HW1 := Lib.hid hrw1
  have HZ1 := Lib.hid (show w.heap.size < w1.heap.size from by have h1 : _ ≤ w1.heap.size := hb1.size; simp at h1; omega)
  clear hb1 hb2 hrw1
  go_wp2_with fail
  refine (CS.out _ HB1.out).mono ?_
  rintro e w2 ⟨rfl, rfl⟩
  go_wp2_with fail
  refine (CL.out _ HB1.out).mono ?_
  rintro e w3 ⟨V, rfl, hrow, hb3⟩
  obtain ⟨A, c, rfl, hnc, hcm, hA, hcell⟩ := own_formO hrow
  have hb4 := HB1.out.trans (hb3.mono HB1.out.size)
  have hrw3 := (hb3.block w.heap.size HZ1.out).trans HW1.out
  have hq3 : w3.cell? ⟨w.heap.size, 0, none⟩ = some (.string n) := cell_of_row _ w.heap.size 0 _ _ _ hrw3
  have HB3 := Lib.hid hb4
  have HW3 := Lib.hid hrw3
  have HCL := Lib.hid hcell
  have HRO := Lib.hid hrow
  have HZ3 := Lib.hid (show w1.heap.size ≤ w3.heap.size from hb3.size)
  have CS3 := Lib.hid (fun (k : Nat) (d : Int) (y : OM) (hy : findT T d = some y) => slot_c (((H.out.tab.below hb4).drewN k).objs y (findT_some hy).1) n)
  have CR3 := Lib.hid (fun (k : Nat) (d : Int) (hd : I64 d) (y : OM) (hy : findT T d = some y) => (show Calls Tryz.prog 54 #[.pointer (some ⟨a, 0, none⟩), .int .i64 d] (w3.drewN k) (fun e w' => e = .returned (.pointer (some ⟨y.g, 0, none⟩)) ∧ w3.drewN k = w') from by rw [← ptrT_some hy]; exact ref_c ((H.out.tab.below hb4).drewN k) hd))
  clear hb3 hb4 hrw3 hrow hcell hq0 CR CN CB CS CL
  unfold maxLen at hcm
  go_wp2_with fail
  go_loopg [42] r.length (fun kk iv wr => ∃ i k : Nat, iv = .int .i64 (i : Int) ∧ i + kk = r.length ∧ w3.drewN k = wr)
  case atStart => exact ⟨0, 0, rfl, by omega, rfl⟩
  case round =>
    obtain ⟨i, k, rfl, hik, rfl⟩ := hrel
    by_cases hi : i < r.length
    · obtain ⟨j, rfl⟩ : ∃ j, gk = j + 1 := ⟨gk - 1, by omega⟩
      obtain ⟨d, hd⟩ : ∃ d, r[i]? = some d := ⟨r[i], List.getElem?_eq_some_iff.2 ⟨hi, rfl⟩⟩
      obtain ⟨g1, rfl, hc1⟩ := HCL.out i (.int .i64 d) (by simp [intsO, hd])
      have hdm := List.mem_of_getElem? hd
      obtain ⟨y, hy⟩ := HT.out d hdm
      have KR := Lib.hid (fun k => CR3.out k d (HRI.out d hdm) y hy)
      have KS := Lib.hid (fun k => CS3.out k d y hy)
      rw [slotV_none (HNO.out d hdm y hy)] at KS
      clear hd hdm hy
      go_wp2_with fail
      go_quiet ((first | (go_at_call 54; exact squ_add (KR.out _)) | (go_at_call 62; exact squ_add (KS.out _)) | (go_at_call 54; exact squ_left (KR.out _)) | (go_at_call 62; exact squ_left (KS.out _))))
      go_wp2_with fail
      go_roundg j
      case measure => omega
      case rel => exact ⟨i + 1, _, by go_num, by omega, rfl⟩
    · have hbk : Below w.heap.size w (w3.drewN k) := sbelow_drewN HB3.out k
      have CHs := Lib.hid (fun (W : World) (hW : Below w.heap.size w W) => (show Calls Tryz.prog 45 #[.pointer (some ⟨a, 0, none⟩), .int .i64 ow] W (fun e w' => e = .returned (.bool true) ∧ W = w') from by rw [← hoh]; exact has_c (H.out.tab.below hW) how))
      have q0 : (w3.drewN k).cell? ⟨w.heap.size, 0, none⟩ = some (.string n) := cell_of_row _ w.heap.size 0 _ _ _ HW3.out
      have q1 : (w3.drewN k).cell? ⟨w.heap.size, 1, none⟩ = some (.int .i64 ow) := cell_of_row _ w.heap.size 1 _ _ _ HW3.out
      have q2 : (w3.drewN k).cell? ⟨w.heap.size, 2, none⟩ = some (.int .i64 bits) := cell_of_row _ w.heap.size 2 _ _ _ HW3.out
      have q4 : (w3.drewN k).cell? ⟨w.heap.size, 4, none⟩ = some (.int .i64 0) := cell_of_row _ w.heap.size 4 _ _ _ HW3.out
      have q5 : (w3.drewN k).cell? ⟨w.heap.size, 5, none⟩ = some (.int .i64 v) := cell_of_row _ w.heap.size 5 _ _ _ HW3.out
      have q6 : (w3.drewN k).cell? ⟨w.heap.size, 6, none⟩ = some (.string ⟨#[]⟩) := cell_of_row _ w.heap.size 6 _ _ _ HW3.out
      have q7 : (w3.drewN k).cell? ⟨w.heap.size, 7, none⟩ = some (.slice none 0 0) := cell_of_row _ w.heap.size 7 _ _ _ HW3.out
      have HBK := Lib.hid hbk
      clear hbk
      go_wp2_with fail
      refine (CHs.out _ HBK.out).mono ?_
      rintro e w4 ⟨rfl, rfl⟩
      have CV := Lib.hid (show ∀ W, Calls Tryz.prog 58 #[.agg #[.int .i64 0, .int .i64 v, .string ⟨#[]⟩, .slice none 0 0]] W (fun e w' => e = .returned .nilIface ∧ Below W.heap.size W w') from fun W => valid_int v W)
      go_wp2_with fail
      refine (CV.out _).mono ?_
      rintro e w4 ⟨rfl, hb4⟩
      have hw4 : Below w.heap.size w w4 := HBK.out.trans (hb4.mono HBK.out.size)
      have hz3 : w.heap.size < w3.heap.size := by have := HZ1.out; have := HZ3.out; omega
      have hrw4 := (hb4.block w.heap.size hz3).trans HW3.out
      have hz4 : w3.heap.size ≤ w4.heap.size := hb4.size
      have hx7 : w4.cell? ⟨x.g, 7, none⟩ = some (.slice none 0 0) := by rw [← HDV.out]; exact ((H.out.tab.below hw4).objs x HXM.out).cell 7
      have hf7 : w4.frozen? ⟨x.g, 7, none⟩ = false := ((H.out.tab.below hw4).objs x HXM.out).free 7
      have hq4 : w4.cell? ⟨w.heap.size, 0, none⟩ = some (.string n) := cell_of_row _ w.heap.size 0 _ _ _ hrw4
      have hxl : x.g < w.heap.size := (H.out.tab.objs x HXM.out).lt x.g (OM.mem_blocks.2 (.inl rfl))
      have hx4 : x.g < w4.heap.size := by omega
      have hx7a : ∀ o, (w4.alloc o).cell? ⟨x.g, 7, none⟩ = some (.slice none 0 0) := fun o => (((Below.refl w4.heap.size w4).alloc (Nat.le_refl _) o).cell (p := ⟨x.g, 7, none⟩) hx4).trans hx7
      have hq4a : ∀ o, (w4.alloc o).cell? ⟨w.heap.size, 0, none⟩ = some (.string n) := fun o => (((Below.refl w4.heap.size w4).alloc (Nat.le_refl _) o).cell (p := ⟨w.heap.size, 0, none⟩) (by show w.heap.size < _; omega)).trans hq4
      have HB34 := Lib.hid hb4
      have HZ34 := Lib.hid hz4
      have HB4 := Lib.hid hw4
      have HW4 := Lib.hid hrw4
      have HZ4 := Lib.hid (show w.heap.size < w4.heap.size from by omega)
      clear hb4 hw4 hrw4 q0 q1 q2 q4 q5 q6 q7 CV CHs
      obtain ⟨i0, hi0, hy0, hy1, hy2⟩ := info_parts pstr_info
      go_upto_region 15 with fail
      go_cut [] (fun wx => DfR w w4 x n wx)
      case first =>
        go_region_law
          (refine step_append_lies _ (by rfl) (.tmp 85) (.tmp 88) 25 (by rfl) w4.heap.size 9 i0 _ 1 16 Tryz.underlying25 hi0 hy0 hy1 hy2 rfl (by decide) (.slice none 0 0) 0 [] (by rfl) (World.ownsRow_nil _ _ _ _) ⟨w4.heap.size, 0, none⟩ 1 1 [.string n] (by rfl) rfl (World.news_of_block (cs := #[.string n]) (heap_alloc_new w4.drew _)) (by intro u hu; simp at hu; subst hu; rfl) (by decide) (by decide) (by decide) (by simp) _ rfl ?_
           intro g9 cap w9 hown9 hg9 hat hlt9
           have hr9 : w9.heap[x.g]? = w4.heap[x.g]? := (hg9.block x.g (by show x.g < _; simp; omega) (by simp [Value.ownBlock])).trans (Below.heap_alloc w4.drew _ x.g (by show x.g < w4.heap.size; have := HZ4.out; omega))
           have hb9 : w9.heap[x.g]? = some (.cells x.cells 29 (0, 0)) := hr9.trans ((HB4.out.block x.g hxl).trans (H.out.tab.objs x HXM.out).blk)
           have k9 : w9.cell? ⟨x.g, 7, none⟩ = some x.dv := cell_of_row w9 x.g 7 _ _ _ hb9
           have f9 : w9.frozen? ⟨x.g, 7, none⟩ = false := frozen_of_row w9 x.g 7 _ _ hb9
           clear hr9 hb9)
        all_goals
          go_wp2_with fail
          go_meet
          exact ⟨g9, cap, _, w9, (Below.drew (Below.refl _ _)).alloc (Nat.le_refl _) _, hg9, hown9, rfl⟩
      case rest =>
        obtain ⟨g9, cap, wb, w9, hbb, hg9, hown9, rfl⟩ := hcut
        have hk7 : (w9.setCell ⟨x.g, 7, none⟩ (.slice (some ⟨g9, 0, none⟩) 1 cap)).cell? ⟨x.g, 7, none⟩ = some (.slice (some ⟨g9, 0, none⟩) 1 cap) := cell_of_row _ x.g 7 _ _ _ (defs_row (H.out.tab.objs x HXM.out) HB4.out hbb hg9)
        have hg94 := (hown9.lt g9 rfl).1
        have hne9 : g9 ≠ x.g := by have := HZ4.out; omega
        have HG94 := Lib.hid hg94
        have hownS := ownsRow_same (w' := w9.setCell ⟨x.g, 7, none⟩ (.slice (some ⟨g9, 0, none⟩) 1 cap)) hown9 (fun b hb => by
          injection hb with hb
          subst hb
          exact Below.heap_setCell _ _ _ _ hne9)
        have CSo := Lib.hid (sort_rises (ss := [n.data.toList]) hownS (by simp) (by simp))
        have HOS := Lib.hid hown9
        have HG9 := Lib.hid hg9
        have HBB := Lib.hid hbb
        clear hownS hown9 hg9 hbb
        go_wp2_with fail
        refine CSo.out.mono ?_
        rintro e w6 ⟨rfl, hb6⟩
        have hb6' : Below w9.heap.size (w9.setCell ⟨x.g, 7, none⟩ (.slice (some ⟨g9, 0, none⟩) 1 cap)) w6 := by
          refine hb6.mono ?_
          simp [World.setCell]
        have HS := Lib.hid (add_defs H.out HFX.out HB4.out HBB.out HDV.out HG9.out (ownsRow_base HOS.out (Nat.le_of_lt HZ4.out)) hb6')
        have hkp : ∀ b, w.heap.size ≤ b → b < w4.heap.size → w6.heap[b]? = w4.heap[b]? := by
          intro b h1 h2
          have hzb := HBB.out.size
          have hz9 := HG9.out.size
          exact (((hb6'.block b (by omega)).trans (Below.heap_setCell _ _ _ _ (by show b ≠ x.g; omega))).trans (HG9.out.block b (by omega) (by simp))).trans (HBB.out.block b h2)
        have HKP := Lib.hid hkp
        obtain ⟨x1, hx1⟩ : ∃ x1 : OM, x1 = ⟨{ x.o with defs := [n] }, x.g, .slice (some ⟨g9, 0, none⟩) 1 cap, x.sv⟩ := ⟨_, rfl⟩
        rw [← hx1] at HS
        obtain ⟨T1, hT1⟩ : ∃ T1, T1 = repT T o x1 := ⟨_, rfl⟩
        rw [← hT1] at HS
        have hx1o : x1.o.id = o := by rw [hx1]; exact (findT_some HFX.out).2
        have hno1 : ∀ b, w.heap.size ≤ b → b < w4.heap.size → b ∉ a :: m :: blkT T1 := by
          intro b h1 h2 hm
          have hla := H.out.tab.lt a (List.mem_cons_self ..)
          have hlm := H.out.tab.lt m (List.mem_cons_of_mem _ (List.mem_cons_self ..))
          rcases List.mem_cons.1 hm with e | hm
          · omega
          rcases List.mem_cons.1 hm with e | hm
          · omega
          obtain ⟨y, hy, hby⟩ := List.mem_flatMap.1 hm
          rw [hT1] at hy
          obtain ⟨z, hz, rfl⟩ := List.mem_map.1 hy
          by_cases e : (z.o.id == o) = true
          · rw [if_pos e, hx1] at hby
            rcases OM.mem_blocks.1 hby with e1 | e1 | e1
            · have : b = x.g := e1
              omega
            · have e2 : g9 = b := by injection e1
              omega
            · have := (H.out.tab.objs x HXM.out).lt b (OM.mem_blocks.2 (.inr (.inr e1)))
              omega
          · rw [if_neg e] at hby
            have := (H.out.tab.objs z hz).lt b hby
            omega
        have hT1o : findT T1 o = some x1 := by rw [hT1]; exact findT_rep_eq hx1o HFX.out
        have hT1n : ∀ k, k ≠ o → findT T1 k = findT T k := fun k hk => by rw [hT1]; exact findT_rep_ne hx1o hk
        have HNO1 := Lib.hid hno1
        have HT1O := Lib.hid hT1o
        have HT1N := Lib.hid hT1n
        have HT1 := Lib.hid hT1
        have HX1 := Lib.hid hx1
        clear hb6 hb6' CSo hk7 hkp hno1 hT1o hT1n hT1 hx1 hne9 hg94 HG9 HBB HOS
        go_wp2_with fail
        rw [HLEN.out]
        go_loopg [99] 1 (fun kk iv wr => (kk = 1 ∧ iv = .int .i64 0 ∧ Below w6.heap.size w6 wr) ∨ (kk = 0 ∧ iv = .int .i64 1 ∧ ∃ T2, StS w6 wr B a m T1 T2 mx mx ∧ obT T2 = repO (obT T1) o { x1.o with slots := [f, t] }))
        case atStart => exact .inl ⟨rfl, rfl, Below.refl _ _⟩
        case round =>
          rcases hrel with ⟨rfl, rfl, hb6r⟩ | ⟨rfl, rfl, T2, hst2, hob2⟩
          · have hd : r[0]? = some o := HR0.out
            obtain ⟨g1, rfl, hc1⟩ := HCL.out 0 (.int .i64 o) (by simp [intsO, hd])
            have hg1 := HRO.out.lt g1 rfl
            have hkr : ∀ b, w.heap.size ≤ b → b < w4.heap.size → wr.heap[b]? = w4.heap[b]? := fun b h1 h2 => (hb6r.block b (by have h3 := (show w4.heap[b]? = w6.heap[b]? from (HKP.out b h1 h2).symm); have := Array.getElem?_eq_getElem h2; rw [this] at h3; exact (Array.getElem?_eq_some_iff.1 h3.symm).1)).trans (HKP.out b h1 h2)
            have hcr : wr.cell? ⟨g1, 0, none⟩ = some (.int .i64 o) := (World.cell?_of_block (w := w3) ((hkr g1 (by have := HZ1.out; omega) (by have := HZ34.out; omega)).trans (HB34.out.block g1 hg1.2))).trans hc1
            have hpr : wr.heap[w.heap.size]? = _ := (hkr w.heap.size (Nat.le_refl _) HZ4.out).trans HW4.out
            have q0 := cell_of_row wr w.heap.size 0 _ _ _ hpr
            have q1 := cell_of_row wr w.heap.size 1 _ _ _ hpr
            have q2 := cell_of_row wr w.heap.size 2 _ _ _ hpr
            have q4 := cell_of_row wr w.heap.size 4 _ _ _ hpr
            have q5 := cell_of_row wr w.heap.size 5 _ _ _ hpr
            have q6 := cell_of_row wr w.heap.size 6 _ _ _ hpr
            have q7 := cell_of_row wr w.heap.size 7 _ _ _ hpr
            · have hts : TS wr B a m T1 mx := HS.out.ts.keep hb6r
              have hy : findT T1 o = some x1 := HT1O.out
              have hH1 := hts.tab
              have hsx : x1.sv = .slice (some ⟨gs, 0, none⟩) 1 cs := by rw [HX1.out]; exact HSV.out
              have hslx : x1.o.slots = [t] := by rw [HX1.out]; exact HSL.out
              have hob1 := hH1.objs x1 (findT_some hy).1
              have y8 : wr.cell? ⟨x1.g, 8, none⟩ = some (.slice (some ⟨gs, 0, none⟩) 1 cs) := by rw [← hsx]; exact hob1.cell 8
              have CRr := Lib.hid (ref_c hH1 HO.out)
              rw [ptrT_some hy] at CRr
              have CC := Lib.hid (show ∀ W, Calls Tryz.prog 59 #[.agg #[.int .i64 0, .int .i64 v, .string ⟨#[]⟩, .slice none 0 0]] W (fun e w' => e = .returned (.agg #[.int .i64 0, .int .i64 v, .string ⟨#[]⟩, .slice none 0 0]) ∧ Below W.heap.size W w') from fun W => clone_int v W)
              obtain ⟨i1, hi1, hw0, hw1, hw2⟩ := info_parts slot_info
              have hzr : w.heap.size < wr.heap.size := (Array.getElem?_eq_some_iff.1 hpr).1
              have hx1z : x1.g < wr.heap.size := hob1.lt x1.g (OM.mem_blocks.2 (.inl rfl))
              have HPR := Lib.hid hpr
              have HBL := Lib.hid hob1.blk
              have HOB := Lib.hid hob1
              have HZR := Lib.hid hzr
              have HXZ := Lib.hid hx1z
              have HXW := Lib.hid (show w.heap.size ≠ x1.g from by
                have : x1.g = x.g := by rw [HX1.out]
                omega)
              have HY := Lib.hid hy
              have HTSR := Lib.hid hts
              have HB6R := Lib.hid hb6r
              have HBW := Lib.hid (show B ≤ wr.heap.size from hH1.baseB)
              have OWN := Lib.hid (fun (W : World) (hW : Below wr.heap.size wr W) => (show W.ownsRow B 35 8 (.slice (some ⟨gs, 0, none⟩) 1 cs) 1 t.cells from ownsRow_same (by have h1 := hob1.slots; rw [hsx, hslx] at h1; simpa using h1) fun k hk => by injection hk with hk; subst hk; exact hW.block _ (hob1.lt _ (OM.mem_blocks.2 (.inr (.inr (by rw [hsx]; rfl)))))))
              have HGX := Lib.hid (show ¬ gs = x1.g from fun e => by have h1 := hH1.nodupX (findT_some hy).1; unfold OM.blocks at h1; rw [List.nodup_cons] at h1; exact h1.1 (by rw [hsx]; simp [Value.ownBlock, e]))
              have HGW := Lib.hid (show ¬ gs = w.heap.size from fun e => by have h1 := (H.out.tab.objs x HXM.out).lt gs (OM.mem_blocks.2 (.inr (.inr (by rw [HSV.out]; rfl)))); omega)
              have HSX := Lib.hid hsx
              clear hy hH1 hsx hob1 hts hd hpr hkr hc1 hg1 hb6r
              go_wp2_with fail
              refine CRr.out.mono ?_
              rintro e w7 ⟨rfl, rfl⟩
              go_upto_region 22 with fail
              go_cut [] (fun wx => LyQ wr B x1 gs t f wx)
              case first =>
                have KS := Lib.hid (show ∀ W : World, W.heap[w.heap.size]? = wr.heap[w.heap.size]? → W.heap[x1.g]? = wr.heap[x1.g]? → (fun W => W.cell? ⟨w.heap.size, 0, none⟩ = some (.string n) ∧ W.cell? ⟨w.heap.size, 1, none⟩ = some (.int .i64 ow) ∧ W.cell? ⟨w.heap.size, 2, none⟩ = some (.int .i64 bits) ∧ W.cell? ⟨w.heap.size, 4, none⟩ = some (.int .i64 0) ∧ W.cell? ⟨w.heap.size, 5, none⟩ = some (.int .i64 v) ∧ W.cell? ⟨w.heap.size, 6, none⟩ = some (.string ⟨#[]⟩) ∧ W.cell? ⟨w.heap.size, 7, none⟩ = some (.slice none 0 0) ∧ W.cell? ⟨x1.g, 8, none⟩ = some (.slice (some ⟨gs, 0, none⟩) 1 cs)) W from fun W h h2 => ⟨cell_of_row W _ 0 _ _ _ (h.trans HPR.out), cell_of_row W _ 1 _ _ _ (h.trans HPR.out), cell_of_row W _ 2 _ _ _ (h.trans HPR.out), cell_of_row W _ 4 _ _ _ (h.trans HPR.out), cell_of_row W _ 5 _ _ _ (h.trans HPR.out), cell_of_row W _ 6 _ _ _ (h.trans HPR.out), cell_of_row W _ 7 _ _ _ (h.trans HPR.out), by rw [← HSX.out]; exact cell_of_row W x1.g 8 _ _ _ (h2.trans HBL.out)⟩)
                clear q0 q1 q2 q4 q5 q6 q7 y8
                refine wp_region_heldTo 19 (fun W => W.cell? ⟨w.heap.size, 0, none⟩ = some (.string n) ∧ W.cell? ⟨w.heap.size, 1, none⟩ = some (.int .i64 ow) ∧ W.cell? ⟨w.heap.size, 2, none⟩ = some (.int .i64 bits) ∧ W.cell? ⟨w.heap.size, 4, none⟩ = some (.int .i64 0) ∧ W.cell? ⟨w.heap.size, 5, none⟩ = some (.int .i64 v) ∧ W.cell? ⟨w.heap.size, 6, none⟩ = some (.string ⟨#[]⟩) ∧ W.cell? ⟨w.heap.size, 7, none⟩ = some (.slice none 0 0) ∧ W.cell? ⟨x1.g, 8, none⟩ = some (.slice (some ⟨gs, 0, none⟩) 1 cs)) (by kernel_rfl) (by kernel_rfl) (KS.out _ rfl rfl) (fun hSucc hHeld => ?_)
                refine heldTo_take (i := 0) (oi := _) (v := (.pointer (some ⟨x1.g, 0, none⟩))) hSucc rfl (by kernel_rfl) (by kernel_rfl) (by kernel_rfl) (by kernel_rfl) rfl (fun _ _ _ h => h) (Or.inl ⟨by rfl, fun W hSw => ?_⟩) (by with_reducible assumption) ?_
                · (try dsimp only at hSw); go_simp
                change heldTo _ _ _ _ _ _ _ _ (Act.put _ (some 109) _) _
                simp only [Act.put, List.setIfInBounds_toArray, List.set_cons_zero, List.set_cons_succ]
                refine heldTo_take (i := 1) (oi := _) (v := (.pointer (some ⟨x1.g, 0, none⟩))) hSucc rfl (by kernel_rfl) (by kernel_rfl) (by kernel_rfl) (by kernel_rfl) rfl (fun _ _ _ h => h) (Or.inl ⟨by rfl, fun W hSw => ?_⟩) (by with_reducible assumption) ?_
                · (try dsimp only at hSw); go_simp
                change heldTo _ _ _ _ _ _ _ _ (Act.put _ (some 110) _) _
                simp only [Act.put, List.setIfInBounds_toArray, List.set_cons_zero, List.set_cons_succ]
                refine heldTo_take (i := 2) (oi := _) (v := (.pointer (some ⟨x1.g, 0, none⟩))) hSucc rfl (by kernel_rfl) (by kernel_rfl) (by kernel_rfl) (by kernel_rfl) rfl (fun _ _ _ h => h) (Or.inl ⟨by rfl, fun W hSw => ?_⟩) (by with_reducible assumption) ?_
                · (try dsimp only at hSw); go_simp
                change heldTo _ _ _ _ _ _ _ _ (Act.put _ (some 111) _) _
                simp only [Act.put, List.setIfInBounds_toArray, List.set_cons_zero, List.set_cons_succ]
                refine heldTo_take (i := 3) (oi := _) (v := (.pointer (some ⟨x1.g, 8, none⟩))) hSucc rfl (by kernel_rfl) (by kernel_rfl) (by kernel_rfl) (by kernel_rfl) rfl (fun _ _ _ h => h) (Or.inl ⟨by rfl, fun W hSw => ?_⟩) (by with_reducible assumption) ?_
                · (try dsimp only at hSw); go_simp
                change heldTo _ _ _ _ _ _ _ _ (Act.put _ (some 112) _) _
                simp only [Act.put, List.setIfInBounds_toArray, List.set_cons_zero, List.set_cons_succ]
                refine heldTo_take (i := 4) (oi := _) (v := (.slice (some ⟨gs, 0, none⟩) 1 cs)) hSucc rfl (by kernel_rfl) (by kernel_rfl) (by kernel_rfl) (by kernel_rfl) rfl (fun _ _ _ h => h) (Or.inl ⟨by rfl, fun W hSw => ?_⟩) (by with_reducible assumption) ?_
                · (try dsimp only at hSw); go_simp
                change heldTo _ _ _ _ _ _ _ _ (Act.put _ (some 113) _) _
                simp only [Act.put, List.setIfInBounds_toArray, List.set_cons_zero, List.set_cons_succ]
                refine heldTo_take (i := 5) (oi := _) (v := (.pointer (some ⟨w.heap.size, 0, none⟩))) hSucc rfl (by kernel_rfl) (by kernel_rfl) (by kernel_rfl) (by kernel_rfl) rfl (fun _ _ _ h => h) (Or.inl ⟨by rfl, fun W hSw => ?_⟩) (by with_reducible assumption) ?_
                · (try dsimp only at hSw); go_simp
                change heldTo _ _ _ _ _ _ _ _ (Act.put _ (some 114) _) _
                simp only [Act.put, List.setIfInBounds_toArray, List.set_cons_zero, List.set_cons_succ]
                refine heldTo_take (i := 6) (oi := _) (v := (.string n)) hSucc rfl (by kernel_rfl) (by kernel_rfl) (by kernel_rfl) (by kernel_rfl) rfl (fun _ _ _ h => h) (Or.inl ⟨by rfl, fun W hSw => ?_⟩) (by with_reducible assumption) ?_
                · (try dsimp only at hSw); go_simp
                change heldTo _ _ _ _ _ _ _ _ (Act.put _ (some 115) _) _
                simp only [Act.put, List.setIfInBounds_toArray, List.set_cons_zero, List.set_cons_succ]
                refine heldTo_take (i := 7) (oi := _) (v := (.pointer (some ⟨w.heap.size, 1, none⟩))) hSucc rfl (by kernel_rfl) (by kernel_rfl) (by kernel_rfl) (by kernel_rfl) rfl (fun _ _ _ h => h) (Or.inl ⟨by rfl, fun W hSw => ?_⟩) (by with_reducible assumption) ?_
                · (try dsimp only at hSw); go_simp
                change heldTo _ _ _ _ _ _ _ _ (Act.put _ (some 116) _) _
                simp only [Act.put, List.setIfInBounds_toArray, List.set_cons_zero, List.set_cons_succ]
                refine heldTo_take (i := 8) (oi := _) (v := (.int .i64 ow)) hSucc rfl (by kernel_rfl) (by kernel_rfl) (by kernel_rfl) (by kernel_rfl) rfl (fun _ _ _ h => h) (Or.inl ⟨by rfl, fun W hSw => ?_⟩) (by with_reducible assumption) ?_
                · (try dsimp only at hSw); go_simp
                change heldTo _ _ _ _ _ _ _ _ (Act.put _ (some 117) _) _
                simp only [Act.put, List.setIfInBounds_toArray, List.set_cons_zero, List.set_cons_succ]
                refine heldTo_take (i := 9) (oi := _) (v := (.pointer (some ⟨w.heap.size, 2, none⟩))) hSucc rfl (by kernel_rfl) (by kernel_rfl) (by kernel_rfl) (by kernel_rfl) rfl (fun _ _ _ h => h) (Or.inl ⟨by rfl, fun W hSw => ?_⟩) (by with_reducible assumption) ?_
                · (try dsimp only at hSw); go_simp
                change heldTo _ _ _ _ _ _ _ _ (Act.put _ (some 118) _) _
                simp only [Act.put, List.setIfInBounds_toArray, List.set_cons_zero, List.set_cons_succ]
                refine heldTo_take (i := 10) (oi := _) (v := (.int .i64 bits)) hSucc rfl (by kernel_rfl) (by kernel_rfl) (by kernel_rfl) (by kernel_rfl) rfl (fun _ _ _ h => h) (Or.inl ⟨by rfl, fun W hSw => ?_⟩) (by with_reducible assumption) ?_
                · (try dsimp only at hSw); go_simp
                change heldTo _ _ _ _ _ _ _ _ (Act.put _ (some 119) _) _
                simp only [Act.put, List.setIfInBounds_toArray, List.set_cons_zero, List.set_cons_succ]
                refine heldTo_take (i := 11) (oi := _) (v := (.pointer (some ⟨w.heap.size, 4, none⟩))) hSucc rfl (by kernel_rfl) (by kernel_rfl) (by kernel_rfl) (by kernel_rfl) rfl (fun _ _ _ h => h) (Or.inl ⟨by rfl, fun W hSw => ?_⟩) (by with_reducible assumption) ?_
                · (try dsimp only at hSw); go_simp
                change heldTo _ _ _ _ _ _ _ _ (Act.put _ (some 120) _) _
                simp only [Act.put, List.setIfInBounds_toArray, List.set_cons_zero, List.set_cons_succ]
                refine heldTo_take (i := 12) (oi := _) (v := (.agg #[.int .i64 0, .int .i64 v, .string ⟨#[]⟩, .slice none 0 0])) hSucc rfl (by kernel_rfl) (by kernel_rfl) (by kernel_rfl) (by kernel_rfl) rfl (fun _ _ _ h => h) (Or.inl ⟨by rfl, fun W hSw => ?_⟩) (by with_reducible assumption) ?_
                · (try dsimp only at hSw); go_simp
                change heldTo _ _ _ _ _ _ _ _ (Act.put _ (some 121) _) _
                simp only [Act.put, List.setIfInBounds_toArray, List.set_cons_zero, List.set_cons_succ]
                refine heldTo_one (i := 13) (o := _) (by kernel_rfl) rfl (fun K hK => ?_)
                go_simp
                go_at_call 59
                refine (CC.out _).mono ?_
                rintro e w8 ⟨rfl, hb8⟩
                have HB8 := Lib.hid (show Below wr.heap.size wr w8 from ((Below.refl wr.heap.size wr).drew).trans hb8)
                clear hb8 hHeld
                refine hK.out _ _ (KS.out _ (HB8.out.block w.heap.size HZR.out) (HB8.out.block x1.g HXZ.out)) (fun hHeld => ?_)
                clear hK K
                refine heldTo_take (i := 14) (oi := _) (v := (.agg #[.string n, .int .i64 ow, .int .i64 bits, .bool false, .int .i64 0, .int .i64 v, .string ⟨#[]⟩, .slice none 0 0])) hSucc rfl (by kernel_rfl) (by kernel_rfl) (by kernel_rfl) (by kernel_rfl) rfl (fun _ _ _ h => h) (Or.inl ⟨by rfl, fun W hSw => ?_⟩) (by with_reducible assumption) ?_
                · (try dsimp only at hSw); go_simp
                change heldTo _ _ _ _ _ _ _ _ (Act.put _ (some 123) _) _
                simp only [Act.put, List.setIfInBounds_toArray, List.set_cons_zero, List.set_cons_succ]
                refine heldTo_one (i := 15) (o := _) (by kernel_rfl) rfl (fun K hK => ?_)
                go_simp
                clear hHeld
                refine hK.out _ _ (KS.out _ ((HB8.out.alloc HB8.out.size _).block w.heap.size HZR.out) ((HB8.out.alloc HB8.out.size _).block x1.g HXZ.out)) (fun hHeld => ?_)
                clear hK K
                refine heldTo_one (i := 16) (o := _) (by kernel_rfl) rfl (fun K hK => ?_)
                refine step_append_lies _ (by rfl) (.tmp 113) (.tmp 124) 26 (by rfl) B 35 i1 _ 8 96 Tryz.underlying26 hi1 hw0 hw1 hw2 rfl (by decide) (.slice (some ⟨gs, 0, none⟩) 1 cs) 1 t.cells (by rfl) (OWN.out _ (HB8.out.alloc HB8.out.size _)) ⟨w8.heap.size, 0, none⟩ 1 1 [.string n, .int .i64 ow, .int .i64 bits, .bool false, .int .i64 0, .int .i64 v, .string ⟨#[]⟩, .slice none 0 0] (by rfl) rfl (news8 _ _ _ _ _ _ _ _ _ _) (one8 _ _ _ _ _ _ _) (by decide) (by decide) (by decide) (by have := HB8.out.size; have := HBW.out; simp; omega) _ rfl ?_
                intro g9 cap w9 hown9 hg9 hat hlt9
                have hb9 : ∀ b, b < wr.heap.size → ¬ gs = b → w9.heap[b]? = wr.heap[b]? := fun b hb hgs => (hg9.block b (by have := HB8.out.size; simp; omega) (by rw [show (Value.slice (some ⟨gs, 0, none⟩) 1 cs).ownBlock = some gs from rfl]; intro e; injection e with e; exact hgs e.symm)).trans ((HB8.out.alloc HB8.out.size _).block b hb)
                have hr9 : w9.heap[x1.g]? = some (.cells x1.cells 29 (0, 0)) := (hb9 x1.g HXZ.out HGX.out).trans HBL.out
                have k9 : w9.cell? ⟨x1.g, 8, none⟩ = some x1.sv := cell_of_row w9 x1.g 8 _ _ _ hr9
                have f9 : w9.frozen? ⟨x1.g, 8, none⟩ = false := frozen_of_row w9 x1.g 8 _ _ hr9
                clear hr9 hHeld
                refine hK.out _ _ (KS.out _ (hb9 _ HZR.out HGW.out) (hb9 _ HXZ.out HGX.out)) (fun hHeld => ?_)
                clear hK K
                clear hb9
                refine heldTo_take (i := 17) (oi := _) (v := (.pointer (some ⟨x1.g, 0, none⟩))) hSucc rfl (by kernel_rfl) (by kernel_rfl) (by kernel_rfl) (by kernel_rfl) rfl (fun _ _ _ h => h) (Or.inl ⟨by rfl, fun W hSw => ?_⟩) (by with_reducible assumption) ?_
                · (try dsimp only at hSw); go_simp
                change heldTo _ _ _ _ _ _ _ _ (Act.put _ (some 126) _) _
                simp only [Act.put, List.setIfInBounds_toArray, List.set_cons_zero, List.set_cons_succ]
                refine heldTo_take (i := 18) (oi := _) (v := (.pointer (some ⟨x1.g, 8, none⟩))) hSucc rfl (by kernel_rfl) (by kernel_rfl) (by kernel_rfl) (by kernel_rfl) rfl (fun _ _ _ h => h) (Or.inl ⟨by rfl, fun W hSw => ?_⟩) (by with_reducible assumption) ?_
                · (try dsimp only at hSw); go_simp
                change heldTo _ _ _ _ _ _ _ _ (Act.put _ (some 127) _) _
                simp only [Act.put, List.setIfInBounds_toArray, List.set_cons_zero, List.set_cons_succ]
                refine heldTo_last (o := _) (by kernel_rfl) rfl (fun K hK => ?_)
                go_simp
                refine hK.out _ _ ?_
                clear hK K hHeld
                refine heldTo_done (by kernel_rfl) ?_ _
                all_goals
                  go_wp2_with fail
                  go_meet
                  exact ⟨g9, cap, _, w9, HB8.out.alloc HB8.out.size _, hg9, (hat.imp (fun e => by injection e with e; exact e.symm) (fun e => e)), by rw [HFE.out]; exact hown9, rfl⟩
              case rest =>
                obtain ⟨g9, cap, wb, w9, hbb, hg9, hat, hown9, rfl⟩ := hcut
                have HL2 := Lib.hid (lay2_S HTSR.out HY.out HSX.out hslx HFLX.out hbb hg9 hat (by simpa using hown9))
                have hne : g9 ≠ x1.g := by
                  rcases hat with e | e
                  · rw [e]; exact HGX.out
                  · have h1 := HXZ.out; have h2 := hbb.size; omega
                have how2 := ownsRow_same (w' := w9.setCell ⟨x1.g, 8, none⟩ (.slice (some ⟨g9, 0, none⟩) 2 cap)) hown9 (fun k hk => by
                  injection hk with hk
                  subst hk
                  exact Below.heap_setCell _ _ _ _ hne)
                have hc2 : 2 ≤ cap := by
                  obtain ⟨_, ⟨e, _⟩ | ⟨g, c2, cur, e, _, _, hn2, _⟩⟩ := hown9
                  · cases e
                  · injection e with e1 e2 e3
                    omega
                have hk8 : (w9.setCell ⟨x1.g, 8, none⟩ (.slice (some ⟨g9, 0, none⟩) 2 cap)).cell? ⟨x1.g, 8, none⟩ = some (.slice (some ⟨g9, 0, none⟩) 2 cap) := World.cell?_setCell_same _ _ _ (by
                  have h1 : w9.heap[x1.g]? = _ := ((hg9.block x1.g (by have h1 := HXZ.out; have h2 := hbb.size; omega) (by intro e; injection e with e; exact HGX.out e.symm)).trans (hbb.block x1.g HXZ.out)).trans HBL.out
                  exact cell_of_row w9 x1.g 8 _ _ _ h1)
                have CSS := Lib.hid (HSO.out g9 cap _ hc2 (by simpa using how2))
                clear how2 hown9 hg9 hbb hat hne hc2
                go_wp2_with fail
                refine CSS.out.mono ?_
                rintro e w10 ⟨rfl, hsw⟩
                have HSW := Lib.hid hsw
                clear hsw
                go_wp2_with fail
                go_roundg 0
                case measure => omega
                case rel =>
                  refine .inr ⟨rfl, rfl, _, ((StS.of_below HS.out.ts HB6R.out).trans HL2.out).trans (swp_S HL2.out.ts (findT_rep_eq (findT_some HY.out).2 HY.out) rfl rfl HSW.out), ?_⟩
                  rw [obT_rep, obT_rep]
                  exact repO_twice _ _ _ _ (findT_some HY.out).2
          · have HST := Lib.hid hst2
            clear hst2
            go_wp2_with fail
            go_ret
            refine ⟨rfl, T2, HS.out.trans HST.out, ?_⟩
            rw [hob2, HT1.out, obT_rep, HX1.out]
end
end Go.Proofs.YtnphgcbknfmapaaGreatDoor
namespace Go.Proofs.YtnphgcbknfmapaaGreatDoor
open Go.RowKit Go.Lib
set_option linter.unusedVariables false
set_option linter.unusedSimpArgs false
theorem sort_own {W : World} {B b c : Nat} {s t : SL} (hc : 2 ≤ c) (hl : Op.bytesLess s.name.toList t.name.toList = true) (h : W.ownsRow B 35 8 (.slice (some ⟨b, 0, none⟩) 2 c) 2 ([t, s].flatMap SL.cells)) :
    Calls Tryz.prog 68 #[.slice (some ⟨b, 0, none⟩) 2 c] W fun e w' => e = .returned (.tuple #[]) ∧ Swp W b s t w' := by
  obtain ⟨_, ⟨e, _⟩ | ⟨g, cap, cur, e, _, hg, _, _, hz, hx⟩⟩ := h
  · cases e
  · injection e with e1 e2 e3
    injection e1 with e1
    injection e1 with e1 _ _
    subst e1
    subst e3
    have hcs : ∀ j, j < 16 → W.cell? ⟨b, j, none⟩ = (t.cells ++ s.cells)[j]? := fun j hj => by
      rw [cell_of_row W b j cur _ _ hg]
      have h2 : (cur.toList.take (2 * 8))[j]? = (t.cells ++ s.cells)[j]? := by rw [hx]; simp
      rw [List.getElem?_take_of_lt (by omega)] at h2
      rw [← h2]
      simp
    have ht : t.cells.length = 8 := rfl
    have hs : s.cells.length = 8 := rfl
    have hth : ∀ k, k < 16 → (W.cell? ⟨b, k, none⟩).isSome = true ∧ W.frozen? ⟨b, k, none⟩ = false := fun k hk => by
      refine ⟨?_, frozen_of_row W b k _ _ hg⟩
      rw [hcs k hk, List.getElem?_eq_getElem (by rw [List.length_append]; omega)]
      rfl
    refine sortSlots_2 s t b c W hc hl (fun j v hv => ?_) (fun j v hv => ?_) (fun j hj => hth _ (by omega)) (fun j hj => hth _ (by omega))
    · have hj : j < 8 := (List.getElem?_eq_some_iff.1 hv).1
      rw [hcs _ (by omega), Nat.zero_add, List.getElem?_append_left (by omega)]
      exact hv
    · have hj : j < 8 := (List.getElem?_eq_some_iff.1 hv).1
      rw [hcs _ (by omega), List.getElem?_append_right (by omega), ht, Nat.add_sub_cancel_left]
      exact hv
theorem add1_L {B a m : Nat} {w0 w : World} {l : List OB} {mx o : Int} {K : List (Nat × Obj)} {x : OB} (h : LS B w0 w a m l mx K) (ho : I64 o) (hx : getO l o = some x) (n : ByteArray) (ow bits v : Int) (hn : n.size ≤ 140737488351232) (hb : nmB n.data.toList = true) (hi : biB n = false) (hs : slotI x.slots n = none)
    (hr : belowO l o = some [o]) {t : SL} (hsl : x.slots = [t]) (hfl : FlatS ⟨n, ow, bits, false, 0, v, ⟨#[]⟩⟩) (hlt : Op.bytesLess n.toList t.name.toList = true)
    (how : I64 ow) (hoh : hasO l ow = true) (hb0 : 0 ≤ bits) (hb7 : bits ≤ 7) (hdf : x.defs = []) :
    Calls Tryz.prog 26 #[.pointer (some ⟨a, 0, none⟩), .int .i64 o, addV n ow bits v] w fun e w' => e = .returned (.int .i64 0) ∧ LS B w0 w' a m (repO l o { x with defs := [n], slots := [⟨n, ow, bits, false, 0, v, ⟨#[]⟩⟩, t] }) mx K := by
  obtain ⟨T, ht, rfl, h0, hK⟩ := h
  obtain ⟨X, hX, rfl⟩ := findT_of_getO hx
  have hdv := (ht.bare X (findT_some hX).1).2 hdf
  have hsl1 := (ht.tab.objs X (findT_some hX).1).slots
  rw [hsl] at hsl1
  obtain ⟨gs, cs, hsv⟩ : ∃ gs cs, X.sv = .slice (some ⟨gs, 0, none⟩) 1 cs := by
    obtain ⟨_, ⟨_, e⟩ | ⟨gs, cs, cur, e, _⟩⟩ := hsl1
    · cases e
    · exact ⟨gs, cs, e⟩
  refine (add_one ht ho hX n ow bits v hn hb hi hs rfl hr hsl hsv hfl how hoh hb0 hb7 hdf hdv (fun b c W hc h => sort_own hc hlt h)).mono ?_
  rintro e w' ⟨rfl, T', hs', hl'⟩
  exact ⟨rfl, ls_step ht h0 hK hs' (hl'.trans (repO_twice (obT T) o { X.o with defs := [n] } _ (findT_some hX).2))⟩
end Go.Proofs.YtnphgcbknfmapaaGreatDoor
