/- Contracts of the functions that the statement reaches, and the plain mathematics beneath: several texts joined. -/
import Derived.Test.YtggngahmafbihaaGreatDoorPbiBK
namespace Go.Proofs.YtggngahmafbihaaGreatDoor
open Go.RowKit Go.Lib
set_option linter.unusedVariables false

theorem zN_drew {w w' : World} (h : Below ((w.alloc (.cells #[.int .i64 0, .int .i64 0, .string ⟨#[]⟩, .int .i64 0, .int .i64 0, .string ⟨#[]⟩, .slice none 0 0, .slice none 0 0] 31)).drew).heap.size ((w.alloc (.cells #[.int .i64 0, .int .i64 0, .string ⟨#[]⟩, .int .i64 0, .int .i64 0, .string ⟨#[]⟩, .slice none 0 0, .slice none 0 0] 31)).drew) w') : zN w' w.heap.size :=
  NdB.below (w := (w.alloc (.cells #[.int .i64 0, .int .i64 0, .string ⟨#[]⟩, .int .i64 0, .int .i64 0, .string ⟨#[]⟩, .slice none 0 0, .slice none 0 0] 31)).drew) (zN.new w) h (by show w.heap.size < (w.alloc _).heap.size; simp)
theorem zN_open {w : World} {g : Nat} (q : zN w g) : zN w g ∧ w.cell? ⟨g, 0, none⟩ = some (.int .i64 0) ∧ w.frozen? ⟨g, 0, none⟩ = false ∧ w.cell? ⟨g, 1, none⟩ = some (.int .i64 0) ∧ w.frozen? ⟨g, 1, none⟩ = false ∧ w.cell? ⟨g, 2, none⟩ = some (.string ⟨#[]⟩) ∧ w.frozen? ⟨g, 2, none⟩ = false ∧ w.cell? ⟨g, 3, none⟩ = some (.int .i64 0) ∧ w.frozen? ⟨g, 3, none⟩ = false ∧ w.cell? ⟨g, 4, none⟩ = some (.int .i64 0) ∧ w.frozen? ⟨g, 4, none⟩ = false ∧ w.cell? ⟨g, 5, none⟩ = some (.string ⟨#[]⟩) ∧ w.frozen? ⟨g, 5, none⟩ = false ∧ w.cell? ⟨g, 6, none⟩ = some (.slice none 0 0) ∧ w.frozen? ⟨g, 6, none⟩ = false ∧ w.cell? ⟨g, 7, none⟩ = some (.slice none 0 0) ∧ w.frozen? ⟨g, 7, none⟩ = false :=
  ⟨q, q.c0, q.fr 0, q.c1, q.fr 1, q.c2, q.fr 2, q.c3, q.fr 3, q.c4, q.fr 4, q.c5, q.fr 5, q.c6, q.fr 6, q.c7, q.fr 7⟩
theorem sgAt_size {i : Nat} (h : i < 10) : (⟨(sgAt i).toArray⟩ : ByteArray).size ≤ 2 := by
  have : ∀ i : Fin 10, (⟨(sgAt i.val).toArray⟩ : ByteArray).size ≤ 2 := by decide +kernel
  exact this ⟨i, h⟩
def sgRow : Array Value := #[.string ⟨#[124, 124]⟩, .string ⟨#[38, 38]⟩, .string ⟨#[61, 61]⟩, .string ⟨#[60]⟩, .string ⟨#[105, 110]⟩, .string ⟨#[43]⟩, .string ⟨#[45]⟩, .string ⟨#[42]⟩, .string ⟨#[47]⟩, .string ⟨#[37]⟩]
def lvRow : Array Value := #[.int .i64 1, .int .i64 2, .int .i64 3, .int .i64 3, .int .i64 3, .int .i64 4, .int .i64 4, .int .i64 5, .int .i64 5, .int .i64 5]
theorem sg_cell {w : World} {i : Nat} {o : Obj} (h : i < 10) : ((w.alloc (.cells sgRow 9)).alloc o).cell? ⟨w.heap.size, i, none⟩ = some (.string ⟨(sgAt i).toArray⟩) := by
  have h1 : ((w.alloc (.cells sgRow 9)).alloc o).heap[w.heap.size]? = some (.cells sgRow 9 (0, 0)) := by
    rw [Below.heap_alloc _ o _ (by simp)]; exact heap_alloc_new w _
  have e : sgRow[i]? = some (.string ⟨(sgAt i).toArray⟩) := by
    have : i = 0 ∨ i = 1 ∨ i = 2 ∨ i = 3 ∨ i = 4 ∨ i = 5 ∨ i = 6 ∨ i = 7 ∨ i = 8 ∨ i = 9 := by omega
    rcases this with rfl | rfl | rfl | rfl | rfl | rfl | rfl | rfl | rfl | rfl <;> rfl
  unfold World.cell?
  simp only [h1, e]; rfl
theorem lv_cell {w : World} {i : Nat} {o : Obj} (h : i < 10) : ((w.alloc o).alloc (.cells lvRow 3)).cell? ⟨w.heap.size + 1, i, none⟩ = some (.int .i64 (lvAt i : Nat)) := by
  have h1 : ((w.alloc o).alloc (.cells lvRow 3)).heap[w.heap.size + 1]? = some (.cells lvRow 3 (0, 0)) := by
    have := heap_alloc_new (w.alloc o) (.cells lvRow 3)
    simpa using this
  have e : lvRow[i]? = some (.int .i64 (lvAt i : Nat)) := by
    have : i = 0 ∨ i = 1 ∨ i = 2 ∨ i = 3 ∨ i = 4 ∨ i = 5 ∨ i = 6 ∨ i = 7 ∨ i = 8 ∨ i = 9 := by omega
    rcases this with rfl | rfl | rfl | rfl | rfl | rfl | rfl | rfl | rfl | rfl <;> rfl
  unfold World.cell?
  simp only [h1, e]; rfl
theorem own_past {wz W : World} {R : Nat} {o : Obj} (hR : R ≤ wz.heap.size) : ∀ b : Nat, ((wz.alloc o).drew).heap.size ≤ b → b < W.heap.size → R ≤ b ∧ b ≠ wz.heap.size := fun b hb _ => by
  have : (wz.alloc o).heap.size ≤ b := hb
  simp at this
  omega
theorem goodX_fit {T : ByteArray} {n : NL} (h : GoodX T n) : n.fit := by obtain ⟨l, F, p1, h1, h2, h3, h4, h5, h6, h7, h8, h9⟩ := h; exact h9
theorem bn_rp {w : World} {R G : Nat} {n : NL} (h : BN w R G n) : n.len = 1 ∧ RpN w (fun b => b < w.heap.size) n (some ⟨G, 0, none⟩) := by
  have hG := h.lt
  obtain ⟨hR, o, l, s, k, m, t, va, vc, A, c, sub, e, nb, ow⟩ := h
  obtain ⟨A', c', e', hc, -, hr⟩ := ow.kids
  simp only [Value.slice.injEq, true_and] at e'
  obtain ⟨rfl, rfl⟩ := e'
  rw [e]
  exact ⟨rfl, rp1v nb hG hc (hr.wide (fun b hb => hb.2))⟩
theorem bn_alike {w : World} {R G G' : Nat} {n n' : NL} (h : BN w R G n) (h' : BN w R G' n') (hf : n.fit) (hf' : n'.fit) :
    Calls Tryz.prog 12 #[.slice (some ⟨G, 0, none⟩) 1 1, .slice (some ⟨G', 0, none⟩) 1 1] w fun e w' => e = .returned (.bool (sameN n n')) ∧ Below w.heap.size w w' := by
  obtain ⟨a1, a2⟩ := bn_rp h
  obtain ⟨b1, b2⟩ := bn_rp h'
  have hc := alike_c (n.tot + 1) n n' (some ⟨G, 0, none⟩) (some ⟨G', 0, none⟩) 1 1 w (by omega) (by omega) (by omega) hf hf' (by omega) (by omega) a2 b2
  rw [a1, b1] at hc
  exact hc

set_option maxRecDepth 100000 in
set_option maxHeartbeats 16000000 in
theorem parseBinds_c (i0 j0 : Int) (ea : Nat → Addr) (w : World) (hi0 : -9223372036854775808 ≤ i0) (hi1 : i0 ≤ 9223372036854775807) (hj0 : -9223372036854775808 ≤ j0) (hj1 : j0 ≤ 9223372036854775807) (he0 : ErrsAt w ea) (hst : StrcAt w) (hsp : SpaceAt w) :
    Calls Tryz.prog 3 #[.int .i64 i0, .int .i64 j0] w fun e w' => e = .returned (.bool true) ∧ Below w.heap.size w w' := by
  have he : LxEnv w ea := ⟨he0, hsp, hst⟩
  have hroom := he0.room
  have F := Lib.hid (pfirst_c ea w he)
  have EV := Lib.hid (fun W (hW : Below w.heap.size w W) => he.below hW (by omega))
  have NI := Lib.hid (fun W => wnumber_c i0 10 W hi0 hi1 (by decide) (by decide))
  have NJ := Lib.hid (fun W => wnumber_c j0 10 W hj0 hj1 (by decide) (by decide))
  clear he he0 hst hsp
  go_enter Tryz.func3, Tryz.ntmps3
  go_wp2_with fail
  refine F.out.mono ?_
  rintro e w2 ⟨rfl, hb2⟩
  have HB2 := Lib.hid hb2
  clear hb2
  go_wp2_with fail
  refine (NI.out _).mono ?_
  rintro e w3 ⟨i, hi, rfl, rfl⟩
  go_wp2_with fail
  refine (NJ.out _).mono ?_
  rintro e w4 ⟨j, hj, rfl, rfl⟩
  obtain ⟨fl, lf, rg, st, al, X1, X2, X3, X4, X5, Y1, Y2, Y3⟩ := binds_x hi hj
  have F1 := Lib.hid (goodX_fit X1)
  have F2 := Lib.hid (goodX_fit X2)
  have F3 := Lib.hid (goodX_fit X3)
  have F4 := Lib.hid (goodX_fit X4)
  have F5 := Lib.hid (goodX_fit X5)
  have HY1 := Lib.hid Y1
  have HY2 := Lib.hid Y2
  have HY3 := Lib.hid Y3
  clear Y1 Y2 Y3
  have hza0 := sgAt_size hi
  have hzb0 := sgAt_size hj
  obtain ⟨sa, hsa⟩ : ∃ b : ByteArray, b = ⟨(sgAt i).toArray⟩ := ⟨_, rfl⟩
  obtain ⟨sb, hsb⟩ : ∃ b : ByteArray, b = ⟨(sgAt j).toArray⟩ := ⟨_, rfl⟩
  rw [← hsa] at hza0
  rw [← hsb] at hzb0
  have e_P8 : (⟨(flT (sgAt i) (sgAt j)).toArray⟩ : ByteArray) = (((((⟨#[120, 32]⟩ : ByteArray) ++ sa) ++ (⟨#[32, 121, 32]⟩ : ByteArray)) ++ sb) ++ (⟨#[32, 122]⟩ : ByteArray)) := by rw [hsa, hsb]; apply ba_ext0; simp [flT, ByteArray.data_append]
  rw [e_P8] at X1
  have P8 := Lib.hid (fun W (hW : Below w.heap.size w W) => goodX_c X1 (EV.out W hW))
  have e_P9 : (⟨(lfT (sgAt i) (sgAt j)).toArray⟩ : ByteArray) = (((((⟨#[40, 120, 32]⟩ : ByteArray) ++ sa) ++ (⟨#[32, 121, 41, 32]⟩ : ByteArray)) ++ sb) ++ (⟨#[32, 122]⟩ : ByteArray)) := by rw [hsa, hsb]; apply ba_ext0; simp [lfT, ByteArray.data_append]
  rw [e_P9] at X2
  have P9 := Lib.hid (fun W (hW : Below w.heap.size w W) => goodX_c X2 (EV.out W hW))
  have e_P10 : (⟨(rgT (sgAt i) (sgAt j)).toArray⟩ : ByteArray) = (((((⟨#[120, 32]⟩ : ByteArray) ++ sa) ++ (⟨#[32, 40, 121, 32]⟩ : ByteArray)) ++ sb) ++ (⟨#[32, 122, 41]⟩ : ByteArray)) := by rw [hsa, hsb]; apply ba_ext0; simp [rgT, ByteArray.data_append]
  rw [e_P10] at X3
  have P10 := Lib.hid (fun W (hW : Below w.heap.size w W) => goodX_c X3 (EV.out W hW))
  have e_P14 : (⟨(stT (sgAt i)).toArray⟩ : ByteArray) = (((⟨#[120, 32, 61, 32, 121, 32]⟩ : ByteArray) ++ sa) ++ (⟨#[32, 122, 32, 63, 32, 121, 32, 124, 32, 120]⟩ : ByteArray)) := by rw [hsa]; apply ba_ext0; simp [stT, ByteArray.data_append]
  rw [e_P14] at X4
  have P14 := Lib.hid (fun W (hW : Below w.heap.size w W) => goodX_c X4 (EV.out W hW))
  have e_P15 : (⟨(alT (sgAt i)).toArray⟩ : ByteArray) = (((⟨#[120, 32, 61, 32, 40, 40, 121, 32]⟩ : ByteArray) ++ sa) ++ (⟨#[32, 122, 41, 32, 63, 32, 121, 32, 124, 32, 120, 41]⟩ : ByteArray)) := by rw [hsa]; apply ba_ext0; simp [alT, ByteArray.data_append]
  rw [e_P15] at X5
  have P15 := Lib.hid (fun W (hW : Below w.heap.size w W) => goodX_c X5 (EV.out W hW))
  clear e_P8 e_P9 e_P10 e_P14 e_P15 X1 X2 X3 X4 X5 F NI NJ
  have z_0 : (⟨#[120, 32]⟩ : ByteArray).size = 2 := rfl
  have z_1 : (⟨#[32, 121, 32]⟩ : ByteArray).size = 3 := rfl
  have z_2 : (⟨#[32, 122]⟩ : ByteArray).size = 2 := rfl
  have z_3 : (⟨#[40, 120, 32]⟩ : ByteArray).size = 3 := rfl
  have z_4 : (⟨#[32, 121, 41, 32]⟩ : ByteArray).size = 4 := rfl
  have z_5 : (⟨#[32, 40, 121, 32]⟩ : ByteArray).size = 4 := rfl
  have z_6 : (⟨#[32, 122, 41]⟩ : ByteArray).size = 3 := rfl
  have z_7 : (⟨#[120, 32, 61, 32, 121, 32]⟩ : ByteArray).size = 6 := rfl
  have z_8 : (⟨#[32, 122, 32, 63, 32, 121, 32, 124, 32, 120]⟩ : ByteArray).size = 10 := rfl
  have z_9 : (⟨#[120, 32, 61, 32, 40, 40, 121, 32]⟩ : ByteArray).size = 8 := rfl
  have z_10 : (⟨#[32, 122, 41, 32, 63, 32, 121, 32, 124, 32, 120, 41]⟩ : ByteArray).size = 12 := rfl
  have hia : (i : Int) < 10 := by omega
  have hja : (j : Int) < 10 := by omega
  have hi_0 : (0 : Int) ≤ (i : Int) := by omega
  have hj_0 : (0 : Int) ≤ (j : Int) := by omega
  go_upto_region 8 with fail
  obtain ⟨wz, hwz⟩ : ∃ W, W = (w2.alloc (.cells sgRow 9)).alloc (.cells lvRow 3) := ⟨_, rfl⟩
  have hwz' := hwz
  unfold sgRow lvRow at hwz'
  rw [← hwz']
  have HB_wz := Lib.hid (show Below w.heap.size w wz by rw [hwz]; exact (HB2.out.alloc HB2.out.size _).alloc (by have := HB2.out.size; simp; omega) _)
  have CA_wz : wz.cell? ⟨w2.heap.size, i, none⟩ = some (.string sa) := by rw [hwz, hsa]; exact sg_cell hi
  have CB_wz : wz.cell? ⟨w2.heap.size, j, none⟩ = some (.string sb) := by rw [hwz, hsb]; exact sg_cell hj
  have LA_wz : wz.cell? ⟨w2.heap.size + 1, i, none⟩ = some (.int .i64 (lvAt i : Nat)) := by rw [hwz]; exact lv_cell hi
  have LB_wz : wz.cell? ⟨w2.heap.size + 1, j, none⟩ = some (.int .i64 (lvAt j : Nat)) := by rw [hwz]; exact lv_cell hj
  have HGZ := Lib.hid (show w2.heap.size + 1 < wz.heap.size by rw [hwz]; simp)
  clear hwz hwz' hsa hsb
  go_upto_region 8 with fail
  go_cut [10, 11] (fun pv ev wx => ∃ G : Nat, pv = .pointer (some ⟨G, 0, none⟩) ∧ ev = .nilIface ∧ Hid (BN wx w.heap.size G fl) ∧ Hid (Below wz.heap.size wz wx))
  case first =>
    have E_8_1 : ∀ W : World, (Op.stringOp .add (⟨#[120, 32]⟩ : ByteArray) sa).run Tryz.prog W = .ok (.string ((⟨#[120, 32]⟩ : ByteArray) ++ sa)) W := fun W => run_string_add_sum W _ _ (by first | omega | (simp only [ByteArray.size_append]; omega))
    have N_8_1 : ¬ (9223372036854775807 : Nat) < 2 + sa.size := by omega
    have E_8_2 : ∀ W : World, (Op.stringOp .add ((⟨#[120, 32]⟩ : ByteArray) ++ sa) (⟨#[32, 121, 32]⟩ : ByteArray)).run Tryz.prog W = .ok (.string (((⟨#[120, 32]⟩ : ByteArray) ++ sa) ++ (⟨#[32, 121, 32]⟩ : ByteArray))) W := fun W => run_string_add_sum W _ _ (by first | omega | (simp only [ByteArray.size_append]; omega))
    have N_8_2 : ¬ (9223372036854775807 : Nat) < 2 + sa.size + 3 := by omega
    have E_8_3 : ∀ W : World, (Op.stringOp .add (((⟨#[120, 32]⟩ : ByteArray) ++ sa) ++ (⟨#[32, 121, 32]⟩ : ByteArray)) sb).run Tryz.prog W = .ok (.string ((((⟨#[120, 32]⟩ : ByteArray) ++ sa) ++ (⟨#[32, 121, 32]⟩ : ByteArray)) ++ sb)) W := fun W => run_string_add_sum W _ _ (by first | omega | (simp only [ByteArray.size_append]; omega))
    have N_8_3 : ¬ (9223372036854775807 : Nat) < 2 + sa.size + 3 + sb.size := by omega
    have E_8_4 : ∀ W : World, (Op.stringOp .add ((((⟨#[120, 32]⟩ : ByteArray) ++ sa) ++ (⟨#[32, 121, 32]⟩ : ByteArray)) ++ sb) (⟨#[32, 122]⟩ : ByteArray)).run Tryz.prog W = .ok (.string (((((⟨#[120, 32]⟩ : ByteArray) ++ sa) ++ (⟨#[32, 121, 32]⟩ : ByteArray)) ++ sb) ++ (⟨#[32, 122]⟩ : ByteArray))) W := fun W => run_string_add_sum W _ _ (by first | omega | (simp only [ByteArray.size_append]; omega))
    have N_8_4 : ¬ (9223372036854775807 : Nat) < 2 + sa.size + 3 + sb.size + 2 := by omega
    obtain ⟨S, hS⟩ : ∃ S : World → Prop, S = fun W => W.cell? ⟨w2.heap.size, i, none⟩ = some (.string sa) ∧ W.cell? ⟨w2.heap.size, j, none⟩ = some (.string sb) ∧ Below wz.heap.size wz W := ⟨_, rfl⟩
    have KS : ∀ W, Below wz.heap.size wz W → S W := fun W hW => by rw [hS]; exact ⟨cell_below hW CA_wz, cell_below hW CB_wz, hW⟩
    have BS : ∀ W, S W → Below wz.heap.size wz W := fun W h => by rw [hS] at h; exact h.2.2
    have C1 := Lib.hid (fun W (h : S W) => (P8.out W (HB_wz.out.trans (below_le' (BS W h) HB_wz.out.size))).mono (R' := fun e W' => ∃ (op ln : Int) (s : ByteArray) (k m : Int) (t : ByteArray) (va : Option Addr) (vc : Nat) (A : Option Addr) (c : Nat) (sub : NL), e = .returned (.tuple #[.agg #[.int .i64 op, .int .i64 ln, .string s, .int .i64 k, .int .i64 m, .string t, .slice va 0 vc, .slice A sub.len c], .nilIface]) ∧ Hid (fl = nd op ln s k m t sub) ∧ Hid (OwnN W' (fun b => W.heap.size ≤ b) (.slice A sub.len c) sub) ∧ Hid (Below W.heap.size W W') ∧ S W')
      fun e W' h1 => by
        obtain ⟨op, ln, s, k, m, t, va, vc, A, c, sub, e1, e2, e3, e4⟩ := pxGood_open (R := W.heap.size) (Nat.le_refl _) h1
        exact ⟨op, ln, s, k, m, t, va, vc, A, c, sub, e1, e2, e3, e4, KS _ ((BS W h).trans (below_le' e4.out (BS W h).size))⟩)
    have K0 : S wz.drew := KS _ ((Below.refl _ _).drew)
    have K1 : S wz := KS _ (Below.refl _ _)
    have KA : ∀ W o, S W → S (W.alloc o) := fun W o h => KS _ ((BS W h).alloc (BS W h).size o)
    have KD : ∀ o, S ((wz.alloc o).drew) := fun o => KS _ (((Below.refl _ _).alloc (Nat.le_refl _) o).drew)
    have K8 : ∀ W (q0 q1_ q2_ q3_ q4_ q5_ q6_ q7_ : Value), S W → S ((((((((W.setCell ⟨wz.heap.size, 0, none⟩ q0).setCell ⟨wz.heap.size, 1, none⟩ q1_).setCell ⟨wz.heap.size, 2, none⟩ q2_).setCell ⟨wz.heap.size, 3, none⟩ q3_).setCell ⟨wz.heap.size, 4, none⟩ q4_).setCell ⟨wz.heap.size, 5, none⟩ q5_).setCell ⟨wz.heap.size, 6, none⟩ q6_).setCell ⟨wz.heap.size, 7, none⟩ q7_) := fun W q0 q1_ q2_ q3_ q4_ q5_ q6_ q7_ h => KS _ (below_st8 (BS W h) (Nat.le_refl _) _ _ _ _ _ _ _ _)
    have NBZ := Lib.hid (fun W' (h : Hid (Below ((wz.alloc (.cells #[.int .i64 0, .int .i64 0, .string ⟨#[]⟩, .int .i64 0, .int .i64 0, .string ⟨#[]⟩, .slice none 0 0, .slice none 0 0] 31)).drew).heap.size ((wz.alloc (.cells #[.int .i64 0, .int .i64 0, .string ⟨#[]⟩, .int .i64 0, .int .i64 0, .string ⟨#[]⟩, .slice none 0 0, .slice none 0 0] 31)).drew) W')) => zN_open (zN_drew h.out))
    have HKS := Lib.hid KS
    clear KS
    subst hS
    go_wp2_with fail
    go_region_held3 (fun W => W.cell? ⟨w2.heap.size, i, none⟩ = some (.string sa) ∧ W.cell? ⟨w2.heap.size, j, none⟩ = some (.string sb) ∧ Below wz.heap.size wz W)
      (first | (with_reducible assumption) | (with_reducible exact K0) | (with_reducible exact KA _ _ (by assumption)) | (with_reducible exact KA _ _ K0) | (with_reducible exact KD _) | (with_reducible exact K8 _ _ _ _ _ _ _ _ _ (by assumption)))
      (first
        | (go_at_call 11; refine (C1.out _ ?_).mono ?_; (with_reducible exact KD _); rintro e w8 ⟨op, ln, s, k, m, t, va, vc, A, c, sub, rfl, he8, ho8, hb8, hs8⟩; obtain ⟨hq8, y0, x0, y1, x1, y2, x2, y3, x3, y4, x4, y5, x5, y6, x6, y7, x7⟩ := NBZ.out w8 (by with_reducible exact hb8))
        | (go_at_call 11; refine (C1.out _ ?_).mono ?_; (with_reducible assumption); rintro e w8 ⟨op, ln, s, k, m, t, va, vc, A, c, sub, rfl, he8, ho8, hb8, hs8⟩)
        | (go_at_call 11; refine (C1.out _ ?_).mono ?_; (with_reducible exact K0); rintro e w8 ⟨op, ln, s, k, m, t, va, vc, A, c, sub, rfl, he8, ho8, hb8, hs8⟩))
    all_goals
      have hz8 := hb8.out.size
      go_wp2_with fail
      go_meet
      first
        | (have hqq := hq8; exact ⟨_, rfl, rfl, Lib.hid (BN.set8 HB_wz.out.size he8.out hq8 (ho8.out.wide (own_past HB_wz.out.size))), Lib.hid (below_st8 hs8.2.2 (Nat.le_refl _) _ _ _ _ _ _ _ _)⟩)
        | exact ⟨_, rfl, rfl, Lib.hid (BN.new (Nat.le_trans HB_wz.out.size hs8.2.2.size) he8.out (ho8.out.wide (fun b hb _ => Nat.le_trans HB_wz.out.size hb))), Lib.hid (hs8.2.2.alloc hs8.2.2.size _)⟩
  case rest =>
    obtain ⟨G8, rfl, rfl, hn_, hb_⟩ := hcut
    obtain ⟨w8, hwe_⟩ : ∃ W, W = wc := ⟨_, rfl⟩
    rw [← hwe_] at hn_ hb_ ⊢
    clear hwe_
    have HN8 := Lib.hid hn_.out
    have HBS_w8 := Lib.hid hb_.out
    have HB_w8 := Lib.hid (HB_wz.out.trans (below_le' hb_.out HB_wz.out.size))
    have CA_w8 := cell_below hb_.out CA_wz
    have CB_w8 := cell_below hb_.out CB_wz
    have LA_w8 := cell_below hb_.out LA_wz
    have LB_w8 := cell_below hb_.out LB_wz
    clear hn_ hb_ CA_wz CB_wz LA_wz LB_wz
    go_upto_region 9 with fail
    go_cut [12, 13] (fun pv ev wx => ∃ G : Nat, pv = .pointer (some ⟨G, 0, none⟩) ∧ ev = .nilIface ∧ Hid (BN wx w.heap.size G lf) ∧ Hid (Below w8.heap.size w8 wx))
    case first =>
      have E_9_1 : ∀ W : World, (Op.stringOp .add (⟨#[40, 120, 32]⟩ : ByteArray) sa).run Tryz.prog W = .ok (.string ((⟨#[40, 120, 32]⟩ : ByteArray) ++ sa)) W := fun W => run_string_add_sum W _ _ (by first | omega | (simp only [ByteArray.size_append]; omega))
      have N_9_1 : ¬ (9223372036854775807 : Nat) < 3 + sa.size := by omega
      have E_9_2 : ∀ W : World, (Op.stringOp .add ((⟨#[40, 120, 32]⟩ : ByteArray) ++ sa) (⟨#[32, 121, 41, 32]⟩ : ByteArray)).run Tryz.prog W = .ok (.string (((⟨#[40, 120, 32]⟩ : ByteArray) ++ sa) ++ (⟨#[32, 121, 41, 32]⟩ : ByteArray))) W := fun W => run_string_add_sum W _ _ (by first | omega | (simp only [ByteArray.size_append]; omega))
      have N_9_2 : ¬ (9223372036854775807 : Nat) < 3 + sa.size + 4 := by omega
      have E_9_3 : ∀ W : World, (Op.stringOp .add (((⟨#[40, 120, 32]⟩ : ByteArray) ++ sa) ++ (⟨#[32, 121, 41, 32]⟩ : ByteArray)) sb).run Tryz.prog W = .ok (.string ((((⟨#[40, 120, 32]⟩ : ByteArray) ++ sa) ++ (⟨#[32, 121, 41, 32]⟩ : ByteArray)) ++ sb)) W := fun W => run_string_add_sum W _ _ (by first | omega | (simp only [ByteArray.size_append]; omega))
      have N_9_3 : ¬ (9223372036854775807 : Nat) < 3 + sa.size + 4 + sb.size := by omega
      have E_9_4 : ∀ W : World, (Op.stringOp .add ((((⟨#[40, 120, 32]⟩ : ByteArray) ++ sa) ++ (⟨#[32, 121, 41, 32]⟩ : ByteArray)) ++ sb) (⟨#[32, 122]⟩ : ByteArray)).run Tryz.prog W = .ok (.string (((((⟨#[40, 120, 32]⟩ : ByteArray) ++ sa) ++ (⟨#[32, 121, 41, 32]⟩ : ByteArray)) ++ sb) ++ (⟨#[32, 122]⟩ : ByteArray))) W := fun W => run_string_add_sum W _ _ (by first | omega | (simp only [ByteArray.size_append]; omega))
      have N_9_4 : ¬ (9223372036854775807 : Nat) < 3 + sa.size + 4 + sb.size + 2 := by omega
      obtain ⟨S, hS⟩ : ∃ S : World → Prop, S = fun W => W.cell? ⟨w2.heap.size, i, none⟩ = some (.string sa) ∧ W.cell? ⟨w2.heap.size, j, none⟩ = some (.string sb) ∧ Below w8.heap.size w8 W := ⟨_, rfl⟩
      have KS : ∀ W, Below w8.heap.size w8 W → S W := fun W hW => by rw [hS]; exact ⟨cell_below hW CA_w8, cell_below hW CB_w8, hW⟩
      have BS : ∀ W, S W → Below w8.heap.size w8 W := fun W h => by rw [hS] at h; exact h.2.2
      have C1 := Lib.hid (fun W (h : S W) => (P9.out W (HB_w8.out.trans (below_le' (BS W h) HB_w8.out.size))).mono (R' := fun e W' => ∃ (op ln : Int) (s : ByteArray) (k m : Int) (t : ByteArray) (va : Option Addr) (vc : Nat) (A : Option Addr) (c : Nat) (sub : NL), e = .returned (.tuple #[.agg #[.int .i64 op, .int .i64 ln, .string s, .int .i64 k, .int .i64 m, .string t, .slice va 0 vc, .slice A sub.len c], .nilIface]) ∧ Hid (lf = nd op ln s k m t sub) ∧ Hid (OwnN W' (fun b => W.heap.size ≤ b) (.slice A sub.len c) sub) ∧ Hid (Below W.heap.size W W') ∧ S W')
        fun e W' h1 => by
          obtain ⟨op, ln, s, k, m, t, va, vc, A, c, sub, e1, e2, e3, e4⟩ := pxGood_open (R := W.heap.size) (Nat.le_refl _) h1
          exact ⟨op, ln, s, k, m, t, va, vc, A, c, sub, e1, e2, e3, e4, KS _ ((BS W h).trans (below_le' e4.out (BS W h).size))⟩)
      have K0 : S w8.drew := KS _ ((Below.refl _ _).drew)
      have K1 : S w8 := KS _ (Below.refl _ _)
      have KA : ∀ W o, S W → S (W.alloc o) := fun W o h => KS _ ((BS W h).alloc (BS W h).size o)
      have KD : ∀ o, S ((w8.alloc o).drew) := fun o => KS _ (((Below.refl _ _).alloc (Nat.le_refl _) o).drew)
      have K8 : ∀ W (q0 q1_ q2_ q3_ q4_ q5_ q6_ q7_ : Value), S W → S ((((((((W.setCell ⟨w8.heap.size, 0, none⟩ q0).setCell ⟨w8.heap.size, 1, none⟩ q1_).setCell ⟨w8.heap.size, 2, none⟩ q2_).setCell ⟨w8.heap.size, 3, none⟩ q3_).setCell ⟨w8.heap.size, 4, none⟩ q4_).setCell ⟨w8.heap.size, 5, none⟩ q5_).setCell ⟨w8.heap.size, 6, none⟩ q6_).setCell ⟨w8.heap.size, 7, none⟩ q7_) := fun W q0 q1_ q2_ q3_ q4_ q5_ q6_ q7_ h => KS _ (below_st8 (BS W h) (Nat.le_refl _) _ _ _ _ _ _ _ _)
      have NBZ := Lib.hid (fun W' (h : Hid (Below ((w8.alloc (.cells #[.int .i64 0, .int .i64 0, .string ⟨#[]⟩, .int .i64 0, .int .i64 0, .string ⟨#[]⟩, .slice none 0 0, .slice none 0 0] 31)).drew).heap.size ((w8.alloc (.cells #[.int .i64 0, .int .i64 0, .string ⟨#[]⟩, .int .i64 0, .int .i64 0, .string ⟨#[]⟩, .slice none 0 0, .slice none 0 0] 31)).drew) W')) => zN_open (zN_drew h.out))
      have HKS := Lib.hid KS
      clear KS
      subst hS
      go_wp2_with fail
      go_region_held3 (fun W => W.cell? ⟨w2.heap.size, i, none⟩ = some (.string sa) ∧ W.cell? ⟨w2.heap.size, j, none⟩ = some (.string sb) ∧ Below w8.heap.size w8 W)
        (first | (with_reducible assumption) | (with_reducible exact K0) | (with_reducible exact KA _ _ (by assumption)) | (with_reducible exact KA _ _ K0) | (with_reducible exact KD _) | (with_reducible exact K8 _ _ _ _ _ _ _ _ _ (by assumption)))
        (first
          | (go_at_call 11; refine (C1.out _ ?_).mono ?_; (with_reducible exact KD _); rintro e w8 ⟨op, ln, s, k, m, t, va, vc, A, c, sub, rfl, he8, ho8, hb8, hs8⟩; obtain ⟨hq8, y0, x0, y1, x1, y2, x2, y3, x3, y4, x4, y5, x5, y6, x6, y7, x7⟩ := NBZ.out w8 (by with_reducible exact hb8))
          | (go_at_call 11; refine (C1.out _ ?_).mono ?_; (with_reducible assumption); rintro e w8 ⟨op, ln, s, k, m, t, va, vc, A, c, sub, rfl, he8, ho8, hb8, hs8⟩)
          | (go_at_call 11; refine (C1.out _ ?_).mono ?_; (with_reducible exact K0); rintro e w8 ⟨op, ln, s, k, m, t, va, vc, A, c, sub, rfl, he8, ho8, hb8, hs8⟩))
      all_goals
        have hz8 := hb8.out.size
        go_wp2_with fail
        go_meet
        first
          | (have hqq := hq8; exact ⟨_, rfl, rfl, Lib.hid (BN.set8 HB_w8.out.size he8.out hq8 (ho8.out.wide (own_past HB_w8.out.size))), Lib.hid (below_st8 hs8.2.2 (Nat.le_refl _) _ _ _ _ _ _ _ _)⟩)
          | exact ⟨_, rfl, rfl, Lib.hid (BN.new (Nat.le_trans HB_w8.out.size hs8.2.2.size) he8.out (ho8.out.wide (fun b hb _ => Nat.le_trans HB_w8.out.size hb))), Lib.hid (hs8.2.2.alloc hs8.2.2.size _)⟩
    case rest =>
      obtain ⟨G9, rfl, rfl, hn_, hb_⟩ := hcut
      obtain ⟨w9, hwe_⟩ : ∃ W, W = wc := ⟨_, rfl⟩
      rw [← hwe_] at hn_ hb_ ⊢
      clear hwe_
      have HN9 := Lib.hid hn_.out
      have HBS_w9 := Lib.hid hb_.out
      have HB_w9 := Lib.hid (HB_w8.out.trans (below_le' hb_.out HB_w8.out.size))
      have CA_w9 := cell_below hb_.out CA_w8
      have CB_w9 := cell_below hb_.out CB_w8
      have LA_w9 := cell_below hb_.out LA_w8
      have LB_w9 := cell_below hb_.out LB_w8
      have HN8 := Lib.hid (HN8.out.below hb_.out)
      clear hn_ hb_ CA_w8 CB_w8 LA_w8 LB_w8
      go_upto_region 10 with fail
      go_cut [14, 15] (fun pv ev wx => ∃ G : Nat, pv = .pointer (some ⟨G, 0, none⟩) ∧ ev = .nilIface ∧ Hid (BN wx w.heap.size G rg) ∧ Hid (Below w9.heap.size w9 wx))
      case first =>
        have E_10_1 : ∀ W : World, (Op.stringOp .add (⟨#[120, 32]⟩ : ByteArray) sa).run Tryz.prog W = .ok (.string ((⟨#[120, 32]⟩ : ByteArray) ++ sa)) W := fun W => run_string_add_sum W _ _ (by first | omega | (simp only [ByteArray.size_append]; omega))
        have N_10_1 : ¬ (9223372036854775807 : Nat) < 2 + sa.size := by omega
        have E_10_2 : ∀ W : World, (Op.stringOp .add ((⟨#[120, 32]⟩ : ByteArray) ++ sa) (⟨#[32, 40, 121, 32]⟩ : ByteArray)).run Tryz.prog W = .ok (.string (((⟨#[120, 32]⟩ : ByteArray) ++ sa) ++ (⟨#[32, 40, 121, 32]⟩ : ByteArray))) W := fun W => run_string_add_sum W _ _ (by first | omega | (simp only [ByteArray.size_append]; omega))
        have N_10_2 : ¬ (9223372036854775807 : Nat) < 2 + sa.size + 4 := by omega
        have E_10_3 : ∀ W : World, (Op.stringOp .add (((⟨#[120, 32]⟩ : ByteArray) ++ sa) ++ (⟨#[32, 40, 121, 32]⟩ : ByteArray)) sb).run Tryz.prog W = .ok (.string ((((⟨#[120, 32]⟩ : ByteArray) ++ sa) ++ (⟨#[32, 40, 121, 32]⟩ : ByteArray)) ++ sb)) W := fun W => run_string_add_sum W _ _ (by first | omega | (simp only [ByteArray.size_append]; omega))
        have N_10_3 : ¬ (9223372036854775807 : Nat) < 2 + sa.size + 4 + sb.size := by omega
        have E_10_4 : ∀ W : World, (Op.stringOp .add ((((⟨#[120, 32]⟩ : ByteArray) ++ sa) ++ (⟨#[32, 40, 121, 32]⟩ : ByteArray)) ++ sb) (⟨#[32, 122, 41]⟩ : ByteArray)).run Tryz.prog W = .ok (.string (((((⟨#[120, 32]⟩ : ByteArray) ++ sa) ++ (⟨#[32, 40, 121, 32]⟩ : ByteArray)) ++ sb) ++ (⟨#[32, 122, 41]⟩ : ByteArray))) W := fun W => run_string_add_sum W _ _ (by first | omega | (simp only [ByteArray.size_append]; omega))
        have N_10_4 : ¬ (9223372036854775807 : Nat) < 2 + sa.size + 4 + sb.size + 3 := by omega
        obtain ⟨S, hS⟩ : ∃ S : World → Prop, S = fun W => W.cell? ⟨w2.heap.size, i, none⟩ = some (.string sa) ∧ W.cell? ⟨w2.heap.size, j, none⟩ = some (.string sb) ∧ Below w9.heap.size w9 W := ⟨_, rfl⟩
        have KS : ∀ W, Below w9.heap.size w9 W → S W := fun W hW => by rw [hS]; exact ⟨cell_below hW CA_w9, cell_below hW CB_w9, hW⟩
        have BS : ∀ W, S W → Below w9.heap.size w9 W := fun W h => by rw [hS] at h; exact h.2.2
        have C1 := Lib.hid (fun W (h : S W) => (P10.out W (HB_w9.out.trans (below_le' (BS W h) HB_w9.out.size))).mono (R' := fun e W' => ∃ (op ln : Int) (s : ByteArray) (k m : Int) (t : ByteArray) (va : Option Addr) (vc : Nat) (A : Option Addr) (c : Nat) (sub : NL), e = .returned (.tuple #[.agg #[.int .i64 op, .int .i64 ln, .string s, .int .i64 k, .int .i64 m, .string t, .slice va 0 vc, .slice A sub.len c], .nilIface]) ∧ Hid (rg = nd op ln s k m t sub) ∧ Hid (OwnN W' (fun b => W.heap.size ≤ b) (.slice A sub.len c) sub) ∧ Hid (Below W.heap.size W W') ∧ S W')
          fun e W' h1 => by
            obtain ⟨op, ln, s, k, m, t, va, vc, A, c, sub, e1, e2, e3, e4⟩ := pxGood_open (R := W.heap.size) (Nat.le_refl _) h1
            exact ⟨op, ln, s, k, m, t, va, vc, A, c, sub, e1, e2, e3, e4, KS _ ((BS W h).trans (below_le' e4.out (BS W h).size))⟩)
        have K0 : S w9.drew := KS _ ((Below.refl _ _).drew)
        have K1 : S w9 := KS _ (Below.refl _ _)
        have KA : ∀ W o, S W → S (W.alloc o) := fun W o h => KS _ ((BS W h).alloc (BS W h).size o)
        have KD : ∀ o, S ((w9.alloc o).drew) := fun o => KS _ (((Below.refl _ _).alloc (Nat.le_refl _) o).drew)
        have K8 : ∀ W (q0 q1_ q2_ q3_ q4_ q5_ q6_ q7_ : Value), S W → S ((((((((W.setCell ⟨w9.heap.size, 0, none⟩ q0).setCell ⟨w9.heap.size, 1, none⟩ q1_).setCell ⟨w9.heap.size, 2, none⟩ q2_).setCell ⟨w9.heap.size, 3, none⟩ q3_).setCell ⟨w9.heap.size, 4, none⟩ q4_).setCell ⟨w9.heap.size, 5, none⟩ q5_).setCell ⟨w9.heap.size, 6, none⟩ q6_).setCell ⟨w9.heap.size, 7, none⟩ q7_) := fun W q0 q1_ q2_ q3_ q4_ q5_ q6_ q7_ h => KS _ (below_st8 (BS W h) (Nat.le_refl _) _ _ _ _ _ _ _ _)
        have NBZ := Lib.hid (fun W' (h : Hid (Below ((w9.alloc (.cells #[.int .i64 0, .int .i64 0, .string ⟨#[]⟩, .int .i64 0, .int .i64 0, .string ⟨#[]⟩, .slice none 0 0, .slice none 0 0] 31)).drew).heap.size ((w9.alloc (.cells #[.int .i64 0, .int .i64 0, .string ⟨#[]⟩, .int .i64 0, .int .i64 0, .string ⟨#[]⟩, .slice none 0 0, .slice none 0 0] 31)).drew) W')) => zN_open (zN_drew h.out))
        have HKS := Lib.hid KS
        clear KS
        subst hS
        go_wp2_with fail
        go_region_held3 (fun W => W.cell? ⟨w2.heap.size, i, none⟩ = some (.string sa) ∧ W.cell? ⟨w2.heap.size, j, none⟩ = some (.string sb) ∧ Below w9.heap.size w9 W)
          (first | (with_reducible assumption) | (with_reducible exact K0) | (with_reducible exact KA _ _ (by assumption)) | (with_reducible exact KA _ _ K0) | (with_reducible exact KD _) | (with_reducible exact K8 _ _ _ _ _ _ _ _ _ (by assumption)))
          (first
            | (go_at_call 11; refine (C1.out _ ?_).mono ?_; (with_reducible exact KD _); rintro e w8 ⟨op, ln, s, k, m, t, va, vc, A, c, sub, rfl, he8, ho8, hb8, hs8⟩; obtain ⟨hq8, y0, x0, y1, x1, y2, x2, y3, x3, y4, x4, y5, x5, y6, x6, y7, x7⟩ := NBZ.out w8 (by with_reducible exact hb8))
            | (go_at_call 11; refine (C1.out _ ?_).mono ?_; (with_reducible assumption); rintro e w8 ⟨op, ln, s, k, m, t, va, vc, A, c, sub, rfl, he8, ho8, hb8, hs8⟩)
            | (go_at_call 11; refine (C1.out _ ?_).mono ?_; (with_reducible exact K0); rintro e w8 ⟨op, ln, s, k, m, t, va, vc, A, c, sub, rfl, he8, ho8, hb8, hs8⟩))
        all_goals
          have hz8 := hb8.out.size
          go_wp2_with fail
          go_meet
          first
            | (have hqq := hq8; exact ⟨_, rfl, rfl, Lib.hid (BN.set8 HB_w9.out.size he8.out hq8 (ho8.out.wide (own_past HB_w9.out.size))), Lib.hid (below_st8 hs8.2.2 (Nat.le_refl _) _ _ _ _ _ _ _ _)⟩)
            | exact ⟨_, rfl, rfl, Lib.hid (BN.new (Nat.le_trans HB_w9.out.size hs8.2.2.size) he8.out (ho8.out.wide (fun b hb _ => Nat.le_trans HB_w9.out.size hb))), Lib.hid (hs8.2.2.alloc hs8.2.2.size _)⟩
      case rest =>
        obtain ⟨G10, rfl, rfl, hn_, hb_⟩ := hcut
        obtain ⟨w10, hwe_⟩ : ∃ W, W = wc := ⟨_, rfl⟩
        rw [← hwe_] at hn_ hb_ ⊢
        clear hwe_
        have HN10 := Lib.hid hn_.out
        have HBS_w10 := Lib.hid hb_.out
        have HB_w10 := Lib.hid (HB_w9.out.trans (below_le' hb_.out HB_w9.out.size))
        have CA_w10 := cell_below hb_.out CA_w9
        have CB_w10 := cell_below hb_.out CB_w9
        have LA_w10 := cell_below hb_.out LA_w9
        have LB_w10 := cell_below hb_.out LB_w9
        have HN8 := Lib.hid (HN8.out.below hb_.out)
        have HN9 := Lib.hid (HN9.out.below hb_.out)
        clear hn_ hb_ CA_w9 CB_w9 LA_w9 LB_w9
        obtain ⟨hR2, o2, l2, s2, k2, m2, t2, va2, vc2, A2, c2, sub2, e2, nb2, ow2⟩ := HN9.out
        have y20 := nb2.c0; have y21 := nb2.c1; have y22 := nb2.c2; have y23 := nb2.c3; have y24 := nb2.c4; have y25 := nb2.c5; have y26 := nb2.c6; have y27 := nb2.c7
        have HN10k := HN10
        have HN8T := HN8
        have CAK := Lib.hid CA_w10
        have CBK := Lib.hid CB_w10
        obtain ⟨w11, hw11⟩ : ∃ W, W = w10.alloc (.cells #[.int .i64 o2, .int .i64 l2, .string s2, .int .i64 k2, .int .i64 m2, .string t2, .slice va2 0 vc2, .slice A2 sub2.len c2] 31) := ⟨_, rfl⟩
        have hb11 : Below w10.heap.size w10 w11 := by rw [hw11]; exact (Below.refl _ _).alloc (Nat.le_refl _) _
        have hn11 : BN w11 w.heap.size w10.heap.size lf := by rw [hw11]; exact BN.new HB_w10.out.size e2 ow2
        have HB_w11 := Lib.hid (HB_w10.out.trans (below_le' hb11 HB_w10.out.size))
        have HB1011 := Lib.hid hb11
        have HN11 := Lib.hid hn11
        have HW11 := Lib.hid hw11
        have CA_w11 := cell_below hb11 CA_w10
        have CB_w11 := cell_below hb11 CB_w10
        have LA_w11 := cell_below hb11 LA_w10
        have LB_w11 := cell_below hb11 LB_w10
        have HN8 := Lib.hid (HN8.out.below hb11)
        have HN10 := Lib.hid (HN10.out.below hb11)
        clear hw11 hb11 hn11 CA_w10 CB_w10 LA_w10 LB_w10 nb2 ow2 e2 hR2
        go_upto_region 12 with fail
        rw [← HW11.out]
        clear y20 y21 y22 y23 y24 y25 y26 y27
        have HGZ1 := HB_w11.out.size
        have CAT := Lib.hid (fun W (hW : Below w10.heap.size w10 W) => cell_below hW CAK.out)
        have CBT := Lib.hid (fun W (hW : Below w10.heap.size w10 W) => cell_below hW CBK.out)
        by_cases hlt : lvAt i < lvAt j
        · have q9 : ((lvAt i : Nat) : Int) < ((lvAt j : Nat) : Int) := by omega
          have Y1 := HY1.out
          rw [if_pos hlt] at Y1
          have HY1 := Lib.hid Y1
          clear Y1
          clear hlt
          go_quiet (fail)
          generalize hwq : World.drewN w11 _ = wq
          have hbq : Below w11.heap.size w11 wq := by rw [← hwq]; exact ⟨rfl, rfl, rfl, Nat.le_refl _, fun _ _ => rfl⟩
          clear hwq
          have hb1q : Below w10.heap.size w10 wq := HB1011.out.trans (below_le' hbq HB1011.out.size)
          obtain ⟨hR3, o3, l3, s3, k3, m3, t3, va3, vc3, A3, c3, sub3, e3, nb3, ow3⟩ := HN10k.out
          have hq3 := nb3.below' hb1q
          have y30 := hq3.c0; have y31 := hq3.c1; have y32 := hq3.c2; have y33 := hq3.c3; have y34 := hq3.c4; have y35 := hq3.c5; have y36 := hq3.c6; have y37 := hq3.c7
          have ow3q := (ow3.wide (D' := fun b => w.heap.size ≤ b ∧ b ≠ w10.heap.size) (fun b hb hb2 => ⟨hb, Nat.ne_of_lt hb2⟩)).below hb1q
          obtain ⟨hR4, o4, l4, s4, k4, m4, t4, va4, vc4, A4, c4, sub4, e4, nb4, ow4⟩ := HN11.out
          have hq4 := nb4.below' hbq
          have y40 := hq4.c0; have y41 := hq4.c1; have y42 := hq4.c2; have y43 := hq4.c3; have y44 := hq4.c4; have y45 := hq4.c5; have y46 := hq4.c6; have y47 := hq4.c7
          have x40 := hq4.fr 0; have x41 := hq4.fr 1; have x42 := hq4.fr 2; have x43 := hq4.fr 3; have x44 := hq4.fr 4; have x45 := hq4.fr 5; have x46 := hq4.fr 6; have x47 := hq4.fr 7
          obtain ⟨wt, hwt⟩ : ∃ W, W = ((((((((wq.setCell ⟨w10.heap.size, 0, none⟩ (.int .i64 o3)).setCell ⟨w10.heap.size, 1, none⟩ (.int .i64 l3)).setCell ⟨w10.heap.size, 2, none⟩ (.string s3)).setCell ⟨w10.heap.size, 3, none⟩ (.int .i64 k3)).setCell ⟨w10.heap.size, 4, none⟩ (.int .i64 m3)).setCell ⟨w10.heap.size, 5, none⟩ (.string t3)).setCell ⟨w10.heap.size, 6, none⟩ (.slice va3 0 vc3)).setCell ⟨w10.heap.size, 7, none⟩ (.slice A3 sub3.len c3)) := ⟨_, rfl⟩
          have hbt : Below w10.heap.size w10 wt := by rw [hwt]; exact below_st8 (HB1011.out.trans (below_le' hbq HB1011.out.size)) (Nat.le_refl _) _ _ _ _ _ _ _ _
          have HN11t := Lib.hid (show BN wt w.heap.size w10.heap.size rg by rw [hwt]; exact BN.set8 HB_w10.out.size e3 hq4 ow3q)
          have HB_wt := Lib.hid (HB_w10.out.trans (below_le' hbt HB_w10.out.size))
          have CA_wt := CAT.out wt hbt
          have CB_wt := CBT.out wt hbt
          have HN8 := Lib.hid (HN8T.out.below hbt)
          have HWT := Lib.hid hwt
          have HN11 := HN11t
          clear hwt hbt hb1q HN11t nb3 nb4 hq3 hq4 ow3 ow3q ow4 e3 e4 hR3 hR4
          go_upto_region 14 with fail
          rw [← HWT.out]
          clear y30 y31 y32 y33 y34 y35 y36 y37 y40 y41 y42 y43 y44 y45 y46 y47 x40 x41 x42 x43 x44 x45 x46 x47
          clear CA_w11 CB_w11 LA_w11 LB_w11 HN10 HN9
          go_upto_region 14 with fail
          go_cut [17, 18] (fun pv ev wx => ∃ G : Nat, pv = .pointer (some ⟨G, 0, none⟩) ∧ ev = .nilIface ∧ Hid (BN wx w.heap.size G st) ∧ Hid (Below wt.heap.size wt wx))
          case first =>
            have E_14_1 : ∀ W : World, (Op.stringOp .add (⟨#[120, 32, 61, 32, 121, 32]⟩ : ByteArray) sa).run Tryz.prog W = .ok (.string ((⟨#[120, 32, 61, 32, 121, 32]⟩ : ByteArray) ++ sa)) W := fun W => run_string_add_sum W _ _ (by first | omega | (simp only [ByteArray.size_append]; omega))
            have N_14_1 : ¬ (9223372036854775807 : Nat) < 6 + sa.size := by omega
            have E_14_2 : ∀ W : World, (Op.stringOp .add ((⟨#[120, 32, 61, 32, 121, 32]⟩ : ByteArray) ++ sa) (⟨#[32, 122, 32, 63, 32, 121, 32, 124, 32, 120]⟩ : ByteArray)).run Tryz.prog W = .ok (.string (((⟨#[120, 32, 61, 32, 121, 32]⟩ : ByteArray) ++ sa) ++ (⟨#[32, 122, 32, 63, 32, 121, 32, 124, 32, 120]⟩ : ByteArray))) W := fun W => run_string_add_sum W _ _ (by first | omega | (simp only [ByteArray.size_append]; omega))
            have N_14_2 : ¬ (9223372036854775807 : Nat) < 6 + sa.size + 10 := by omega
            obtain ⟨S, hS⟩ : ∃ S : World → Prop, S = fun W => W.cell? ⟨w2.heap.size, i, none⟩ = some (.string sa) ∧ Below wt.heap.size wt W := ⟨_, rfl⟩
            have KS : ∀ W, Below wt.heap.size wt W → S W := fun W hW => by rw [hS]; exact ⟨cell_below hW CA_wt, hW⟩
            have BS : ∀ W, S W → Below wt.heap.size wt W := fun W h => by rw [hS] at h; exact h.2
            have C1 := Lib.hid (fun W (h : S W) => (P14.out W (HB_wt.out.trans (below_le' (BS W h) HB_wt.out.size))).mono (R' := fun e W' => ∃ (op ln : Int) (s : ByteArray) (k m : Int) (t : ByteArray) (va : Option Addr) (vc : Nat) (A : Option Addr) (c : Nat) (sub : NL), e = .returned (.tuple #[.agg #[.int .i64 op, .int .i64 ln, .string s, .int .i64 k, .int .i64 m, .string t, .slice va 0 vc, .slice A sub.len c], .nilIface]) ∧ Hid (st = nd op ln s k m t sub) ∧ Hid (OwnN W' (fun b => W.heap.size ≤ b) (.slice A sub.len c) sub) ∧ Hid (Below W.heap.size W W') ∧ S W')
              fun e W' h1 => by
                obtain ⟨op, ln, s, k, m, t, va, vc, A, c, sub, e1, e2, e3, e4⟩ := pxGood_open (R := W.heap.size) (Nat.le_refl _) h1
                exact ⟨op, ln, s, k, m, t, va, vc, A, c, sub, e1, e2, e3, e4, KS _ ((BS W h).trans (below_le' e4.out (BS W h).size))⟩)
            have K0 : S wt.drew := KS _ ((Below.refl _ _).drew)
            have K1 : S wt := KS _ (Below.refl _ _)
            have KA : ∀ W o, S W → S (W.alloc o) := fun W o h => KS _ ((BS W h).alloc (BS W h).size o)
            have KD : ∀ o, S ((wt.alloc o).drew) := fun o => KS _ (((Below.refl _ _).alloc (Nat.le_refl _) o).drew)
            have K8 : ∀ W (q0 q1_ q2_ q3_ q4_ q5_ q6_ q7_ : Value), S W → S ((((((((W.setCell ⟨wt.heap.size, 0, none⟩ q0).setCell ⟨wt.heap.size, 1, none⟩ q1_).setCell ⟨wt.heap.size, 2, none⟩ q2_).setCell ⟨wt.heap.size, 3, none⟩ q3_).setCell ⟨wt.heap.size, 4, none⟩ q4_).setCell ⟨wt.heap.size, 5, none⟩ q5_).setCell ⟨wt.heap.size, 6, none⟩ q6_).setCell ⟨wt.heap.size, 7, none⟩ q7_) := fun W q0 q1_ q2_ q3_ q4_ q5_ q6_ q7_ h => KS _ (below_st8 (BS W h) (Nat.le_refl _) _ _ _ _ _ _ _ _)
            have NBZ := Lib.hid (fun W' (h : Hid (Below ((wt.alloc (.cells #[.int .i64 0, .int .i64 0, .string ⟨#[]⟩, .int .i64 0, .int .i64 0, .string ⟨#[]⟩, .slice none 0 0, .slice none 0 0] 31)).drew).heap.size ((wt.alloc (.cells #[.int .i64 0, .int .i64 0, .string ⟨#[]⟩, .int .i64 0, .int .i64 0, .string ⟨#[]⟩, .slice none 0 0, .slice none 0 0] 31)).drew) W')) => zN_open (zN_drew h.out))
            have HKS := Lib.hid KS
            clear KS
            subst hS
            clear K0 KA KD K8 NBZ
            go_wp2_with fail
            refine (C1.out _ K1).mono ?_
            rintro e w8 ⟨op, ln, s, k, m, t, va, vc, A, c, sub, rfl, he8, ho8, hb8, hs8⟩
            have hz8 := hb8.out.size
            go_wp2_with fail
            go_meet
            exact ⟨w8.heap.size, rfl, rfl, Lib.hid (BN.new (by have := HB_wt.out.size; omega) he8.out (ho8.out.wide (fun b hb _ => by have := HB_wt.out.size; omega))), Lib.hid (hb8.out.alloc hb8.out.size _)⟩
          case rest =>
            obtain ⟨G17, rfl, rfl, hn_, hb_⟩ := hcut
            obtain ⟨w14, hwe_⟩ : ∃ W, W = wc := ⟨_, rfl⟩
            rw [← hwe_] at hn_ hb_ ⊢
            clear hwe_
            have HN17 := Lib.hid hn_.out
            have HBS_w14 := Lib.hid hb_.out
            have HB_w14 := Lib.hid (HB_wt.out.trans (below_le' hb_.out HB_wt.out.size))
            have CA_w14 := cell_below hb_.out CA_wt
            have CB_w14 := cell_below hb_.out CB_wt
            have HN8 := Lib.hid (HN8.out.below hb_.out)
            have HN11 := Lib.hid (HN11.out.below hb_.out)
            clear hn_ hb_ CA_wt CB_wt
            go_upto_region 15 with fail
            go_cut [19, 20] (fun pv ev wx => ∃ G : Nat, pv = .pointer (some ⟨G, 0, none⟩) ∧ ev = .nilIface ∧ Hid (BN wx w.heap.size G al) ∧ Hid (Below w14.heap.size w14 wx))
            case first =>
              have E_15_1 : ∀ W : World, (Op.stringOp .add (⟨#[120, 32, 61, 32, 40, 40, 121, 32]⟩ : ByteArray) sa).run Tryz.prog W = .ok (.string ((⟨#[120, 32, 61, 32, 40, 40, 121, 32]⟩ : ByteArray) ++ sa)) W := fun W => run_string_add_sum W _ _ (by first | omega | (simp only [ByteArray.size_append]; omega))
              have N_15_1 : ¬ (9223372036854775807 : Nat) < 8 + sa.size := by omega
              have E_15_2 : ∀ W : World, (Op.stringOp .add ((⟨#[120, 32, 61, 32, 40, 40, 121, 32]⟩ : ByteArray) ++ sa) (⟨#[32, 122, 41, 32, 63, 32, 121, 32, 124, 32, 120, 41]⟩ : ByteArray)).run Tryz.prog W = .ok (.string (((⟨#[120, 32, 61, 32, 40, 40, 121, 32]⟩ : ByteArray) ++ sa) ++ (⟨#[32, 122, 41, 32, 63, 32, 121, 32, 124, 32, 120, 41]⟩ : ByteArray))) W := fun W => run_string_add_sum W _ _ (by first | omega | (simp only [ByteArray.size_append]; omega))
              have N_15_2 : ¬ (9223372036854775807 : Nat) < 8 + sa.size + 12 := by omega
              obtain ⟨S, hS⟩ : ∃ S : World → Prop, S = fun W => W.cell? ⟨w2.heap.size, i, none⟩ = some (.string sa) ∧ Below w14.heap.size w14 W := ⟨_, rfl⟩
              have KS : ∀ W, Below w14.heap.size w14 W → S W := fun W hW => by rw [hS]; exact ⟨cell_below hW CA_w14, hW⟩
              have BS : ∀ W, S W → Below w14.heap.size w14 W := fun W h => by rw [hS] at h; exact h.2
              have C1 := Lib.hid (fun W (h : S W) => (P15.out W (HB_w14.out.trans (below_le' (BS W h) HB_w14.out.size))).mono (R' := fun e W' => ∃ (op ln : Int) (s : ByteArray) (k m : Int) (t : ByteArray) (va : Option Addr) (vc : Nat) (A : Option Addr) (c : Nat) (sub : NL), e = .returned (.tuple #[.agg #[.int .i64 op, .int .i64 ln, .string s, .int .i64 k, .int .i64 m, .string t, .slice va 0 vc, .slice A sub.len c], .nilIface]) ∧ Hid (al = nd op ln s k m t sub) ∧ Hid (OwnN W' (fun b => W.heap.size ≤ b) (.slice A sub.len c) sub) ∧ Hid (Below W.heap.size W W') ∧ S W')
                fun e W' h1 => by
                  obtain ⟨op, ln, s, k, m, t, va, vc, A, c, sub, e1, e2, e3, e4⟩ := pxGood_open (R := W.heap.size) (Nat.le_refl _) h1
                  exact ⟨op, ln, s, k, m, t, va, vc, A, c, sub, e1, e2, e3, e4, KS _ ((BS W h).trans (below_le' e4.out (BS W h).size))⟩)
              have K0 : S w14.drew := KS _ ((Below.refl _ _).drew)
              have K1 : S w14 := KS _ (Below.refl _ _)
              have KA : ∀ W o, S W → S (W.alloc o) := fun W o h => KS _ ((BS W h).alloc (BS W h).size o)
              have KD : ∀ o, S ((w14.alloc o).drew) := fun o => KS _ (((Below.refl _ _).alloc (Nat.le_refl _) o).drew)
              have K8 : ∀ W (q0 q1_ q2_ q3_ q4_ q5_ q6_ q7_ : Value), S W → S ((((((((W.setCell ⟨w14.heap.size, 0, none⟩ q0).setCell ⟨w14.heap.size, 1, none⟩ q1_).setCell ⟨w14.heap.size, 2, none⟩ q2_).setCell ⟨w14.heap.size, 3, none⟩ q3_).setCell ⟨w14.heap.size, 4, none⟩ q4_).setCell ⟨w14.heap.size, 5, none⟩ q5_).setCell ⟨w14.heap.size, 6, none⟩ q6_).setCell ⟨w14.heap.size, 7, none⟩ q7_) := fun W q0 q1_ q2_ q3_ q4_ q5_ q6_ q7_ h => KS _ (below_st8 (BS W h) (Nat.le_refl _) _ _ _ _ _ _ _ _)
              have NBZ := Lib.hid (fun W' (h : Hid (Below ((w14.alloc (.cells #[.int .i64 0, .int .i64 0, .string ⟨#[]⟩, .int .i64 0, .int .i64 0, .string ⟨#[]⟩, .slice none 0 0, .slice none 0 0] 31)).drew).heap.size ((w14.alloc (.cells #[.int .i64 0, .int .i64 0, .string ⟨#[]⟩, .int .i64 0, .int .i64 0, .string ⟨#[]⟩, .slice none 0 0, .slice none 0 0] 31)).drew) W')) => zN_open (zN_drew h.out))
              have HKS := Lib.hid KS
              clear KS
              subst hS
              clear K0 KA KD K8 NBZ
              go_wp2_with fail
              refine (C1.out _ K1).mono ?_
              rintro e w8 ⟨op, ln, s, k, m, t, va, vc, A, c, sub, rfl, he8, ho8, hb8, hs8⟩
              have hz8 := hb8.out.size
              go_wp2_with fail
              go_meet
              exact ⟨w8.heap.size, rfl, rfl, Lib.hid (BN.new (by have := HB_w14.out.size; omega) he8.out (ho8.out.wide (fun b hb _ => by have := HB_w14.out.size; omega))), Lib.hid (hb8.out.alloc hb8.out.size _)⟩
            case rest =>
              obtain ⟨G19, rfl, rfl, hn_, hb_⟩ := hcut
              obtain ⟨w15, hwe_⟩ : ∃ W, W = wc := ⟨_, rfl⟩
              rw [← hwe_] at hn_ hb_ ⊢
              clear hwe_
              have HN19 := Lib.hid hn_.out
              have HBS_w15 := Lib.hid hb_.out
              have HB_w15 := Lib.hid (HB_w14.out.trans (below_le' hb_.out HB_w14.out.size))
              have CA_w15 := cell_below hb_.out CA_w14
              have CB_w15 := cell_below hb_.out CB_w14
              have HN8 := Lib.hid (HN8.out.below hb_.out)
              have HN11 := Lib.hid (HN11.out.below hb_.out)
              have HN17 := Lib.hid (HN17.out.below hb_.out)
              clear hn_ hb_ CA_w14 CB_w14
              clear CA_w15 CB_w15
              obtain ⟨hR5, o5, l5, s5, k5, m5, t5, va5, vc5, A5, c5, sub5, e5, nb5, ow5⟩ := HN8.out
              obtain ⟨hR6, o6, l6, s6, k6, m6, t6, va6, vc6, A6, c6, sub6, e6, nb6, ow6⟩ := HN11.out
              have y50 := nb5.c0; have y51 := nb5.c1; have y52 := nb5.c2; have y53 := nb5.c3; have y54 := nb5.c4; have y55 := nb5.c5; have y56 := nb5.c6; have y57 := nb5.c7
              obtain ⟨wp, hwp⟩ : ∃ W, W = w15.alloc (.cells #[.int .i64 o5, .int .i64 l5, .string s5, .int .i64 k5, .int .i64 m5, .string t5, .slice va5 0 vc5, .slice A5 sub5.len c5] 31) := ⟨_, rfl⟩
              have hbp : Below w15.heap.size w15 wp := by rw [hwp]; exact (Below.refl _ _).alloc (Nat.le_refl _) _
              have hzp : wp.heap.size = w15.heap.size + 1 := by rw [hwp]; simp
              have q5 : BN wp w.heap.size w15.heap.size fl := by rw [hwp]; exact BN.new HB_w15.out.size e5 ow5
              have h6p := nb6.below' hbp
              have y60 := h6p.c0; have y61 := h6p.c1; have y62 := h6p.c2; have y63 := h6p.c3; have y64 := h6p.c4; have y65 := h6p.c5; have y66 := h6p.c6; have y67 := h6p.c7
              obtain ⟨wr, hwr⟩ : ∃ W, W = wp.alloc (.cells #[.int .i64 o6, .int .i64 l6, .string s6, .int .i64 k6, .int .i64 m6, .string t6, .slice va6 0 vc6, .slice A6 sub6.len c6] 31) := ⟨_, rfl⟩
              have hbr : Below wp.heap.size wp wr := by rw [hwr]; exact (Below.refl _ _).alloc (Nat.le_refl _) _
              have q6 : BN wr w.heap.size wp.heap.size rg := by rw [hwr]; exact BN.new (by have := HB_w15.out.size; omega) e6 (ow6.below hbp)
              have AC := Lib.hid (bn_alike (q5.below hbr) q6 F1.out F3.out)
              rw [hzp] at AC
              rw [HY1.out] at AC
              have HB_wr := Lib.hid (HB_w15.out.trans (below_le' (hbp.trans (below_le' hbr hbp.size)) HB_w15.out.size))
              have HN17 := Lib.hid ((HN17.out.below hbp).below hbr)
              have HN19 := Lib.hid ((HN19.out.below hbp).below hbr)
              have HWP := Lib.hid hwp
              have HWR := Lib.hid hwr
              rw [hwp] at y60 y61 y62 y63 y64 y65 y66 y67
              clear hwp hwr hbp hbr hzp q5 q6 h6p nb5 nb6 ow5 ow6 e5 e6 hR5 hR6 HN8 HN11
              go_wp2_with fail
              rw [← HWP.out, ← HWR.out]
              refine AC.out.mono ?_
              rintro e w16 ⟨rfl, hb16⟩
              clear y50 y51 y52 y53 y54 y55 y56 y57 y60 y61 y62 y63 y64 y65 y66 y67
              have HB_w16 := Lib.hid (HB_wr.out.trans (below_le' hb16 HB_wr.out.size))
              have HN17 := Lib.hid (HN17.out.below hb16)
              have HN19 := Lib.hid (HN19.out.below hb16)
              clear hb16
              obtain ⟨hR7, o7, l7, s7, k7, m7, t7, va7, vc7, A7, c7, sub7, e7, nb7, ow7⟩ := HN17.out
              obtain ⟨hR8, o8, l8, s8, k8, m8, t8, va8, vc8, A8, c8, sub8, e8, nb8, ow8⟩ := HN19.out
              obtain rfl : o7 = 27 := by have h := HY3.out; rw [e7] at h; exact h
              have y70 := nb7.c0; have y71 := nb7.c1; have y72 := nb7.c2; have y73 := nb7.c3; have y74 := nb7.c4; have y75 := nb7.c5; have y76 := nb7.c6; have y77 := nb7.c7
              obtain ⟨ws, hws⟩ : ∃ W, W = w16.alloc (.cells #[.int .i64 27, .int .i64 l7, .string s7, .int .i64 k7, .int .i64 m7, .string t7, .slice va7 0 vc7, .slice A7 sub7.len c7] 31) := ⟨_, rfl⟩
              have hbs : Below w16.heap.size w16 ws := by rw [hws]; exact (Below.refl _ _).alloc (Nat.le_refl _) _
              have hzs : ws.heap.size = w16.heap.size + 1 := by rw [hws]; simp
              have q7 : BN ws w.heap.size w16.heap.size st := by rw [hws]; exact BN.new HB_w16.out.size e7 ow7
              have h8s := nb8.below' hbs
              have y80 := h8s.c0; have y81 := h8s.c1; have y82 := h8s.c2; have y83 := h8s.c3; have y84 := h8s.c4; have y85 := h8s.c5; have y86 := h8s.c6; have y87 := h8s.c7
              obtain ⟨wu, hwu⟩ : ∃ W, W = ws.alloc (.cells #[.int .i64 o8, .int .i64 l8, .string s8, .int .i64 k8, .int .i64 m8, .string t8, .slice va8 0 vc8, .slice A8 sub8.len c8] 31) := ⟨_, rfl⟩
              have hbu : Below ws.heap.size ws wu := by rw [hwu]; exact (Below.refl _ _).alloc (Nat.le_refl _) _
              have q8 : BN wu w.heap.size ws.heap.size al := by rw [hwu]; exact BN.new (by have := HB_w16.out.size; omega) e8 (ow8.below hbs)
              have AD := Lib.hid (bn_alike (q7.below hbu) q8 F4.out F5.out)
              rw [hzs] at AD
              rw [HY2.out] at AD
              have HB_wu := Lib.hid (HB_w16.out.trans (below_le' (hbs.trans (below_le' hbu hbs.size)) HB_w16.out.size))
              have HN17 := Lib.hid ((HN17.out.below hbs).below hbu)
              have HC17 := Lib.hid (show ∀ W, Below wu.heap.size wu W → W.cell? ⟨G17, 0, none⟩ = some (.int .i64 27) from fun W hW => cell_below hW (cell_below hbu (cell_below hbs y70)))
              have HWS := Lib.hid hws
              have HWU := Lib.hid hwu
              rw [hws] at y80 y81 y82 y83 y84 y85 y86 y87
              clear hws hwu hbs hbu hzs q7 q8 h8s nb7 nb8 ow7 ow8 e7 e8 hR7 hR8 HN17 HN19
              go_wp2_with fail
              rw [← HWS.out, ← HWU.out]
              refine AD.out.mono ?_
              rintro e w17 ⟨rfl, hb17⟩
              clear y70 y71 y72 y73 y74 y75 y76 y77 y80 y81 y82 y83 y84 y85 y86 y87
              have HB_w17 := Lib.hid (HB_wu.out.trans (below_le' hb17 HB_wu.out.size))
              have y90 := HC17.out w17 hb17
              clear hb17
              go_wp2_with fail
              go_ret
              exact ⟨rfl, HB_w17.out⟩
        · have q9 : ¬ ((lvAt i : Nat) : Int) < ((lvAt j : Nat) : Int) := by omega
          have Y1 := HY1.out
          rw [if_neg hlt] at Y1
          have HY1 := Lib.hid Y1
          clear Y1
          clear hlt
          go_quiet (fail)
          generalize hwq : World.drewN w11 _ = wq
          have hbq : Below w11.heap.size w11 wq := by rw [← hwq]; exact ⟨rfl, rfl, rfl, Nat.le_refl _, fun _ _ => rfl⟩
          clear hwq
          obtain ⟨wt, hwt⟩ : ∃ W, W = wq := ⟨_, rfl⟩
          rw [← hwt] at hbq ⊢
          clear hwt
          have HB_wt := Lib.hid (HB_w11.out.trans (below_le' hbq HB_w11.out.size))
          have CA_wt := cell_below hbq CA_w11
          have CB_wt := cell_below hbq CB_w11
          have HN8 := Lib.hid (HN8.out.below hbq)
          have HN11 := Lib.hid (HN11.out.below hbq)
          clear hbq
          clear CA_w11 CB_w11 LA_w11 LB_w11 HN10 HN9
          go_upto_region 14 with fail
          go_cut [17, 18] (fun pv ev wx => ∃ G : Nat, pv = .pointer (some ⟨G, 0, none⟩) ∧ ev = .nilIface ∧ Hid (BN wx w.heap.size G st) ∧ Hid (Below wt.heap.size wt wx))
          case first =>
            have E_14_1 : ∀ W : World, (Op.stringOp .add (⟨#[120, 32, 61, 32, 121, 32]⟩ : ByteArray) sa).run Tryz.prog W = .ok (.string ((⟨#[120, 32, 61, 32, 121, 32]⟩ : ByteArray) ++ sa)) W := fun W => run_string_add_sum W _ _ (by first | omega | (simp only [ByteArray.size_append]; omega))
            have N_14_1 : ¬ (9223372036854775807 : Nat) < 6 + sa.size := by omega
            have E_14_2 : ∀ W : World, (Op.stringOp .add ((⟨#[120, 32, 61, 32, 121, 32]⟩ : ByteArray) ++ sa) (⟨#[32, 122, 32, 63, 32, 121, 32, 124, 32, 120]⟩ : ByteArray)).run Tryz.prog W = .ok (.string (((⟨#[120, 32, 61, 32, 121, 32]⟩ : ByteArray) ++ sa) ++ (⟨#[32, 122, 32, 63, 32, 121, 32, 124, 32, 120]⟩ : ByteArray))) W := fun W => run_string_add_sum W _ _ (by first | omega | (simp only [ByteArray.size_append]; omega))
            have N_14_2 : ¬ (9223372036854775807 : Nat) < 6 + sa.size + 10 := by omega
            obtain ⟨S, hS⟩ : ∃ S : World → Prop, S = fun W => W.cell? ⟨w2.heap.size, i, none⟩ = some (.string sa) ∧ Below wt.heap.size wt W := ⟨_, rfl⟩
            have KS : ∀ W, Below wt.heap.size wt W → S W := fun W hW => by rw [hS]; exact ⟨cell_below hW CA_wt, hW⟩
            have BS : ∀ W, S W → Below wt.heap.size wt W := fun W h => by rw [hS] at h; exact h.2
            have C1 := Lib.hid (fun W (h : S W) => (P14.out W (HB_wt.out.trans (below_le' (BS W h) HB_wt.out.size))).mono (R' := fun e W' => ∃ (op ln : Int) (s : ByteArray) (k m : Int) (t : ByteArray) (va : Option Addr) (vc : Nat) (A : Option Addr) (c : Nat) (sub : NL), e = .returned (.tuple #[.agg #[.int .i64 op, .int .i64 ln, .string s, .int .i64 k, .int .i64 m, .string t, .slice va 0 vc, .slice A sub.len c], .nilIface]) ∧ Hid (st = nd op ln s k m t sub) ∧ Hid (OwnN W' (fun b => W.heap.size ≤ b) (.slice A sub.len c) sub) ∧ Hid (Below W.heap.size W W') ∧ S W')
              fun e W' h1 => by
                obtain ⟨op, ln, s, k, m, t, va, vc, A, c, sub, e1, e2, e3, e4⟩ := pxGood_open (R := W.heap.size) (Nat.le_refl _) h1
                exact ⟨op, ln, s, k, m, t, va, vc, A, c, sub, e1, e2, e3, e4, KS _ ((BS W h).trans (below_le' e4.out (BS W h).size))⟩)
            have K0 : S wt.drew := KS _ ((Below.refl _ _).drew)
            have K1 : S wt := KS _ (Below.refl _ _)
            have KA : ∀ W o, S W → S (W.alloc o) := fun W o h => KS _ ((BS W h).alloc (BS W h).size o)
            have KD : ∀ o, S ((wt.alloc o).drew) := fun o => KS _ (((Below.refl _ _).alloc (Nat.le_refl _) o).drew)
            have K8 : ∀ W (q0 q1_ q2_ q3_ q4_ q5_ q6_ q7_ : Value), S W → S ((((((((W.setCell ⟨wt.heap.size, 0, none⟩ q0).setCell ⟨wt.heap.size, 1, none⟩ q1_).setCell ⟨wt.heap.size, 2, none⟩ q2_).setCell ⟨wt.heap.size, 3, none⟩ q3_).setCell ⟨wt.heap.size, 4, none⟩ q4_).setCell ⟨wt.heap.size, 5, none⟩ q5_).setCell ⟨wt.heap.size, 6, none⟩ q6_).setCell ⟨wt.heap.size, 7, none⟩ q7_) := fun W q0 q1_ q2_ q3_ q4_ q5_ q6_ q7_ h => KS _ (below_st8 (BS W h) (Nat.le_refl _) _ _ _ _ _ _ _ _)
            have NBZ := Lib.hid (fun W' (h : Hid (Below ((wt.alloc (.cells #[.int .i64 0, .int .i64 0, .string ⟨#[]⟩, .int .i64 0, .int .i64 0, .string ⟨#[]⟩, .slice none 0 0, .slice none 0 0] 31)).drew).heap.size ((wt.alloc (.cells #[.int .i64 0, .int .i64 0, .string ⟨#[]⟩, .int .i64 0, .int .i64 0, .string ⟨#[]⟩, .slice none 0 0, .slice none 0 0] 31)).drew) W')) => zN_open (zN_drew h.out))
            have HKS := Lib.hid KS
            clear KS
            subst hS
            clear K0 KA KD K8 NBZ
            go_wp2_with fail
            refine (C1.out _ K1).mono ?_
            rintro e w8 ⟨op, ln, s, k, m, t, va, vc, A, c, sub, rfl, he8, ho8, hb8, hs8⟩
            have hz8 := hb8.out.size
            go_wp2_with fail
            go_meet
            exact ⟨w8.heap.size, rfl, rfl, Lib.hid (BN.new (by have := HB_wt.out.size; omega) he8.out (ho8.out.wide (fun b hb _ => by have := HB_wt.out.size; omega))), Lib.hid (hb8.out.alloc hb8.out.size _)⟩
          case rest =>
            obtain ⟨G17, rfl, rfl, hn_, hb_⟩ := hcut
            obtain ⟨w14, hwe_⟩ : ∃ W, W = wc := ⟨_, rfl⟩
            rw [← hwe_] at hn_ hb_ ⊢
            clear hwe_
            have HN17 := Lib.hid hn_.out
            have HBS_w14 := Lib.hid hb_.out
            have HB_w14 := Lib.hid (HB_wt.out.trans (below_le' hb_.out HB_wt.out.size))
            have CA_w14 := cell_below hb_.out CA_wt
            have CB_w14 := cell_below hb_.out CB_wt
            have HN8 := Lib.hid (HN8.out.below hb_.out)
            have HN11 := Lib.hid (HN11.out.below hb_.out)
            clear hn_ hb_ CA_wt CB_wt
            go_upto_region 15 with fail
            go_cut [19, 20] (fun pv ev wx => ∃ G : Nat, pv = .pointer (some ⟨G, 0, none⟩) ∧ ev = .nilIface ∧ Hid (BN wx w.heap.size G al) ∧ Hid (Below w14.heap.size w14 wx))
            case first =>
              have E_15_1 : ∀ W : World, (Op.stringOp .add (⟨#[120, 32, 61, 32, 40, 40, 121, 32]⟩ : ByteArray) sa).run Tryz.prog W = .ok (.string ((⟨#[120, 32, 61, 32, 40, 40, 121, 32]⟩ : ByteArray) ++ sa)) W := fun W => run_string_add_sum W _ _ (by first | omega | (simp only [ByteArray.size_append]; omega))
              have N_15_1 : ¬ (9223372036854775807 : Nat) < 8 + sa.size := by omega
              have E_15_2 : ∀ W : World, (Op.stringOp .add ((⟨#[120, 32, 61, 32, 40, 40, 121, 32]⟩ : ByteArray) ++ sa) (⟨#[32, 122, 41, 32, 63, 32, 121, 32, 124, 32, 120, 41]⟩ : ByteArray)).run Tryz.prog W = .ok (.string (((⟨#[120, 32, 61, 32, 40, 40, 121, 32]⟩ : ByteArray) ++ sa) ++ (⟨#[32, 122, 41, 32, 63, 32, 121, 32, 124, 32, 120, 41]⟩ : ByteArray))) W := fun W => run_string_add_sum W _ _ (by first | omega | (simp only [ByteArray.size_append]; omega))
              have N_15_2 : ¬ (9223372036854775807 : Nat) < 8 + sa.size + 12 := by omega
              obtain ⟨S, hS⟩ : ∃ S : World → Prop, S = fun W => W.cell? ⟨w2.heap.size, i, none⟩ = some (.string sa) ∧ Below w14.heap.size w14 W := ⟨_, rfl⟩
              have KS : ∀ W, Below w14.heap.size w14 W → S W := fun W hW => by rw [hS]; exact ⟨cell_below hW CA_w14, hW⟩
              have BS : ∀ W, S W → Below w14.heap.size w14 W := fun W h => by rw [hS] at h; exact h.2
              have C1 := Lib.hid (fun W (h : S W) => (P15.out W (HB_w14.out.trans (below_le' (BS W h) HB_w14.out.size))).mono (R' := fun e W' => ∃ (op ln : Int) (s : ByteArray) (k m : Int) (t : ByteArray) (va : Option Addr) (vc : Nat) (A : Option Addr) (c : Nat) (sub : NL), e = .returned (.tuple #[.agg #[.int .i64 op, .int .i64 ln, .string s, .int .i64 k, .int .i64 m, .string t, .slice va 0 vc, .slice A sub.len c], .nilIface]) ∧ Hid (al = nd op ln s k m t sub) ∧ Hid (OwnN W' (fun b => W.heap.size ≤ b) (.slice A sub.len c) sub) ∧ Hid (Below W.heap.size W W') ∧ S W')
                fun e W' h1 => by
                  obtain ⟨op, ln, s, k, m, t, va, vc, A, c, sub, e1, e2, e3, e4⟩ := pxGood_open (R := W.heap.size) (Nat.le_refl _) h1
                  exact ⟨op, ln, s, k, m, t, va, vc, A, c, sub, e1, e2, e3, e4, KS _ ((BS W h).trans (below_le' e4.out (BS W h).size))⟩)
              have K0 : S w14.drew := KS _ ((Below.refl _ _).drew)
              have K1 : S w14 := KS _ (Below.refl _ _)
              have KA : ∀ W o, S W → S (W.alloc o) := fun W o h => KS _ ((BS W h).alloc (BS W h).size o)
              have KD : ∀ o, S ((w14.alloc o).drew) := fun o => KS _ (((Below.refl _ _).alloc (Nat.le_refl _) o).drew)
              have K8 : ∀ W (q0 q1_ q2_ q3_ q4_ q5_ q6_ q7_ : Value), S W → S ((((((((W.setCell ⟨w14.heap.size, 0, none⟩ q0).setCell ⟨w14.heap.size, 1, none⟩ q1_).setCell ⟨w14.heap.size, 2, none⟩ q2_).setCell ⟨w14.heap.size, 3, none⟩ q3_).setCell ⟨w14.heap.size, 4, none⟩ q4_).setCell ⟨w14.heap.size, 5, none⟩ q5_).setCell ⟨w14.heap.size, 6, none⟩ q6_).setCell ⟨w14.heap.size, 7, none⟩ q7_) := fun W q0 q1_ q2_ q3_ q4_ q5_ q6_ q7_ h => KS _ (below_st8 (BS W h) (Nat.le_refl _) _ _ _ _ _ _ _ _)
              have NBZ := Lib.hid (fun W' (h : Hid (Below ((w14.alloc (.cells #[.int .i64 0, .int .i64 0, .string ⟨#[]⟩, .int .i64 0, .int .i64 0, .string ⟨#[]⟩, .slice none 0 0, .slice none 0 0] 31)).drew).heap.size ((w14.alloc (.cells #[.int .i64 0, .int .i64 0, .string ⟨#[]⟩, .int .i64 0, .int .i64 0, .string ⟨#[]⟩, .slice none 0 0, .slice none 0 0] 31)).drew) W')) => zN_open (zN_drew h.out))
              have HKS := Lib.hid KS
              clear KS
              subst hS
              clear K0 KA KD K8 NBZ
              go_wp2_with fail
              refine (C1.out _ K1).mono ?_
              rintro e w8 ⟨op, ln, s, k, m, t, va, vc, A, c, sub, rfl, he8, ho8, hb8, hs8⟩
              have hz8 := hb8.out.size
              go_wp2_with fail
              go_meet
              exact ⟨w8.heap.size, rfl, rfl, Lib.hid (BN.new (by have := HB_w14.out.size; omega) he8.out (ho8.out.wide (fun b hb _ => by have := HB_w14.out.size; omega))), Lib.hid (hb8.out.alloc hb8.out.size _)⟩
            case rest =>
              obtain ⟨G19, rfl, rfl, hn_, hb_⟩ := hcut
              obtain ⟨w15, hwe_⟩ : ∃ W, W = wc := ⟨_, rfl⟩
              rw [← hwe_] at hn_ hb_ ⊢
              clear hwe_
              have HN19 := Lib.hid hn_.out
              have HBS_w15 := Lib.hid hb_.out
              have HB_w15 := Lib.hid (HB_w14.out.trans (below_le' hb_.out HB_w14.out.size))
              have CA_w15 := cell_below hb_.out CA_w14
              have CB_w15 := cell_below hb_.out CB_w14
              have HN8 := Lib.hid (HN8.out.below hb_.out)
              have HN11 := Lib.hid (HN11.out.below hb_.out)
              have HN17 := Lib.hid (HN17.out.below hb_.out)
              clear hn_ hb_ CA_w14 CB_w14
              clear CA_w15 CB_w15
              obtain ⟨hR5, o5, l5, s5, k5, m5, t5, va5, vc5, A5, c5, sub5, e5, nb5, ow5⟩ := HN8.out
              obtain ⟨hR6, o6, l6, s6, k6, m6, t6, va6, vc6, A6, c6, sub6, e6, nb6, ow6⟩ := HN11.out
              have y50 := nb5.c0; have y51 := nb5.c1; have y52 := nb5.c2; have y53 := nb5.c3; have y54 := nb5.c4; have y55 := nb5.c5; have y56 := nb5.c6; have y57 := nb5.c7
              obtain ⟨wp, hwp⟩ : ∃ W, W = w15.alloc (.cells #[.int .i64 o5, .int .i64 l5, .string s5, .int .i64 k5, .int .i64 m5, .string t5, .slice va5 0 vc5, .slice A5 sub5.len c5] 31) := ⟨_, rfl⟩
              have hbp : Below w15.heap.size w15 wp := by rw [hwp]; exact (Below.refl _ _).alloc (Nat.le_refl _) _
              have hzp : wp.heap.size = w15.heap.size + 1 := by rw [hwp]; simp
              have q5 : BN wp w.heap.size w15.heap.size fl := by rw [hwp]; exact BN.new HB_w15.out.size e5 ow5
              have h6p := nb6.below' hbp
              have y60 := h6p.c0; have y61 := h6p.c1; have y62 := h6p.c2; have y63 := h6p.c3; have y64 := h6p.c4; have y65 := h6p.c5; have y66 := h6p.c6; have y67 := h6p.c7
              obtain ⟨wr, hwr⟩ : ∃ W, W = wp.alloc (.cells #[.int .i64 o6, .int .i64 l6, .string s6, .int .i64 k6, .int .i64 m6, .string t6, .slice va6 0 vc6, .slice A6 sub6.len c6] 31) := ⟨_, rfl⟩
              have hbr : Below wp.heap.size wp wr := by rw [hwr]; exact (Below.refl _ _).alloc (Nat.le_refl _) _
              have q6 : BN wr w.heap.size wp.heap.size lf := by rw [hwr]; exact BN.new (by have := HB_w15.out.size; omega) e6 (ow6.below hbp)
              have AC := Lib.hid (bn_alike (q5.below hbr) q6 F1.out F2.out)
              rw [hzp] at AC
              rw [HY1.out] at AC
              have HB_wr := Lib.hid (HB_w15.out.trans (below_le' (hbp.trans (below_le' hbr hbp.size)) HB_w15.out.size))
              have HN17 := Lib.hid ((HN17.out.below hbp).below hbr)
              have HN19 := Lib.hid ((HN19.out.below hbp).below hbr)
              have HWP := Lib.hid hwp
              have HWR := Lib.hid hwr
              rw [hwp] at y60 y61 y62 y63 y64 y65 y66 y67
              clear hwp hwr hbp hbr hzp q5 q6 h6p nb5 nb6 ow5 ow6 e5 e6 hR5 hR6 HN8 HN11
              go_wp2_with fail
              rw [← HWP.out, ← HWR.out]
              refine AC.out.mono ?_
              rintro e w16 ⟨rfl, hb16⟩
              clear y50 y51 y52 y53 y54 y55 y56 y57 y60 y61 y62 y63 y64 y65 y66 y67
              have HB_w16 := Lib.hid (HB_wr.out.trans (below_le' hb16 HB_wr.out.size))
              have HN17 := Lib.hid (HN17.out.below hb16)
              have HN19 := Lib.hid (HN19.out.below hb16)
              clear hb16
              obtain ⟨hR7, o7, l7, s7, k7, m7, t7, va7, vc7, A7, c7, sub7, e7, nb7, ow7⟩ := HN17.out
              obtain ⟨hR8, o8, l8, s8, k8, m8, t8, va8, vc8, A8, c8, sub8, e8, nb8, ow8⟩ := HN19.out
              obtain rfl : o7 = 27 := by have h := HY3.out; rw [e7] at h; exact h
              have y70 := nb7.c0; have y71 := nb7.c1; have y72 := nb7.c2; have y73 := nb7.c3; have y74 := nb7.c4; have y75 := nb7.c5; have y76 := nb7.c6; have y77 := nb7.c7
              obtain ⟨ws, hws⟩ : ∃ W, W = w16.alloc (.cells #[.int .i64 27, .int .i64 l7, .string s7, .int .i64 k7, .int .i64 m7, .string t7, .slice va7 0 vc7, .slice A7 sub7.len c7] 31) := ⟨_, rfl⟩
              have hbs : Below w16.heap.size w16 ws := by rw [hws]; exact (Below.refl _ _).alloc (Nat.le_refl _) _
              have hzs : ws.heap.size = w16.heap.size + 1 := by rw [hws]; simp
              have q7 : BN ws w.heap.size w16.heap.size st := by rw [hws]; exact BN.new HB_w16.out.size e7 ow7
              have h8s := nb8.below' hbs
              have y80 := h8s.c0; have y81 := h8s.c1; have y82 := h8s.c2; have y83 := h8s.c3; have y84 := h8s.c4; have y85 := h8s.c5; have y86 := h8s.c6; have y87 := h8s.c7
              obtain ⟨wu, hwu⟩ : ∃ W, W = ws.alloc (.cells #[.int .i64 o8, .int .i64 l8, .string s8, .int .i64 k8, .int .i64 m8, .string t8, .slice va8 0 vc8, .slice A8 sub8.len c8] 31) := ⟨_, rfl⟩
              have hbu : Below ws.heap.size ws wu := by rw [hwu]; exact (Below.refl _ _).alloc (Nat.le_refl _) _
              have q8 : BN wu w.heap.size ws.heap.size al := by rw [hwu]; exact BN.new (by have := HB_w16.out.size; omega) e8 (ow8.below hbs)
              have AD := Lib.hid (bn_alike (q7.below hbu) q8 F4.out F5.out)
              rw [hzs] at AD
              rw [HY2.out] at AD
              have HB_wu := Lib.hid (HB_w16.out.trans (below_le' (hbs.trans (below_le' hbu hbs.size)) HB_w16.out.size))
              have HN17 := Lib.hid ((HN17.out.below hbs).below hbu)
              have HC17 := Lib.hid (show ∀ W, Below wu.heap.size wu W → W.cell? ⟨G17, 0, none⟩ = some (.int .i64 27) from fun W hW => cell_below hW (cell_below hbu (cell_below hbs y70)))
              have HWS := Lib.hid hws
              have HWU := Lib.hid hwu
              rw [hws] at y80 y81 y82 y83 y84 y85 y86 y87
              clear hws hwu hbs hbu hzs q7 q8 h8s nb7 nb8 ow7 ow8 e7 e8 hR7 hR8 HN17 HN19
              go_wp2_with fail
              rw [← HWS.out, ← HWU.out]
              refine AD.out.mono ?_
              rintro e w17 ⟨rfl, hb17⟩
              clear y70 y71 y72 y73 y74 y75 y76 y77 y80 y81 y82 y83 y84 y85 y86 y87
              have HB_w17 := Lib.hid (HB_wu.out.trans (below_le' hb17 HB_wu.out.size))
              have y90 := HC17.out w17 hb17
              clear hb17
              go_wp2_with fail
              go_ret
              exact ⟨rfl, HB_w17.out⟩
end Go.Proofs.YtggngahmafbihaaGreatDoor
