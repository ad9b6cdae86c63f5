/- Contracts of the functions that the statement reaches, and the plain mathematics beneath: several texts joined. -/
import Derived.Test.YtnphgcbknfmapaaGreatDoorPbuAH
import Derived.Test.YtnphgcbknfmapaaGreatDoorPbuAI
import Derived.Test.YtnphgcbknfmapaaGreatDoorPbuAG
namespace Go.Proofs.YtnphgcbknfmapaaGreatDoor
open Go.RowKit Go.Lib
set_option linter.unusedVariables false

theorem flN_bi {i : Nat} (hi : i < 6) : biB (flN i) = true := by
  rcases six hi with rfl | rfl | rfl | rfl | rfl | rfl <;> decide +kernel
theorem bi_name : biB ⟨#[110, 97, 109, 101]⟩ = true := by decide +kernel
theorem bi_owner : biB ⟨#[111, 119, 110, 101, 114]⟩ = true := by decide +kernel
theorem bi_loc : biB ⟨#[108, 111, 99, 97, 116, 105, 111, 110]⟩ = true := by decide +kernel
theorem bi_cont : biB ⟨#[99, 111, 110, 116, 101, 110, 116, 115]⟩ = true := by decide +kernel
section
variable {B a m : Nat} {w0 w w' : World} {l l' : List OB} {mx mx' o : Int} {K : List (Nat × Obj)} {x : OB}
theorem lb_at {T T' : List OM} {W : World} (ht : TB w B a m T mx) (hb : Below B w0 w) (hK : ∀ p ∈ K, w.heap[p.1]? = some p.2 ∧ p.1 ∉ a :: m :: blkT T) (hW : Below w.heap.size w W) (hs : Stp W w' B a m T T' mx mx') (hl : obT T' = l') : LB B w0 w' a m l' mx' K :=
  lb_step (ht.keep hW) (hb.trans (hW.mono ht.baseB)) (fun p hp => ⟨(hW.block p.1 (Array.getElem?_eq_some_iff.1 (hK p hp).1).1).trans (hK p hp).1, (hK p hp).2⟩) hs hl
theorem putF_L (h : LB B w0 w a m l mx K) (ho : I64 o) (hx : getO l o = some x) (hf : x.flags = 0) {i : Nat} (hi : i < 6) (b : Bool) :
    Calls Tryz.prog 19 #[.pointer (some ⟨a, 0, none⟩), .int .i64 o, .string (flN i), .agg #[.int .i64 0, .int .i64 (bI b), .string ⟨#[]⟩, .slice none 0 0]] w fun e w' => e = .returned (.int .i64 0) ∧ LB B w0 w' a m (updO l o (setF (if b then flB i else 0))) mx K := by
  obtain ⟨T, ht, rfl, h0, hK⟩ := h
  obtain ⟨y, hy, rfl⟩ := findT_of_getO hx
  have hq := flB_bits hi
  refine (put_via ht ho hy (flN i) (flN_bi hi) 0 (bI b) ⟨#[]⟩ 0 (fun W hW => put_flag (ht.keep hW) hy hf (flN i) (flN_not hi) (flB i) (fun W => flag_c i hi W) hq.1 hq.2.1 b)).mono ?_
  rintro e w' ⟨rfl, W, hW, T', hs, hl⟩
  exact ⟨rfl, lb_at ht h0 hK hW hs hl⟩
theorem putN_L (h : LB B w0 w a m l mx K) (ho : I64 o) (hx : getO l o = some x) (s : ByteArray) (hs : s.size ≤ 64) (hp : ppB s.data.toList = true) :
    Calls Tryz.prog 19 #[.pointer (some ⟨a, 0, none⟩), .int .i64 o, .string ⟨#[110, 97, 109, 101]⟩, .agg #[.int .i64 2, .int .i64 0, .string s, .slice none 0 0]] w fun e w' => e = .returned (.int .i64 0) ∧ LB B w0 w' a m (updO l o (setN s)) mx K := by
  obtain ⟨T, ht, rfl, h0, hK⟩ := h
  obtain ⟨y, hy, rfl⟩ := findT_of_getO hx
  refine (put_via ht ho hy _ bi_name 2 0 s 0 (fun W hW => put_name (ht.keep hW) hy s hs hp)).mono ?_
  rintro e w' ⟨rfl, W, hW, T', hs, hl⟩
  exact ⟨rfl, lb_at ht h0 hK hW hs hl⟩
theorem putO_L (h : LB B w0 w a m l mx K) (ho : I64 o) (hx : getO l o = some x) (v : Int) (h0 : 0 ≤ v) (h1 : v ≤ 1000000) (hv : hasO l v = true) :
    Calls Tryz.prog 19 #[.pointer (some ⟨a, 0, none⟩), .int .i64 o, .string ⟨#[111, 119, 110, 101, 114]⟩, .agg #[.int .i64 1, .int .i64 v, .string ⟨#[]⟩, .slice none 0 0]] w fun e w' => e = .returned (.int .i64 0) ∧ LB B w0 w' a m (updO l o (setO v)) mx K := by
  obtain ⟨T, ht, rfl, hb, hK⟩ := h
  obtain ⟨y, hy, rfl⟩ := findT_of_getO hx
  refine (put_via ht ho hy _ bi_owner 1 v ⟨#[]⟩ 0 (fun W hW => put_owner (ht.keep hW) hy v h0 h1 hv)).mono ?_
  rintro e w' ⟨rfl, W, hW, T', hs, hl⟩
  exact ⟨rfl, lb_at ht hb hK hW hs hl⟩
theorem putX_L (h : LB B w0 w a m l mx K) (ho : I64 o) (hx : getO l o = some x) (n : ByteArray) (hi : biB n = true) (k v : Int) (s : ByteArray) (c : Int) (CP : ∀ (T : List OM) (y : OM) (W : World), TB W B a m T mx → obT T = l → Calls Tryz.prog 56 #[.pointer (some ⟨a, 0, none⟩), .pointer (some ⟨y.g, 0, none⟩), .string n, .agg #[.int .i64 k, .int .i64 v, .string s, .slice none 0 0]] W fun e w' => e = .returned (.int .i64 c) ∧ Below W.heap.size W w') :
    Calls Tryz.prog 19 #[.pointer (some ⟨a, 0, none⟩), .int .i64 o, .string n, .agg #[.int .i64 k, .int .i64 v, .string s, .slice none 0 0]] w fun e w' => e = .returned (.int .i64 c) ∧ LB B w0 w' a m l mx K := by
  have H := h
  obtain ⟨T, ht, rfl, h0, hK⟩ := h
  obtain ⟨y, hy, rfl⟩ := findT_of_getO hx
  refine (put_via ht ho hy n hi k v s c (fun W hW => CP T y W (ht.keep hW) rfl)).mono ?_
  rintro e w' ⟨rfl, W, hW, hb⟩
  exact ⟨rfl, H.below (hW.trans (hb.mono hW.size))⟩
theorem getX_L (h : LB B w0 w a m l mx K) (ho : I64 o) (hx : getO l o = some x) (n : ByteArray) (hi : biB n = true) (k v : Int) (s : ByteArray) (CP : ∀ (T : List OM) (y : OM) (W : World), TB W B a m T mx → findT T o = some y → y.o = x → Calls Tryz.prog 60 #[.pointer (some ⟨a, 0, none⟩), .pointer (some ⟨y.g, 0, none⟩), .string n] W fun e w' => e = .returned (.agg #[.int .i64 k, .int .i64 v, .string s, .slice none 0 0]) ∧ Below W.heap.size W w') :
    Calls Tryz.prog 21 #[.pointer (some ⟨a, 0, none⟩), .int .i64 o, .string n] w fun e w' => e = .returned (.tuple #[.agg #[.int .i64 k, .int .i64 v, .string s, .slice none 0 0], .int .i64 0]) ∧ LB B w0 w' a m l mx K := by
  have H := h
  obtain ⟨T, ht, rfl, h0, hK⟩ := h
  obtain ⟨y, hy, hyx⟩ := findT_of_getO hx
  refine (get_via ht ho hy n hi k v s (R := fun _ _ A k1 c1 => A = none ∧ k1 = 0 ∧ c1 = 0) (fun W hW => (CP T y W (ht.keep hW) hy hyx).mono ?_)).mono ?_
  · rintro e w' ⟨rfl, hb⟩
    exact ⟨none, 0, 0, rfl, hb, rfl, rfl, rfl⟩
  · rintro e w' ⟨A, k1, c1, rfl, hb, W, W2, hW, _, ⟨rfl, rfl, rfl⟩, _⟩
    exact ⟨rfl, H.below hb⟩
theorem getC_L (h : LB B w0 w a m l mx K) (ho : I64 o) (hx : getO l o = some x) {c : Int} (hc : contO l o = [c]) :
    Calls Tryz.prog 21 #[.pointer (some ⟨a, 0, none⟩), .int .i64 o, .string ⟨#[99, 111, 110, 116, 101, 110, 116, 115]⟩] w fun e w' => ∃ g cap cur, e = .returned (.tuple #[.agg #[.int .i64 4, .int .i64 0, .string ⟨#[]⟩, .slice (some ⟨g, 0, none⟩) 1 cap], .int .i64 0]) ∧ LB B w0 w' a m l mx ((g, .cells cur 33 (0, 0)) :: K) ∧ cur[1]? = some (.int .i64 c) := by
  have H := h
  obtain ⟨T, ht, rfl, h0, hK⟩ := h
  obtain ⟨y, hy, hyx⟩ := findT_of_getO hx
  refine (get_via ht ho hy _ bi_cont 4 0 ⟨#[]⟩ (R := fun W W2 A k1 c1 => ∃ g, A = some ⟨g, 0, none⟩ ∧ k1 = 1 ∧ W2.ownsRow W.heap.size 33 4 (.slice (some ⟨g, 0, none⟩) 1 c1) 1 [.int .i64 1, .int .i64 c, .string ⟨#[]⟩, .slice none 0 0]) (fun W hW => (blt_cont (ht.keep hW) ho hy hc).mono ?_)).mono ?_
  · rintro e w' ⟨g, cap, rfl, hown, hb⟩
    exact ⟨_, _, _, rfl, hb, g, rfl, rfl, hown⟩
  · rintro e w' ⟨A, k1, c1, rfl, hb, W, W2, hW, hlt, ⟨g, rfl, rfl, hown⟩, hk⟩
    have hg := (hown.lt g rfl).1
    rcases hown.2 with ⟨e1, _⟩ | ⟨g', cap', cur, e1, e2, e3, e4, e5, e6, e7⟩
    · cases e1
    · injection e1 with f1 f2 f3
      injection f1 with f1
      injection f1 with f1
      subst f1
      refine ⟨_, _, cur, rfl, H.push hb (by omega) ((hk g (by omega)).trans e3), ?_⟩
      rw [← Array.getElem?_toList, ← List.getElem?_take_of_lt (j := 1 * 4) (by omega), e7]
      rfl
theorem getT_L (h : LB B w0 w a m l mx K) (ho : I64 o) (hx : getO l o = some x) :
    Calls Tryz.prog 13 #[.pointer (some ⟨a, 0, none⟩), .int .i64 o] w fun e w' => e = .returned (.tuple #[.agg (bareCs x), .bool true]) ∧ LB B w0 w' a m l mx K := by
  have H := h
  obtain ⟨T, ht, rfl, h0, hK⟩ := h
  obtain ⟨y, hy, rfl⟩ := findT_of_getO hx
  refine (get_c ht ho hy).mono ?_
  rintro e w' ⟨rfl, hb⟩
  exact ⟨rfl, H.below hb⟩
theorem clear_L (h : LB B w0 w a m l mx K) (ho : I64 o) (hx : getO l o = some x) (n : ByteArray) (hs : x.slots = []) :
    Calls Tryz.prog 25 #[.pointer (some ⟨a, 0, none⟩), .int .i64 o, .string n] w fun e w' => e = .returned (.int .i64 4) ∧ w = w' := by
  obtain ⟨T, ht, rfl, h0, hK⟩ := h
  obtain ⟨y, hy, rfl⟩ := findT_of_getO hx
  have CF := Lib.hid (find_none ht.tab ho n hy (by rw [hs]; rfl))
  clear ht hx hy hK
  go_enter Tryz.func25, Tryz.ntmps25
  go_wp2_with fail
  refine CF.out.mono ?_
  rintro e w1 ⟨rfl, rfl⟩
  go_wp2_with fail
  go_ret
  exact ⟨rfl, rfl⟩
end
theorem refI_c (n : Int) (w : World) : Calls Tryz.prog 63 #[.int .i64 n] w fun e w' => e = .returned (.agg #[.int .i64 0, .int .i64 n, .string ⟨#[]⟩, .slice none 0 0]) ∧ Below w.heap.size w w' := by
  go_enter Tryz.func63, Tryz.ntmps63
  go_wp2_with fail
  exact bodyPost_ret (results_cell_row (P := Tryz.prog) rfl _ _ w.heap.size _ _ _ _ rfl (heap_alloc_new _ _) Tryz.underlying33 rfl (by kernel_rfl)) rfl ⟨rfl, (Below.refl _ _).alloc (Nat.le_refl _) _⟩
set_option maxHeartbeats 1000000 in
theorem refBool_c (b : Bool) (w : World) : Calls Tryz.prog 22 #[.bool b] w fun e w' => e = .returned (.agg #[.int .i64 0, .int .i64 (bI b), .string ⟨#[]⟩, .slice none 0 0]) ∧ Below w.heap.size w w' := by
  have CI := Lib.hid (fun k W => refI_c k W)
  have HB1 := Lib.hid ((Below.refl w.heap.size w).alloc (Nat.le_refl _) (.cells #[.int .i64 0, .int .i64 0, .string ⟨#[]⟩, .slice none 0 0] 33))
  cases b
  · go_enter Tryz.func22, Tryz.ntmps22
    go_wp2_with fail
    refine (CI.out 0 _).mono ?_
    rintro e w2 ⟨rfl, hb2⟩
    have HR2 := Lib.hid ((hb2.block w.heap.size (by simp)).trans (heap_alloc_new w _))
    have HB2 := Lib.hid (HB1.out.trans (hb2.mono HB1.out.size))
    have HROW := Lib.hid (setRow_heap w2 w.heap.size _ #[.int .i64 0, .int .i64 0, .string ⟨#[]⟩, .slice none 0 0] _ _ HR2.out)
    have HBR := Lib.hid (sbelow_setRow HB2.out (g := w.heap.size) (Nat.le_refl _) #[.int .i64 0, .int .i64 0, .string ⟨#[]⟩, .slice none 0 0])
    clear hb2
    go_wp2_with (refine wpList_store_row rfl 33 (.tmp 2) (.tmp 5) rfl w.heap.size #[.int .i64 0, .int .i64 0, .string ⟨#[]⟩, .slice none 0 0] rfl rfl _ _ HR2.out (by kernel_rfl) rfl (by simp [Value.oneCell']) ?_)
    exact bodyPost_ret (results_cell_row (P := Tryz.prog) rfl _ _ w.heap.size _ _ _ _ rfl HROW.out Tryz.underlying33 rfl (by kernel_rfl)) rfl ⟨rfl, HBR.out⟩
  · go_enter Tryz.func22, Tryz.ntmps22
    go_wp2_with fail
    refine (CI.out 1 _).mono ?_
    rintro e w2 ⟨rfl, hb2⟩
    have HR2 := Lib.hid ((hb2.block w.heap.size (by simp)).trans (heap_alloc_new w _))
    have HB2 := Lib.hid (HB1.out.trans (hb2.mono HB1.out.size))
    have HROW := Lib.hid (setRow_heap w2 w.heap.size _ #[.int .i64 0, .int .i64 1, .string ⟨#[]⟩, .slice none 0 0] _ _ HR2.out)
    have HBR := Lib.hid (sbelow_setRow HB2.out (g := w.heap.size) (Nat.le_refl _) #[.int .i64 0, .int .i64 1, .string ⟨#[]⟩, .slice none 0 0])
    clear hb2
    go_wp2_with (refine wpList_store_row rfl 33 (.tmp 2) (.tmp 4) rfl w.heap.size #[.int .i64 0, .int .i64 1, .string ⟨#[]⟩, .slice none 0 0] rfl rfl _ _ HR2.out (by kernel_rfl) rfl (by simp [Value.oneCell']) ?_)
    exact bodyPost_ret (results_cell_row (P := Tryz.prog) rfl _ _ w.heap.size _ _ _ _ rfl HROW.out Tryz.underlying33 rfl (by kernel_rfl)) rfl ⟨rfl, HBR.out⟩
end Go.Proofs.YtnphgcbknfmapaaGreatDoor
namespace Go.Proofs.YtnphgcbknfmapaaGreatDoor
open Go.RowKit Go.Lib
set_option linter.unusedVariables false
set_option linter.unusedSimpArgs false

def O1 (ow fl : Int) (n : ByteArray) : OB := ⟨1, -1, ow, 0, fl, 0, n, [], []⟩
theorem row4 {w : World} {g t : Nat} {a0 a1 a2 a3 : Value} (h : w.heap[g]? = some (.cells #[a0, a1, a2, a3] t (0, 0))) :
    w.cell? ⟨g, 0, none⟩ = some a0 ∧ w.cell? ⟨g, 1, none⟩ = some a1 ∧ w.cell? ⟨g, 2, none⟩ = some a2 ∧ w.cell? ⟨g, 3, none⟩ = some a3 :=
  ⟨cell_of_row w g 0 _ _ _ h, cell_of_row w g 1 _ _ _ h, cell_of_row w g 2 _ _ _ h, cell_of_row w g 3 _ _ _ h⟩
theorem flN_row {i : Nat} (hi : i < 6) : (#[.string ⟨#[112, 108, 97, 121, 101, 114]⟩, .string ⟨#[112, 114, 111, 103, 114, 97, 109, 109, 101, 114]⟩, .string ⟨#[119, 105, 122, 97, 114, 100]⟩, .string ⟨#[114]⟩, .string ⟨#[119]⟩, .string ⟨#[102]⟩] : Array Value)[i]? = some (.string (flN i)) := by
  rcases six hi with rfl | rfl | rfl | rfl | rfl | rfl <;> rfl
theorem flB_two {i : Nat} (hi : i < 6) : (2 : Int) ^ i = flB i ∧ ¬ flB i = 0 ∧ wrap64 (flB i) = flB i := by
  rcases six hi with rfl | rfl | rfl | rfl | rfl | rfl <;> exact ⟨by decide, by decide, by unfold wrap64; decide⟩

set_option maxRecDepth 100000 in
set_option maxHeartbeats 16000000 in
theorem builtin_1 (s : ByteArray) (flag : Int) (is : Bool) (w : World) (hfl : I64 flag) (h80 : s.size ≤ 80) (hp : ppB s.data.toList = true) (h64 : s.size ≤ 64) :
    Calls Tryz.prog 4 #[.string s, .int .i64 flag, .bool is] w fun e w' => e = .returned (.bool true) ∧ Below w.heap.size w w' := by
  have CF := Lib.hid (pfirst_c w)
  have CPR := Lib.hid (fun W => pprinted_c s W (by omega))
  rw [hp] at CPR
  have CNU := Lib.hid (fun W => onumber_c flag 6 W hfl (by omega) (by omega))
  obtain ⟨i, hi, hi6⟩ : ∃ i : Nat, flag % 6 = (i : Int) ∧ i < 6 := ⟨(flag % 6).toNat, by omega, by omega⟩
  rw [hi] at CNU
  have HI6 := Lib.hid hi6
  have hi0 : (0 : Int) ≤ (i : Int) := by omega
  have hi5 : (i : Int) < 6 := by omega
  have hsz : ¬ (80 : Int) < (s.size : Int) := by omega
  obtain ⟨q, hqd⟩ : ∃ q, q = flB i := ⟨_, rfl⟩
  have HQ := Lib.hid hqd
  have h2i : (2 : Int) ^ i = q := by rw [hqd]; exact (flB_two hi6).1
  have hq0 : ¬ q = 0 := by rw [hqd]; exact (flB_two hi6).2.1
  have hwr : wrap64 q = q := by rw [hqd]; exact (flB_two hi6).2.2
  clear hqd
  have HPP := Lib.hid hp
  clear hi hi6 hp
  go_enter Tryz.func4, Tryz.ntmps4
  go_wp2_with fail
  refine CF.out.mono ?_
  rintro e w1 ⟨rfl, hb1⟩
  have HB1 := Lib.hid hb1
  clear hb1
  go_wp2_with fail
  refine (CPR.out _).mono ?_
  rintro e w1' ⟨rfl, rfl⟩
  go_wp2_with fail
  refine (new_L _).mono ?_
  rintro e w2 ⟨rfl, h2⟩
  have H2 := Lib.hid h2
  clear h2
  go_wp2_with fail
  refine (create0_L H2.out (by decide) (by decide)).mono ?_
  rintro e w3 ⟨rfl, h3⟩
  have H3 := Lib.hid (show LS w1.heap.size w1 w3 (w1.heap.size + 1) w1.heap.size [nO 0 (-1) [] []] 0 [] from h3)
  clear h3
  go_wp2_with fail
  refine (createo0_L H3.out (ow := 0) (by decide) (by decide) (by decide)).mono ?_
  rintro e w4 ⟨rfl, h4⟩
  have H4 := Lib.hid ((show LS w1.heap.size w1 w4 (w1.heap.size + 1) w1.heap.size [nO 0 (-1) [] [], ⟨1, -1, 0, -1, 0, 0, ⟨#[]⟩, [], []⟩] 1 [] from h4).bare (by
    intro x hx
    simp only [List.mem_cons, List.not_mem_nil, or_false] at hx
    rcases hx with rfl | rfl <;> exact ⟨rfl, rfl⟩))
  clear h4
  go_wp2_with fail
  refine (move_L H4.out (o := 1) (p := 0) ⟨by omega, by omega⟩ ⟨by omega, by omega⟩ (x := ⟨1, -1, 0, -1, 0, 0, ⟨#[]⟩, [], []⟩) (y := nO 0 (-1) [] []) rfl rfl rfl (by decide) (by decide) (by decide)).mono ?_
  rintro e w5 ⟨rfl, h5⟩
  have H5 := Lib.hid (show LB w1.heap.size w1 w5 (w1.heap.size + 1) w1.heap.size [nO 0 (-1) [] [], O1 0 0 ⟨#[]⟩] 1 [] from h5)
  clear h5 H2 H3 H4
  go_wp2_with fail
  refine (valS_c s _).mono ?_
  rintro e w6 ⟨rfl, hb6⟩
  have H6 := Lib.hid (H5.out.below hb6)
  clear hb6
  go_wp2_with fail
  refine (putN_L H6.out (o := 1) ⟨by omega, by omega⟩ (x := O1 0 0 ⟨#[]⟩) rfl s h64 HPP.out).mono ?_
  rintro e w7 ⟨rfl, h7⟩
  have H7 := Lib.hid (show LB w1.heap.size w1 w7 (w1.heap.size + 1) w1.heap.size [nO 0 (-1) [] [], O1 0 0 s] 1 [] from h7)
  clear h7 H5 H6
  go_wp2_with fail
  refine (getX_L H7.out (o := 1) ⟨by omega, by omega⟩ (x := O1 0 0 s) rfl _ bi_name 2 0 s (fun T y W ht hy e => by have := blt_name ht hy; rw [e] at this; exact this)).mono ?_
  rintro e w8 ⟨rfl, h8⟩
  have H8 := Lib.hid (h8.push (g := w8.heap.size) (ob := .cells #[.int .i64 2, .int .i64 0, .string s, .slice none 0 0] 33 (0, 0)) ((Below.refl w8.heap.size w8).alloc (Nat.le_refl _) (.cells #[.int .i64 2, .int .i64 0, .string s, .slice none 0 0] 33)) (Nat.le_refl _) (heap_alloc_new _ _))
  clear h8
  obtain ⟨v8, hv8⟩ : ∃ v8, v8 = w8.alloc (.cells #[.int .i64 2, .int .i64 0, .string s, .slice none 0 0] 33) := ⟨_, rfl⟩
  rw [← hv8] at H8
  have HV8 := Lib.hid hv8
  clear hv8
  have HF8 := Lib.hid (H8.out.below ((Below.refl v8.heap.size v8).alloc (Nat.le_refl _) (.cells #[.string ⟨#[112, 108, 97, 121, 101, 114]⟩, .string ⟨#[112, 114, 111, 103, 114, 97, 109, 109, 101, 114]⟩, .string ⟨#[119, 105, 122, 97, 114, 100]⟩, .string ⟨#[114]⟩, .string ⟨#[119]⟩, .string ⟨#[102]⟩] 9)))
  have hfc : (v8.alloc (.cells #[.string ⟨#[112, 108, 97, 121, 101, 114]⟩, .string ⟨#[112, 114, 111, 103, 114, 97, 109, 109, 101, 114]⟩, .string ⟨#[119, 105, 122, 97, 114, 100]⟩, .string ⟨#[114]⟩, .string ⟨#[119]⟩, .string ⟨#[102]⟩] 9)).cell? ⟨v8.heap.size, i, none⟩ = some (.string (flN i)) := (cell_of_row _ v8.heap.size i _ _ _ (heap_alloc_new v8 _)).trans (flN_row HI6.out)
  go_upto_region 16 with fail
  rw [← HV8.out]
  go_wp2_with fail
  refine (CNU.out _).mono ?_
  rintro e w8' ⟨rfl, rfl⟩
  go_wp2_with fail
  refine (refBool_c is _).mono ?_
  rintro e w9 ⟨rfl, hb9⟩
  have H9 := Lib.hid (HF8.out.below hb9)
  clear hb9 hfc
  go_wp2_with fail
  refine (putF_L H9.out (o := 1) ⟨by omega, by omega⟩ (x := O1 0 0 s) rfl rfl HI6.out is).mono ?_
  rintro e w10 ⟨rfl, h10⟩
  rw [← HQ.out] at h10
  obtain ⟨fl, hflq⟩ : ∃ fl, fl = if is then q else 0 := ⟨_, rfl⟩
  rw [← hflq] at h10
  have HFL := Lib.hid hflq
  clear hflq
  have H10 := Lib.hid (show LB w1.heap.size w1 w10 (w1.heap.size + 1) w1.heap.size [nO 0 (-1) [] [], O1 0 fl s] 1 _ from h10)
  clear h10 H7 H9 HF8
  go_wp2_with fail
  refine (getT_L H10.out (o := 1) ⟨by omega, by omega⟩ (x := O1 0 fl s) rfl).mono ?_
  rintro e w11 ⟨he, h11⟩
  replace he : e = .returned (.tuple #[.agg #[.int .i64 1, .int .i64 (-1), .int .i64 0, .int .i64 0, .int .i64 fl, .int .i64 0, .string s, .slice none 0 0, .slice none 0 0, .slice none 0 0], .bool true]) := he
  subst he
  have H11 := Lib.hid (h11.push (g := w11.heap.size) (ob := .cells #[.int .i64 1, .int .i64 (-1), .int .i64 0, .int .i64 0, .int .i64 fl, .int .i64 0, .string s, .slice none 0 0, .slice none 0 0, .slice none 0 0] 29 (0, 0)) ((Below.refl w11.heap.size w11).alloc (Nat.le_refl _) (.cells #[.int .i64 1, .int .i64 (-1), .int .i64 0, .int .i64 0, .int .i64 fl, .int .i64 0, .string s, .slice none 0 0, .slice none 0 0, .slice none 0 0] 29)) (Nat.le_refl _) (heap_alloc_new _ _))
  clear h11
  go_wp2_with fail
  refine (CNU.out _).mono ?_
  rintro e w11' ⟨rfl, rfl⟩
  go_wp2_with fail
  refine (getX_L H11.out (o := 1) ⟨by omega, by omega⟩ (x := O1 0 fl s) rfl _ (flN_bi HI6.out) 0 (bI is) ⟨#[]⟩ (fun T y W ht hy e => blt_flag ht hy (flN i) (flN_not HI6.out) (flB i) (fun W => flag_c i HI6.out W) (by rw [← HQ.out]; exact hq0) (flB_bits HI6.out).2.2.1 (flB_bits HI6.out).2.2.2 is (by rw [e, ← HQ.out]; exact HFL.out))).mono ?_
  rintro e w12 ⟨rfl, h12⟩
  have H12 := Lib.hid (h12.push (g := w12.heap.size) (ob := .cells #[.int .i64 0, .int .i64 (bI is), .string ⟨#[]⟩, .slice none 0 0] 33 (0, 0)) ((Below.refl w12.heap.size w12).alloc (Nat.le_refl _) (.cells #[.int .i64 0, .int .i64 (bI is), .string ⟨#[]⟩, .slice none 0 0] 33)) (Nat.le_refl _) (heap_alloc_new _ _))
  clear h12
  go_wp2_with fail
  refine (getX_L H12.out (o := 1) ⟨by omega, by omega⟩ (x := O1 0 fl s) rfl _ bi_owner 1 0 ⟨#[]⟩ (fun T y W ht hy e => by have := blt_owner ht hy; rw [e] at this; exact this)).mono ?_
  rintro e w13 ⟨rfl, h13⟩
  have H13 := Lib.hid (h13.push (g := w13.heap.size) (ob := .cells #[.int .i64 1, .int .i64 0, .string ⟨#[]⟩, .slice none 0 0] 33 (0, 0)) ((Below.refl w13.heap.size w13).alloc (Nat.le_refl _) (.cells #[.int .i64 1, .int .i64 0, .string ⟨#[]⟩, .slice none 0 0] 33)) (Nat.le_refl _) (heap_alloc_new _ _))
  clear h13
  go_wp2_with fail
  refine (getC_L H13.out (o := 0) ⟨by omega, by omega⟩ (x := nO 0 (-1) [] []) rfl (c := 1) rfl).mono ?_
  rintro e w14 ⟨gc, cap, cur, rfl, h14, hcur⟩
  have H14 := Lib.hid (h14.push (g := w14.heap.size) (ob := .cells #[.int .i64 4, .int .i64 0, .string ⟨#[]⟩, .slice (some ⟨gc, 0, none⟩) 1 cap] 33 (0, 0)) ((Below.refl w14.heap.size w14).alloc (Nat.le_refl _) (.cells #[.int .i64 4, .int .i64 0, .string ⟨#[]⟩, .slice (some ⟨gc, 0, none⟩) 1 cap] 33)) (Nat.le_refl _) (heap_alloc_new _ _))
  have HCUR := Lib.hid hcur
  clear h14 hcur
  go_wp2_with fail
  refine (getX_L H14.out (o := 1) ⟨by omega, by omega⟩ (x := O1 0 fl s) rfl _ bi_loc 1 0 ⟨#[]⟩ (fun T y W ht hy e => by have := blt_loc ht hy; rw [e] at this; exact this)).mono ?_
  rintro e w15 ⟨rfl, h15⟩
  have H15 := Lib.hid (h15.push (g := w15.heap.size) (ob := .cells #[.int .i64 1, .int .i64 0, .string ⟨#[]⟩, .slice none 0 0] 33 (0, 0)) ((Below.refl w15.heap.size w15).alloc (Nat.le_refl _) (.cells #[.int .i64 1, .int .i64 0, .string ⟨#[]⟩, .slice none 0 0] 33)) (Nat.le_refl _) (heap_alloc_new _ _))
  clear h15
  obtain ⟨W, hW⟩ : ∃ W, W = w15.alloc (.cells #[.int .i64 1, .int .i64 0, .string ⟨#[]⟩, .slice none 0 0] 33) := ⟨_, rfl⟩
  rw [← hW] at H15
  have HW := Lib.hid hW
  clear hW
  -- K: 15 loc, 14 contents, gc, 13 owner, 12 flag, 11 object, 8 name
  obtain ⟨-, l1, -, -⟩ := row4 (H15.out.row (List.mem_cons_self ..))
  obtain ⟨-, -, -, c3⟩ := row4 (H15.out.row (List.mem_cons_of_mem _ (List.mem_cons_self ..)))
  have g1 := (cell_of_row W gc 1 _ _ _ (H15.out.row (List.mem_cons_of_mem _ (List.mem_cons_of_mem _ (List.mem_cons_self ..))))).trans HCUR.out
  obtain ⟨-, o1, -, -⟩ := row4 (H15.out.row (List.mem_cons_of_mem _ (List.mem_cons_of_mem _ (List.mem_cons_of_mem _ (List.mem_cons_self ..)))))
  obtain ⟨-, f1, -, -⟩ := row4 (H15.out.row (List.mem_cons_of_mem _ (List.mem_cons_of_mem _ (List.mem_cons_of_mem _ (List.mem_cons_of_mem _ (List.mem_cons_self ..))))))
  have b4 := cell_of_row W w11.heap.size 4 _ _ _ (H15.out.row (List.mem_cons_of_mem _ (List.mem_cons_of_mem _ (List.mem_cons_of_mem _ (List.mem_cons_of_mem _ (List.mem_cons_of_mem _ (List.mem_cons_self ..)))))))
  obtain ⟨-, -, n2, -⟩ := row4 (H15.out.row (List.mem_cons_of_mem _ (List.mem_cons_of_mem _ (List.mem_cons_of_mem _ (List.mem_cons_of_mem _ (List.mem_cons_of_mem _ (List.mem_cons_of_mem _ (List.mem_cons_self ..))))))))
  clear H8 H10 H11 H12 H13 H14
  go_upto_region 25 with fail
  rw [← HW.out]
  cases is
  · simp only [bI, if_true, if_false, Bool.false_eq_true] at f1
    have hflq := HFL.out
    simp only [if_true, if_false, Bool.false_eq_true] at hflq
    subst hflq
    go_wp2_with fail
    refine (valO_c 1 _).mono ?_
    rintro e w16 ⟨rfl, hb16⟩
    have H16 := Lib.hid (H15.out.below ((Below.refl W.heap.size W).trans hb16))
    clear hb16
    go_wp2_with fail
    refine (putO_L H16.out (o := 1) ⟨by omega, by omega⟩ (x := O1 0 0 s) rfl 1 (by omega) (by omega) rfl).mono ?_
    rintro e w17 ⟨rfl, h17⟩
    have H17 := Lib.hid (show LB w1.heap.size w1 w17 (w1.heap.size + 1) w1.heap.size [nO 0 (-1) [] [], O1 1 0 s] 1 _ from h17)
    clear h17 H16
    go_wp2_with fail
    refine (valO_c 7 _).mono ?_
    rintro e w18 ⟨rfl, hb18⟩
    have H18 := Lib.hid (H17.out.below hb18)
    clear hb18
    go_wp2_with fail
    refine (putX_L H18.out (o := 1) ⟨by omega, by omega⟩ (x := O1 1 0 s) rfl _ bi_owner 1 7 ⟨#[]⟩ 13 (fun T y W ht hl => put_nobody ht y 7 (by omega) (by omega) (by rw [hl]; rfl))).mono ?_
    rintro e w19 ⟨rfl, h19⟩
    have H19 := Lib.hid h19
    clear h19
    go_wp2_with fail
    refine (valI_c 1 _).mono ?_
    rintro e w20 ⟨rfl, hb20⟩
    have H20 := Lib.hid (H19.out.below hb20)
    clear hb20
    unfold intV
    go_wp2_with fail
    refine (putX_L H20.out (o := 1) ⟨by omega, by omega⟩ (x := O1 1 0 s) rfl _ bi_name 0 1 ⟨#[]⟩ 1 (fun T y W ht hl => put_type y _ 1 W)).mono ?_
    rintro e w21 ⟨rfl, h21⟩
    have H21 := Lib.hid h21
    clear h21
    go_wp2_with fail
    refine (valO_c 0 _).mono ?_
    rintro e w22 ⟨rfl, hb22⟩
    have H22 := Lib.hid (H21.out.below hb22)
    clear hb22
    go_wp2_with fail
    refine (putX_L H22.out (o := 1) ⟨by omega, by omega⟩ (x := O1 1 0 s) rfl _ bi_loc 1 0 ⟨#[]⟩ 3 (fun T y W ht hl => put_loc y _ 0 W)).mono ?_
    rintro e w23 ⟨rfl, h23⟩
    have H23 := Lib.hid h23
    clear h23
    go_wp2_with fail
    refine (clear_L H23.out (o := 1) ⟨by omega, by omega⟩ (x := O1 1 0 s) rfl _ rfl).mono ?_
    rintro e w24 ⟨rfl, rfl⟩
    go_wp2_with fail
    go_ret
    exact ⟨rfl, HB1.out.trans (H23.out.base.mono HB1.out.size)⟩
  · simp only [bI, if_true, if_false, Bool.false_eq_true] at f1
    have hflq := HFL.out
    simp only [if_true, if_false, Bool.false_eq_true] at hflq
    subst hflq
    go_wp2_with fail
    refine (valO_c 1 _).mono ?_
    rintro e w16 ⟨rfl, hb16⟩
    have H16 := Lib.hid (H15.out.below ((Below.refl W.heap.size W).trans hb16))
    clear hb16
    go_wp2_with fail
    refine (putO_L H16.out (o := 1) ⟨by omega, by omega⟩ (x := O1 0 fl s) rfl 1 (by omega) (by omega) rfl).mono ?_
    rintro e w17 ⟨rfl, h17⟩
    have H17 := Lib.hid (show LB w1.heap.size w1 w17 (w1.heap.size + 1) w1.heap.size [nO 0 (-1) [] [], O1 1 fl s] 1 _ from h17)
    clear h17 H16
    go_wp2_with fail
    refine (valO_c 7 _).mono ?_
    rintro e w18 ⟨rfl, hb18⟩
    have H18 := Lib.hid (H17.out.below hb18)
    clear hb18
    go_wp2_with fail
    refine (putX_L H18.out (o := 1) ⟨by omega, by omega⟩ (x := O1 1 fl s) rfl _ bi_owner 1 7 ⟨#[]⟩ 13 (fun T y W ht hl => put_nobody ht y 7 (by omega) (by omega) (by rw [hl]; rfl))).mono ?_
    rintro e w19 ⟨rfl, h19⟩
    have H19 := Lib.hid h19
    clear h19
    go_wp2_with fail
    refine (valI_c 1 _).mono ?_
    rintro e w20 ⟨rfl, hb20⟩
    have H20 := Lib.hid (H19.out.below hb20)
    clear hb20
    unfold intV
    go_wp2_with fail
    refine (putX_L H20.out (o := 1) ⟨by omega, by omega⟩ (x := O1 1 fl s) rfl _ bi_name 0 1 ⟨#[]⟩ 1 (fun T y W ht hl => put_type y _ 1 W)).mono ?_
    rintro e w21 ⟨rfl, h21⟩
    have H21 := Lib.hid h21
    clear h21
    go_wp2_with fail
    refine (valO_c 0 _).mono ?_
    rintro e w22 ⟨rfl, hb22⟩
    have H22 := Lib.hid (H21.out.below hb22)
    clear hb22
    go_wp2_with fail
    refine (putX_L H22.out (o := 1) ⟨by omega, by omega⟩ (x := O1 1 fl s) rfl _ bi_loc 1 0 ⟨#[]⟩ 3 (fun T y W ht hl => put_loc y _ 0 W)).mono ?_
    rintro e w23 ⟨rfl, h23⟩
    have H23 := Lib.hid h23
    clear h23
    go_wp2_with fail
    refine (clear_L H23.out (o := 1) ⟨by omega, by omega⟩ (x := O1 1 fl s) rfl _ rfl).mono ?_
    rintro e w24 ⟨rfl, rfl⟩
    go_wp2_with fail
    go_ret
    exact ⟨rfl, HB1.out.trans (H23.out.base.mono HB1.out.size)⟩
set_option maxRecDepth 100000 in
set_option maxHeartbeats 16000000 in
theorem builtin_2 (s : ByteArray) (flag : Int) (is : Bool) (w : World) (hfl : I64 flag) (h80 : s.size ≤ 80) (hp : ppB s.data.toList = true) (h64 : 64 < s.size) :
    Calls Tryz.prog 4 #[.string s, .int .i64 flag, .bool is] w fun e w' => e = .returned (.bool true) ∧ Below w.heap.size w w' := by
  have CF := Lib.hid (pfirst_c w)
  have CPR := Lib.hid (fun W => pprinted_c s W (by omega))
  rw [hp] at CPR
  have CNU := Lib.hid (fun W => onumber_c flag 6 W hfl (by omega) (by omega))
  obtain ⟨i, hi, hi6⟩ : ∃ i : Nat, flag % 6 = (i : Int) ∧ i < 6 := ⟨(flag % 6).toNat, by omega, by omega⟩
  rw [hi] at CNU
  have HI6 := Lib.hid hi6
  have hi0 : (0 : Int) ≤ (i : Int) := by omega
  have hi5 : (i : Int) < 6 := by omega
  have hsz : ¬ (80 : Int) < (s.size : Int) := by omega
  obtain ⟨q, hqd⟩ : ∃ q, q = flB i := ⟨_, rfl⟩
  have HQ := Lib.hid hqd
  have h2i : (2 : Int) ^ i = q := by rw [hqd]; exact (flB_two hi6).1
  have hq0 : ¬ q = 0 := by rw [hqd]; exact (flB_two hi6).2.1
  have hwr : wrap64 q = q := by rw [hqd]; exact (flB_two hi6).2.2
  clear hqd
  have HPP := Lib.hid hp
  clear hi hi6 hp
  go_enter Tryz.func4, Tryz.ntmps4
  go_wp2_with fail
  refine CF.out.mono ?_
  rintro e w1 ⟨rfl, hb1⟩
  have HB1 := Lib.hid hb1
  clear hb1
  go_wp2_with fail
  refine (CPR.out _).mono ?_
  rintro e w1' ⟨rfl, rfl⟩
  go_wp2_with fail
  refine (new_L _).mono ?_
  rintro e w2 ⟨rfl, h2⟩
  have H2 := Lib.hid h2
  clear h2
  go_wp2_with fail
  refine (create0_L H2.out (by decide) (by decide)).mono ?_
  rintro e w3 ⟨rfl, h3⟩
  have H3 := Lib.hid (show LS w1.heap.size w1 w3 (w1.heap.size + 1) w1.heap.size [nO 0 (-1) [] []] 0 [] from h3)
  clear h3
  go_wp2_with fail
  refine (createo0_L H3.out (ow := 0) (by decide) (by decide) (by decide)).mono ?_
  rintro e w4 ⟨rfl, h4⟩
  have H4 := Lib.hid ((show LS w1.heap.size w1 w4 (w1.heap.size + 1) w1.heap.size [nO 0 (-1) [] [], ⟨1, -1, 0, -1, 0, 0, ⟨#[]⟩, [], []⟩] 1 [] from h4).bare (by
    intro x hx
    simp only [List.mem_cons, List.not_mem_nil, or_false] at hx
    rcases hx with rfl | rfl <;> exact ⟨rfl, rfl⟩))
  clear h4
  go_wp2_with fail
  refine (move_L H4.out (o := 1) (p := 0) ⟨by omega, by omega⟩ ⟨by omega, by omega⟩ (x := ⟨1, -1, 0, -1, 0, 0, ⟨#[]⟩, [], []⟩) (y := nO 0 (-1) [] []) rfl rfl rfl (by decide) (by decide) (by decide)).mono ?_
  rintro e w5 ⟨rfl, h5⟩
  have H5 := Lib.hid (show LB w1.heap.size w1 w5 (w1.heap.size + 1) w1.heap.size [nO 0 (-1) [] [], O1 0 0 ⟨#[]⟩] 1 [] from h5)
  clear h5 H2 H3 H4
  go_wp2_with fail
  refine (valS_c s _).mono ?_
  rintro e w6 ⟨rfl, hb6⟩
  have H6 := Lib.hid (H5.out.below hb6)
  clear hb6
  go_wp2_with fail
  refine (putX_L H6.out (o := 1) ⟨by omega, by omega⟩ (x := O1 0 0 ⟨#[]⟩) rfl _ bi_name 2 0 s 13 (fun T y W ht hl => put_long y _ s h64 (by omega) W)).mono ?_
  rintro e w7 ⟨rfl, h7⟩
  have H7 := Lib.hid (show LB w1.heap.size w1 w7 (w1.heap.size + 1) w1.heap.size [nO 0 (-1) [] [], O1 0 0 ⟨#[]⟩] 1 [] from h7)
  clear h7 H5 H6
  go_wp2_with fail
  refine (getX_L H7.out (o := 1) ⟨by omega, by omega⟩ (x := O1 0 0 ⟨#[]⟩) rfl _ bi_name 2 0 ⟨#[]⟩ (fun T y W ht hy e => by have := blt_name ht hy; rw [e] at this; exact this)).mono ?_
  rintro e w8 ⟨rfl, h8⟩
  have H8 := Lib.hid (h8.push (g := w8.heap.size) (ob := .cells #[.int .i64 2, .int .i64 0, .string ⟨#[]⟩, .slice none 0 0] 33 (0, 0)) ((Below.refl w8.heap.size w8).alloc (Nat.le_refl _) (.cells #[.int .i64 2, .int .i64 0, .string ⟨#[]⟩, .slice none 0 0] 33)) (Nat.le_refl _) (heap_alloc_new _ _))
  clear h8
  obtain ⟨v8, hv8⟩ : ∃ v8, v8 = w8.alloc (.cells #[.int .i64 2, .int .i64 0, .string ⟨#[]⟩, .slice none 0 0] 33) := ⟨_, rfl⟩
  rw [← hv8] at H8
  have HV8 := Lib.hid hv8
  clear hv8
  have HF8 := Lib.hid (H8.out.below ((Below.refl v8.heap.size v8).alloc (Nat.le_refl _) (.cells #[.string ⟨#[112, 108, 97, 121, 101, 114]⟩, .string ⟨#[112, 114, 111, 103, 114, 97, 109, 109, 101, 114]⟩, .string ⟨#[119, 105, 122, 97, 114, 100]⟩, .string ⟨#[114]⟩, .string ⟨#[119]⟩, .string ⟨#[102]⟩] 9)))
  have hfc : (v8.alloc (.cells #[.string ⟨#[112, 108, 97, 121, 101, 114]⟩, .string ⟨#[112, 114, 111, 103, 114, 97, 109, 109, 101, 114]⟩, .string ⟨#[119, 105, 122, 97, 114, 100]⟩, .string ⟨#[114]⟩, .string ⟨#[119]⟩, .string ⟨#[102]⟩] 9)).cell? ⟨v8.heap.size, i, none⟩ = some (.string (flN i)) := (cell_of_row _ v8.heap.size i _ _ _ (heap_alloc_new v8 _)).trans (flN_row HI6.out)
  go_upto_region 16 with fail
  rw [← HV8.out]
  go_wp2_with fail
  refine (CNU.out _).mono ?_
  rintro e w8' ⟨rfl, rfl⟩
  go_wp2_with fail
  refine (refBool_c is _).mono ?_
  rintro e w9 ⟨rfl, hb9⟩
  have H9 := Lib.hid (HF8.out.below hb9)
  clear hb9 hfc
  go_wp2_with fail
  refine (putF_L H9.out (o := 1) ⟨by omega, by omega⟩ (x := O1 0 0 ⟨#[]⟩) rfl rfl HI6.out is).mono ?_
  rintro e w10 ⟨rfl, h10⟩
  rw [← HQ.out] at h10
  obtain ⟨fl, hflq⟩ : ∃ fl, fl = if is then q else 0 := ⟨_, rfl⟩
  rw [← hflq] at h10
  have HFL := Lib.hid hflq
  clear hflq
  have H10 := Lib.hid (show LB w1.heap.size w1 w10 (w1.heap.size + 1) w1.heap.size [nO 0 (-1) [] [], O1 0 fl ⟨#[]⟩] 1 _ from h10)
  clear h10 H7 H9 HF8
  go_wp2_with fail
  refine (getT_L H10.out (o := 1) ⟨by omega, by omega⟩ (x := O1 0 fl ⟨#[]⟩) rfl).mono ?_
  rintro e w11 ⟨he, h11⟩
  replace he : e = .returned (.tuple #[.agg #[.int .i64 1, .int .i64 (-1), .int .i64 0, .int .i64 0, .int .i64 fl, .int .i64 0, .string ⟨#[]⟩, .slice none 0 0, .slice none 0 0, .slice none 0 0], .bool true]) := he
  subst he
  have H11 := Lib.hid (h11.push (g := w11.heap.size) (ob := .cells #[.int .i64 1, .int .i64 (-1), .int .i64 0, .int .i64 0, .int .i64 fl, .int .i64 0, .string ⟨#[]⟩, .slice none 0 0, .slice none 0 0, .slice none 0 0] 29 (0, 0)) ((Below.refl w11.heap.size w11).alloc (Nat.le_refl _) (.cells #[.int .i64 1, .int .i64 (-1), .int .i64 0, .int .i64 0, .int .i64 fl, .int .i64 0, .string ⟨#[]⟩, .slice none 0 0, .slice none 0 0, .slice none 0 0] 29)) (Nat.le_refl _) (heap_alloc_new _ _))
  clear h11
  go_wp2_with fail
  refine (CNU.out _).mono ?_
  rintro e w11' ⟨rfl, rfl⟩
  go_wp2_with fail
  refine (getX_L H11.out (o := 1) ⟨by omega, by omega⟩ (x := O1 0 fl ⟨#[]⟩) rfl _ (flN_bi HI6.out) 0 (bI is) ⟨#[]⟩ (fun T y W ht hy e => blt_flag ht hy (flN i) (flN_not HI6.out) (flB i) (fun W => flag_c i HI6.out W) (by rw [← HQ.out]; exact hq0) (flB_bits HI6.out).2.2.1 (flB_bits HI6.out).2.2.2 is (by rw [e, ← HQ.out]; exact HFL.out))).mono ?_
  rintro e w12 ⟨rfl, h12⟩
  have H12 := Lib.hid (h12.push (g := w12.heap.size) (ob := .cells #[.int .i64 0, .int .i64 (bI is), .string ⟨#[]⟩, .slice none 0 0] 33 (0, 0)) ((Below.refl w12.heap.size w12).alloc (Nat.le_refl _) (.cells #[.int .i64 0, .int .i64 (bI is), .string ⟨#[]⟩, .slice none 0 0] 33)) (Nat.le_refl _) (heap_alloc_new _ _))
  clear h12
  go_wp2_with fail
  refine (getX_L H12.out (o := 1) ⟨by omega, by omega⟩ (x := O1 0 fl ⟨#[]⟩) rfl _ bi_owner 1 0 ⟨#[]⟩ (fun T y W ht hy e => by have := blt_owner ht hy; rw [e] at this; exact this)).mono ?_
  rintro e w13 ⟨rfl, h13⟩
  have H13 := Lib.hid (h13.push (g := w13.heap.size) (ob := .cells #[.int .i64 1, .int .i64 0, .string ⟨#[]⟩, .slice none 0 0] 33 (0, 0)) ((Below.refl w13.heap.size w13).alloc (Nat.le_refl _) (.cells #[.int .i64 1, .int .i64 0, .string ⟨#[]⟩, .slice none 0 0] 33)) (Nat.le_refl _) (heap_alloc_new _ _))
  clear h13
  go_wp2_with fail
  refine (getC_L H13.out (o := 0) ⟨by omega, by omega⟩ (x := nO 0 (-1) [] []) rfl (c := 1) rfl).mono ?_
  rintro e w14 ⟨gc, cap, cur, rfl, h14, hcur⟩
  have H14 := Lib.hid (h14.push (g := w14.heap.size) (ob := .cells #[.int .i64 4, .int .i64 0, .string ⟨#[]⟩, .slice (some ⟨gc, 0, none⟩) 1 cap] 33 (0, 0)) ((Below.refl w14.heap.size w14).alloc (Nat.le_refl _) (.cells #[.int .i64 4, .int .i64 0, .string ⟨#[]⟩, .slice (some ⟨gc, 0, none⟩) 1 cap] 33)) (Nat.le_refl _) (heap_alloc_new _ _))
  have HCUR := Lib.hid hcur
  clear h14 hcur
  go_wp2_with fail
  refine (getX_L H14.out (o := 1) ⟨by omega, by omega⟩ (x := O1 0 fl ⟨#[]⟩) rfl _ bi_loc 1 0 ⟨#[]⟩ (fun T y W ht hy e => by have := blt_loc ht hy; rw [e] at this; exact this)).mono ?_
  rintro e w15 ⟨rfl, h15⟩
  have H15 := Lib.hid (h15.push (g := w15.heap.size) (ob := .cells #[.int .i64 1, .int .i64 0, .string ⟨#[]⟩, .slice none 0 0] 33 (0, 0)) ((Below.refl w15.heap.size w15).alloc (Nat.le_refl _) (.cells #[.int .i64 1, .int .i64 0, .string ⟨#[]⟩, .slice none 0 0] 33)) (Nat.le_refl _) (heap_alloc_new _ _))
  clear h15
  obtain ⟨W, hW⟩ : ∃ W, W = w15.alloc (.cells #[.int .i64 1, .int .i64 0, .string ⟨#[]⟩, .slice none 0 0] 33) := ⟨_, rfl⟩
  rw [← hW] at H15
  have HW := Lib.hid hW
  clear hW
  -- K: 15 loc, 14 contents, gc, 13 owner, 12 flag, 11 object, 8 name
  obtain ⟨-, l1, -, -⟩ := row4 (H15.out.row (List.mem_cons_self ..))
  obtain ⟨-, -, -, c3⟩ := row4 (H15.out.row (List.mem_cons_of_mem _ (List.mem_cons_self ..)))
  have g1 := (cell_of_row W gc 1 _ _ _ (H15.out.row (List.mem_cons_of_mem _ (List.mem_cons_of_mem _ (List.mem_cons_self ..))))).trans HCUR.out
  obtain ⟨-, o1, -, -⟩ := row4 (H15.out.row (List.mem_cons_of_mem _ (List.mem_cons_of_mem _ (List.mem_cons_of_mem _ (List.mem_cons_self ..)))))
  obtain ⟨-, f1, -, -⟩ := row4 (H15.out.row (List.mem_cons_of_mem _ (List.mem_cons_of_mem _ (List.mem_cons_of_mem _ (List.mem_cons_of_mem _ (List.mem_cons_self ..))))))
  have b4 := cell_of_row W w11.heap.size 4 _ _ _ (H15.out.row (List.mem_cons_of_mem _ (List.mem_cons_of_mem _ (List.mem_cons_of_mem _ (List.mem_cons_of_mem _ (List.mem_cons_of_mem _ (List.mem_cons_self ..)))))))
  obtain ⟨-, -, n2, -⟩ := row4 (H15.out.row (List.mem_cons_of_mem _ (List.mem_cons_of_mem _ (List.mem_cons_of_mem _ (List.mem_cons_of_mem _ (List.mem_cons_of_mem _ (List.mem_cons_of_mem _ (List.mem_cons_self ..))))))))
  clear H8 H10 H11 H12 H13 H14
  go_upto_region 25 with fail
  rw [← HW.out]
  cases is
  · simp only [bI, if_true, if_false, Bool.false_eq_true] at f1
    have hflq := HFL.out
    simp only [if_true, if_false, Bool.false_eq_true] at hflq
    subst hflq
    go_wp2_with fail
    refine (valO_c 1 _).mono ?_
    rintro e w16 ⟨rfl, hb16⟩
    have H16 := Lib.hid (H15.out.below ((Below.refl W.heap.size W).trans hb16))
    clear hb16
    go_wp2_with fail
    refine (putO_L H16.out (o := 1) ⟨by omega, by omega⟩ (x := O1 0 0 ⟨#[]⟩) rfl 1 (by omega) (by omega) rfl).mono ?_
    rintro e w17 ⟨rfl, h17⟩
    have H17 := Lib.hid (show LB w1.heap.size w1 w17 (w1.heap.size + 1) w1.heap.size [nO 0 (-1) [] [], O1 1 0 ⟨#[]⟩] 1 _ from h17)
    clear h17 H16
    go_wp2_with fail
    refine (valO_c 7 _).mono ?_
    rintro e w18 ⟨rfl, hb18⟩
    have H18 := Lib.hid (H17.out.below hb18)
    clear hb18
    go_wp2_with fail
    refine (putX_L H18.out (o := 1) ⟨by omega, by omega⟩ (x := O1 1 0 ⟨#[]⟩) rfl _ bi_owner 1 7 ⟨#[]⟩ 13 (fun T y W ht hl => put_nobody ht y 7 (by omega) (by omega) (by rw [hl]; rfl))).mono ?_
    rintro e w19 ⟨rfl, h19⟩
    have H19 := Lib.hid h19
    clear h19
    go_wp2_with fail
    refine (valI_c 1 _).mono ?_
    rintro e w20 ⟨rfl, hb20⟩
    have H20 := Lib.hid (H19.out.below hb20)
    clear hb20
    unfold intV
    go_wp2_with fail
    refine (putX_L H20.out (o := 1) ⟨by omega, by omega⟩ (x := O1 1 0 ⟨#[]⟩) rfl _ bi_name 0 1 ⟨#[]⟩ 1 (fun T y W ht hl => put_type y _ 1 W)).mono ?_
    rintro e w21 ⟨rfl, h21⟩
    have H21 := Lib.hid h21
    clear h21
    go_wp2_with fail
    refine (valO_c 0 _).mono ?_
    rintro e w22 ⟨rfl, hb22⟩
    have H22 := Lib.hid (H21.out.below hb22)
    clear hb22
    go_wp2_with fail
    refine (putX_L H22.out (o := 1) ⟨by omega, by omega⟩ (x := O1 1 0 ⟨#[]⟩) rfl _ bi_loc 1 0 ⟨#[]⟩ 3 (fun T y W ht hl => put_loc y _ 0 W)).mono ?_
    rintro e w23 ⟨rfl, h23⟩
    have H23 := Lib.hid h23
    clear h23
    go_wp2_with fail
    refine (clear_L H23.out (o := 1) ⟨by omega, by omega⟩ (x := O1 1 0 ⟨#[]⟩) rfl _ rfl).mono ?_
    rintro e w24 ⟨rfl, rfl⟩
    go_wp2_with fail
    go_ret
    exact ⟨rfl, HB1.out.trans (H23.out.base.mono HB1.out.size)⟩
  · simp only [bI, if_true, if_false, Bool.false_eq_true] at f1
    have hflq := HFL.out
    simp only [if_true, if_false, Bool.false_eq_true] at hflq
    subst hflq
    go_wp2_with fail
    refine (valO_c 1 _).mono ?_
    rintro e w16 ⟨rfl, hb16⟩
    have H16 := Lib.hid (H15.out.below ((Below.refl W.heap.size W).trans hb16))
    clear hb16
    go_wp2_with fail
    refine (putO_L H16.out (o := 1) ⟨by omega, by omega⟩ (x := O1 0 fl ⟨#[]⟩) rfl 1 (by omega) (by omega) rfl).mono ?_
    rintro e w17 ⟨rfl, h17⟩
    have H17 := Lib.hid (show LB w1.heap.size w1 w17 (w1.heap.size + 1) w1.heap.size [nO 0 (-1) [] [], O1 1 fl ⟨#[]⟩] 1 _ from h17)
    clear h17 H16
    go_wp2_with fail
    refine (valO_c 7 _).mono ?_
    rintro e w18 ⟨rfl, hb18⟩
    have H18 := Lib.hid (H17.out.below hb18)
    clear hb18
    go_wp2_with fail
    refine (putX_L H18.out (o := 1) ⟨by omega, by omega⟩ (x := O1 1 fl ⟨#[]⟩) rfl _ bi_owner 1 7 ⟨#[]⟩ 13 (fun T y W ht hl => put_nobody ht y 7 (by omega) (by omega) (by rw [hl]; rfl))).mono ?_
    rintro e w19 ⟨rfl, h19⟩
    have H19 := Lib.hid h19
    clear h19
    go_wp2_with fail
    refine (valI_c 1 _).mono ?_
    rintro e w20 ⟨rfl, hb20⟩
    have H20 := Lib.hid (H19.out.below hb20)
    clear hb20
    unfold intV
    go_wp2_with fail
    refine (putX_L H20.out (o := 1) ⟨by omega, by omega⟩ (x := O1 1 fl ⟨#[]⟩) rfl _ bi_name 0 1 ⟨#[]⟩ 1 (fun T y W ht hl => put_type y _ 1 W)).mono ?_
    rintro e w21 ⟨rfl, h21⟩
    have H21 := Lib.hid h21
    clear h21
    go_wp2_with fail
    refine (valO_c 0 _).mono ?_
    rintro e w22 ⟨rfl, hb22⟩
    have H22 := Lib.hid (H21.out.below hb22)
    clear hb22
    go_wp2_with fail
    refine (putX_L H22.out (o := 1) ⟨by omega, by omega⟩ (x := O1 1 fl ⟨#[]⟩) rfl _ bi_loc 1 0 ⟨#[]⟩ 3 (fun T y W ht hl => put_loc y _ 0 W)).mono ?_
    rintro e w23 ⟨rfl, h23⟩
    have H23 := Lib.hid h23
    clear h23
    go_wp2_with fail
    refine (clear_L H23.out (o := 1) ⟨by omega, by omega⟩ (x := O1 1 fl ⟨#[]⟩) rfl _ rfl).mono ?_
    rintro e w24 ⟨rfl, rfl⟩
    go_wp2_with fail
    go_ret
    exact ⟨rfl, HB1.out.trans (H23.out.base.mono HB1.out.size)⟩
set_option maxRecDepth 100000 in
set_option maxHeartbeats 2000000 in
theorem builtin_3 (s : ByteArray) (flag : Int) (is : Bool) (w : World) (h80 : 80 < s.size) :
    Calls Tryz.prog 4 #[.string s, .int .i64 flag, .bool is] w fun e w' => e = .returned (.bool true) ∧ Below w.heap.size w w' := by
  have CF := Lib.hid (pfirst_c w)
  have hsz : (80 : Int) < (s.size : Int) := by omega
  go_enter Tryz.func4, Tryz.ntmps4
  go_wp2_with fail
  refine CF.out.mono ?_
  rintro e w1 ⟨rfl, hb1⟩
  have HB1 := Lib.hid hb1
  clear hb1
  go_wp2_with fail
  go_ret
  exact ⟨rfl, HB1.out⟩
set_option maxRecDepth 100000 in
set_option maxHeartbeats 2000000 in
theorem builtin_4 (s : ByteArray) (flag : Int) (is : Bool) (w : World) (h80 : s.size ≤ 80) (hp : ppB s.data.toList = false) :
    Calls Tryz.prog 4 #[.string s, .int .i64 flag, .bool is] w fun e w' => e = .returned (.bool true) ∧ Below w.heap.size w w' := by
  have CF := Lib.hid (pfirst_c w)
  have CPR := Lib.hid (fun W => pprinted_c s W (by omega))
  rw [hp] at CPR
  have hsz : ¬ (80 : Int) < (s.size : Int) := by omega
  clear hp
  go_enter Tryz.func4, Tryz.ntmps4
  go_wp2_with fail
  refine CF.out.mono ?_
  rintro e w1 ⟨rfl, hb1⟩
  have HB1 := Lib.hid hb1
  clear hb1
  go_wp2_with fail
  refine (CPR.out _).mono ?_
  rintro e w1' ⟨rfl, rfl⟩
  go_wp2_with fail
  go_ret
  exact ⟨rfl, HB1.out⟩
theorem propsBuiltin_c (s : ByteArray) (flag : Int) (is : Bool) (w : World) (hf1 : -9223372036854775808 ≤ flag) (hf2 : flag ≤ 9223372036854775807) :
    Calls Tryz.prog 4 #[.string s, .int .i64 flag, .bool is] w fun e w' => e = .returned (.bool true) ∧ Below w.heap.size w w' := by
  rcases Nat.lt_or_ge 80 s.size with h80 | h80
  · exact builtin_3 s flag is w h80
  cases hp : ppB s.data.toList with
  | false => exact builtin_4 s flag is w h80 hp
  | true =>
    rcases Nat.lt_or_ge 64 s.size with h64 | h64
    · exact builtin_2 s flag is w ⟨hf1, hf2⟩ h80 hp h64
    · exact builtin_1 s flag is w ⟨hf1, hf2⟩ h80 hp h64
end Go.Proofs.YtnphgcbknfmapaaGreatDoor
