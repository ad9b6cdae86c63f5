/- Contracts of the functions that the statement reaches, and the plain mathematics beneath: several texts joined. -/
import Derived.Test.YtnphgcbknfmapaaDoorPowAF
import Derived.Test.YtnphgcbknfmapaaDoorPowAG
namespace Go.Proofs.YtnphgcbknfmapaaDoor
open Go.RowKit Go.Lib
set_option linter.unusedVariables false
theorem add_L {B a m : Nat} {w0 w : World} {l : List OB} {mx o : Int} {K : List (Nat × Obj)} {x : OB} (h : LS B w0 w a m l mx K) (ho : I64 o) (hx : getO l o = some x) (n : ByteArray) (ow bits v : Int) (hn : n.size ≤ 140737488351232) (hb : nmB n.data.toList = true) (hi : biB n = false) (hs : x.slots = [])
    {r : List Int} (hr : belowO l o = some r) (hri : ∀ d ∈ r, I64 d) (hrl : r.length ≤ 1000000) (hbare : ∀ d ∈ r, ∃ y, getO l d = some y ∧ y.slots = []) (hnd : r.Nodup) {fs : List SL} (hfs : fs.length = r.length) (hfl : ∀ f ∈ fs, FlatS f) (hfn : ∀ f ∈ fs, f.name = n)
    (hsp : ∀ (i : Nat) (d : Int) (f : SL), r[i]? = some d → fs[i]? = some f → (d = o ∧ f = ⟨n, ow, bits, false, 0, v, ⟨#[]⟩⟩) ∨ (d ≠ o ∧ ∃ y, getO l d = some y ∧ I64 y.parent ∧ ∃ k : Nat, k < i ∧ r[k]? = some y.parent ∧ ∃ fk, fs[k]? = some fk ∧ f = freshO fk y.owner))
    (how : I64 ow) (hoh : hasO l ow = true) (hb0 : 0 ≤ bits) (hb7 : bits ≤ 7) (hdf : x.defs = []) :
    Calls Tryd.prog 9 #[.pointer (some ⟨a, 0, none⟩), .int .i64 o, addV n ow bits v] w fun e w' => e = .returned (.int .i64 0) ∧ LS B w0 w' a m (layAll (repO l o { x with defs := [n] }) (r.zip fs)) mx K := by
  obtain ⟨T, ht, rfl, h0, hK⟩ := h
  obtain ⟨X, hX, rfl⟩ := findT_of_getO hx
  have hdv := (ht.bare X (findT_some hX).1).2 hdf
  refine (add_ok ht ho hX n ow bits v hn hb hi (by rw [hs]; rfl) hr hri hrl (fun d hd => ?_) (fun d hd y hy => ?_) hnd hfs hfl hfn (fun i d f h1 h2 => ?_) how hoh hb0 hb7 hdf hdv).mono ?_
  · obtain ⟨y, hy, _⟩ := hbare d hd
    obtain ⟨y', h1, -⟩ := findT_of_getO hy
    exact ⟨y', h1⟩
  · obtain ⟨z, hz, hzs⟩ := hbare d hd
    obtain ⟨y', h1, rfl⟩ := findT_of_getO hz
    rw [hy] at h1
    injection h1 with h1
    subst h1
    exact ⟨hzs, (ht.bare y (findT_some hy).1).1 hzs⟩
  · rcases hsp i d f h1 h2 with e | ⟨e, y, hy, hp, k, hk, hrk, fk, hfk, he⟩
    · exact .inl e
    · obtain ⟨y', h3, rfl⟩ := findT_of_getO hy
      exact .inr ⟨e, y', h3, hp, k, hk, hrk, fk, hfk, he⟩
  · rintro e w' ⟨rfl, T', hs', hl'⟩
    exact ⟨rfl, ls_step ht h0 hK hs' hl'⟩
end Go.Proofs.YtnphgcbknfmapaaDoor
namespace Go.Proofs.YtnphgcbknfmapaaDoor
open Go.RowKit Go.Lib
set_option linter.unusedVariables false
theorem row8 {w : World} {g t : Nat} {a0 a1 a2 a3 a4 a5 a6 a7 : Value} (h : w.heap[g]? = some (.cells #[a0, a1, a2, a3, a4, a5, a6, a7] t (0, 0))) :
    w.cell? ⟨g, 0, none⟩ = some a0 ∧ w.cell? ⟨g, 1, none⟩ = some a1 ∧ w.cell? ⟨g, 2, none⟩ = some a2 ∧ w.cell? ⟨g, 3, none⟩ = some a3 ∧ w.cell? ⟨g, 4, none⟩ = some a4 ∧ w.cell? ⟨g, 5, none⟩ = some a5 ∧ w.cell? ⟨g, 6, none⟩ = some a6 ∧ w.cell? ⟨g, 7, none⟩ = some a7 :=
  ⟨cell_of_row w g 0 _ _ _ h, cell_of_row w g 1 _ _ _ h, cell_of_row w g 2 _ _ _ h, cell_of_row w g 3 _ _ _ h, cell_of_row w g 4 _ _ _ h, cell_of_row w g 5 _ _ _ h, cell_of_row w g 6 _ _ _ h, cell_of_row w g 7 _ _ _ h⟩
def nO (i p : Int) (d : List ByteArray) (s : List SL) : OB := ⟨i, p, i, -1, 0, 0, ⟨#[]⟩, d, s⟩
/-- A slot as Add lays it. -/
def sN (n : ByteArray) (bits v : Int) : SL := ⟨n, 0, bits, false, 0, v, ⟨#[]⟩⟩
theorem flat_sN (n : ByteArray) {bits : Int} (v : Int) (h0 : 0 ≤ bits) (h7 : bits ≤ 7) : FlatS (sN n bits v) := ⟨h0, h7, rfl, rfl⟩
theorem slotI_one {n : ByteArray} {f : SL} (h : f.name = n) : slotI [f] n = some 0 := by unfold slotI; simp [h]
theorem slO_one {y : OB} {n : ByteArray} {f : SL} (hy : y.slots = [f]) (h : f.name = n) : slO y n = some f := by
  unfold slO
  rw [hy, slotI_one h]
  rfl
theorem first_gv (n : ByteArray) (v : Int) : gvO [nO 0 (-1) [n] [sN n 0 v], nO 1 0 [] [freshO (sN n 0 v) 1]] n (aboveO [nO 0 (-1) [n] [sN n 0 v], nO 1 0 [] [freshO (sN n 0 v) 1]] 1) = some (sN n 0 v) := by
  have h1 : getO [nO 0 (-1) [n] [sN n 0 v], nO 1 0 [] [freshO (sN n 0 v) 1]] 1 = some (nO 1 0 [] [freshO (sN n 0 v) 1]) := rfl
  have h0 : getO [nO 0 (-1) [n] [sN n 0 v], nO 1 0 [] [freshO (sN n 0 v) 1]] 0 = some (nO 0 (-1) [n] [sN n 0 v]) := rfl
  rw [show aboveO [nO 0 (-1) [n] [sN n 0 v], nO 1 0 [] [freshO (sN n 0 v) 1]] 1 = [1, 0] from rfl, gvO, h1, Option.bind_some, slO_one (n := n) (y := nO 1 0 [] [freshO (sN n 0 v) 1]) (f := freshO (sN n 0 v) 1) rfl rfl]
  show gvO _ n [0] = _
  rw [gvO, h0, Option.bind_some, slO_one (n := n) (y := nO 0 (-1) [n] [sN n 0 v]) (f := sN n 0 v) rfl rfl]
  rfl
theorem xname : nmB (⟨#[120]⟩ : ByteArray).data.toList = true ∧ biB ⟨#[120]⟩ = false := by decide
theorem first_add {B a m : Nat} {w0 w : World} {K : List (Nat × Obj)} (h : LS B w0 w a m [nO 0 (-1) [] [], nO 1 0 [] []] 1 K) (n : ByteArray) (hn : n.size ≤ 140737488351232) (hb : nmB n.data.toList = true) (hi : biB n = false) (v : Int) :
    Calls Tryd.prog 9 #[.pointer (some ⟨a, 0, none⟩), .int .i64 0, addV n 0 0 v] w fun e w' => e = .returned (.int .i64 0) ∧ LS B w0 w' a m [nO 0 (-1) [n] [sN n 0 v], nO 1 0 [] [freshO (sN n 0 v) 1]] 1 K := by
  refine (add_L h (x := nO 0 (-1) [] []) ⟨by omega, by omega⟩ rfl n 0 0 v hn hb hi rfl (r := [0, 1]) (by rfl) ?_ (by decide) ?_ (by decide) (fs := [sN n 0 v, freshO (sN n 0 v) 1]) rfl ?_ ?_ ?_ ⟨by omega, by omega⟩ rfl (by decide) (by decide) rfl).mono ?_
  · intro d hd
    simp only [List.mem_cons, List.not_mem_nil, or_false] at hd
    rcases hd with rfl | rfl <;> exact ⟨by omega, by omega⟩
  · intro d hd
    simp only [List.mem_cons, List.not_mem_nil, or_false] at hd
    rcases hd with rfl | rfl <;> exact ⟨_, rfl, rfl⟩
  · intro f hf
    simp only [List.mem_cons, List.not_mem_nil, or_false] at hf
    rcases hf with rfl | rfl
    · exact flat_sN n v (by decide) (by decide)
    · exact (flat_sN n v (by decide) (by decide)).fresh 1
  · intro f hf
    simp only [List.mem_cons, List.not_mem_nil, or_false] at hf
    rcases hf with rfl | rfl <;> rfl
  · intro i d f h1 h2
    match i with
    | 0 =>
      injection h1 with h1
      injection h2 with h2
      exact .inl ⟨h1.symm, h2.symm⟩
    | 1 =>
      injection h1 with h1
      injection h2 with h2
      subst h1
      exact .inr ⟨by decide, _, rfl, ⟨by decide, by decide⟩, 0, by decide, rfl, _, rfl, h2.symm⟩
    | k + 2 => cases h1
  · rintro e w' ⟨rfl, h'⟩
    exact ⟨rfl, h'⟩
set_option maxRecDepth 100000 in
set_option maxHeartbeats 2000000 in
theorem pfirst_c (w : World) : Calls Tryd.prog 5 #[] w fun e w' => e = .returned (.bool true) ∧ Below w.heap.size w w' := by
  have CN := Lib.hid (new_L w)
  go_enter Tryd.func5, Tryd.ntmps5
  go_wp2_with fail
  refine CN.out.mono ?_
  rintro e w1 ⟨rfl, h1⟩
  have H1 := Lib.hid h1
  clear h1 CN
  go_wp2_with fail
  refine (create0_L H1.out (by decide) (by decide)).mono ?_
  rintro e w2 ⟨rfl, h2⟩
  have H2 := Lib.hid (show LS w.heap.size w w2 (w.heap.size + 1) w.heap.size [nO 0 (-1) [] []] 0 [] from h2)
  clear h2
  go_wp2_with fail
  refine (create_L H2.out (p := 0) ⟨by omega, by omega⟩ (x := nO 0 (-1) [] []) rfl (by decide) (by decide) (by decide)).mono ?_
  rintro e w3 ⟨rfl, h3⟩
  have H3 := Lib.hid (show LS w.heap.size w w3 (w.heap.size + 1) w.heap.size [nO 0 (-1) [] [], nO 1 0 [] []] 1 [] from h3)
  clear h3
  go_wp2_with fail
  refine (valI_c 7 _).mono ?_
  rintro e w4 ⟨rfl, hb4⟩
  have H4 := Lib.hid (H3.out.below hb4)
  clear hb4
  unfold intV
  go_wp2_with fail
  refine (first_add H4.out ⟨#[120]⟩ (by decide) xname.1 xname.2 7).mono ?_
  rintro e w5 ⟨rfl, h5⟩
  have H5 := Lib.hid h5
  clear h5
  go_wp2_with fail
  refine (get_L H5.out (o := 1) ⟨by omega, by omega⟩ rfl (by
    intro x hx
    simp only [List.mem_cons, List.not_mem_nil, or_false] at hx
    rcases hx with rfl | rfl <;> exact ⟨by decide, by decide⟩) ⟨#[120]⟩ xname.2 (q := some (sN ⟨#[120]⟩ 0 7)) (first_gv _ 7)).mono ?_
  rintro e w6 ⟨rfl, h6⟩
  have H6 := Lib.hid h6
  clear h6
  unfold gvV sN
  go_wp2_with fail
  go_ret
  exact ⟨rfl, (H6.out.base).alloc (by have := H6.out.base.size; exact this) _⟩
end Go.Proofs.YtnphgcbknfmapaaDoor
namespace Go.Proofs.YtnphgcbknfmapaaDoor
open Go.RowKit Go.Lib
set_option linter.unusedVariables false
theorem pret_int {k : IntKind} {a b : Int} (h : a = b) : Ending.returned (.int k a) = .returned (.int k b) := by rw [h]
theorem ptmod (n : Int) (b : Int) (hb : 0 < b) : (Int.tmod n b < 0 → n % b = Int.tmod n b + b) ∧ (¬ Int.tmod n b < 0 → n % b = Int.tmod n b) ∧ -b < Int.tmod n b ∧ Int.tmod n b < b := by
  have h0 : n % b = (Int.tmod n b) % b := by
    conv => lhs; rw [← Int.tmod_add_mul_tdiv n b]
    rw [Int.add_mul_emod_self_left]
  have ht1 : Int.tmod n b < b := Int.tmod_lt_of_pos n (by omega)
  have ht0 : -b < Int.tmod n b := by
    by_cases h : 0 ≤ n
    · have := Int.tmod_nonneg b h; omega
    · have h1 := Int.tmod_lt_of_pos (-n) hb
      rw [Int.neg_tmod] at h1; omega
  refine ⟨fun h => ?_, fun h => ?_, ht0, ht1⟩
  · rw [h0, ← Int.add_emod_right, Int.emod_eq_of_lt (by omega) (by omega)]
  · rw [h0, Int.emod_eq_of_lt (by omega) (by omega)]
theorem pnumber_c (n b : Int) (w : World) (hn : I64 n) (h0 : 0 < b) (h1 : b ≤ 1000000) :
    Calls Tryd.prog 10 #[.int .i64 n, .int .i64 b] w fun e w' => e = .returned (.int .i64 (n % b)) ∧ w = w' := by
  obtain ⟨hn1, hn2⟩ := hn
  obtain ⟨he1, he2, ht0, ht1⟩ := ptmod n b h0
  have hbz : (b == 0) = false := by simp; omega
  obtain ⟨r, hr⟩ : ∃ r, r = n % b := ⟨_, rfl⟩
  rw [← hr] at he1 he2 ⊢
  clear hr
  by_cases hneg : Int.tmod n b < 0
  · have hd : decide (Int.tmod n b < 0) = true := decide_eq_true hneg
    have HE := Lib.hid (he1 hneg)
    clear he1 he2
    go_enter Tryd.func10, Tryd.ntmps10
    go_wp2_with fail
    go_ret
    exact ⟨pret_int HE.out.symm, rfl⟩
  · have hd : decide (Int.tmod n b < 0) = false := decide_eq_false hneg
    have HE := Lib.hid (he2 hneg)
    clear he1 he2
    go_enter Tryd.func10, Tryd.ntmps10
    go_wp2_with fail
    go_ret
    exact ⟨pret_int HE.out.symm, rfl⟩
theorem and4 (t : Int) (h0 : 0 ≤ t) (h7 : t ≤ 7) : (t.toNat &&& 4 ≠ 0 ∧ Go.bits .and .i64 t 4 = 4) ∨ (¬ (t.toNat &&& 4 ≠ 0) ∧ Go.bits .and .i64 t 4 = 0) := by
  obtain h | h | h | h | h | h | h | h : t = 0 ∨ t = 1 ∨ t = 2 ∨ t = 3 ∨ t = 4 ∨ t = 5 ∨ t = 6 ∨ t = 7 := by omega
  all_goals
    subst h
    first
      | exact .inl ⟨by decide, by decide⟩
      | exact .inr ⟨by decide, by decide⟩
theorem xy : ((⟨#[120]⟩ : ByteArray).toList == (⟨#[121]⟩ : ByteArray).toList) = false := by decide +kernel
def sF (n : ByteArray) (ow bits : Int) : SL := ⟨n, ow, bits, true, 0, 0, ⟨#[]⟩⟩
theorem slotI_y {u t : Int} : slotI [sF ⟨#[120]⟩ u t] ⟨#[121]⟩ = none := by
  unfold slotI
  rw [List.findIdx?_eq_none_iff]
  intro s hs
  rw [List.mem_singleton] at hs
  subst hs
  exact xy
theorem oadd {B a m : Nat} {w0 w : World} {K : List (Nat × Obj)} (h : LS B w0 w a m [nO 0 (-1) [] [], nO 1 0 [] [], nO 2 1 [] []] 2 K) (n : ByteArray) (hn : n.size ≤ 140737488351232) (hb : nmB n.data.toList = true) (hi : biB n = false) (b v : Int) (h0 : 0 ≤ b) (h7 : b ≤ 7) :
    Calls Tryd.prog 9 #[.pointer (some ⟨a, 0, none⟩), .int .i64 0, addV n 0 b v] w fun e w' => e = .returned (.int .i64 0) ∧ LS B w0 w' a m [nO 0 (-1) [n] [sN n b v], nO 1 0 [] [freshO (sN n b v) 1], nO 2 1 [] [freshO (freshO (sN n b v) 1) 2]] 2 K := by
  refine (add_L h (x := nO 0 (-1) [] []) ⟨by omega, by omega⟩ rfl n 0 b v hn hb hi rfl (r := [0, 1, 2]) (by rfl) ?_ (by decide) ?_ (by decide) (fs := [sN n b v, freshO (sN n b v) 1, freshO (freshO (sN n b v) 1) 2]) rfl ?_ ?_ ?_ ⟨by omega, by omega⟩ rfl h0 h7 rfl).mono ?_
  · intro d hd
    simp only [List.mem_cons, List.not_mem_nil, or_false] at hd
    rcases hd with rfl | rfl | rfl <;> exact ⟨by omega, by omega⟩
  · intro d hd
    simp only [List.mem_cons, List.not_mem_nil, or_false] at hd
    rcases hd with rfl | rfl | rfl <;> exact ⟨_, rfl, rfl⟩
  · intro f hf
    simp only [List.mem_cons, List.not_mem_nil, or_false] at hf
    rcases hf with rfl | rfl | rfl
    · exact flat_sN n v h0 h7
    · exact (flat_sN n v h0 h7).fresh 1
    · exact ((flat_sN n v h0 h7).fresh 1).fresh 2
  · intro f hf
    simp only [List.mem_cons, List.not_mem_nil, or_false] at hf
    rcases hf with rfl | rfl | rfl <;> rfl
  · intro i d f h1 h2
    match i with
    | 0 =>
      injection h1 with h1
      injection h2 with h2
      exact .inl ⟨h1.symm, h2.symm⟩
    | 1 =>
      injection h1 with h1
      injection h2 with h2
      subst h1
      exact .inr ⟨by decide, _, rfl, ⟨by decide, by decide⟩, 0, by decide, rfl, _, rfl, h2.symm⟩
    | 2 =>
      injection h1 with h1
      injection h2 with h2
      subst h1
      exact .inr ⟨by decide, _, rfl, ⟨by decide, by decide⟩, 1, by decide, rfl, _, rfl, h2.symm⟩
    | k + 3 => cases h1
  · rintro e w' ⟨rfl, h'⟩
    exact ⟨rfl, h'⟩
set_option maxRecDepth 100000 in
set_option maxHeartbeats 8000000 in
theorem propsOwners_c (bits owner other : Int) (w : World) (hbi : I64 bits) (hou : I64 owner) (hot : I64 other) :
    Calls Tryd.prog 4 #[.int .i64 bits, .int .i64 owner, .int .i64 other] w fun e w' => e = .returned (.bool true) ∧ Below w.heap.size w w' := by
  have CF := Lib.hid (pfirst_c w)
  have CN1 := Lib.hid (fun W => pnumber_c bits 8 W hbi (by omega) (by omega))
  have CN2 := Lib.hid (fun W => pnumber_c other 8 W hot (by omega) (by omega))
  have CN3 := Lib.hid (fun W => pnumber_c owner 3 W hou (by omega) (by omega))
  have hb0 := Int.emod_nonneg bits (by omega : (8 : Int) ≠ 0)
  have hb7 := Int.emod_lt_of_pos bits (by omega : (0 : Int) < 8)
  have ht0 := Int.emod_nonneg other (by omega : (8 : Int) ≠ 0)
  have ht7 := Int.emod_lt_of_pos other (by omega : (0 : Int) < 8)
  have hu0 := Int.emod_nonneg owner (by omega : (3 : Int) ≠ 0)
  have hu3 := Int.emod_lt_of_pos owner (by omega : (0 : Int) < 3)
  generalize bits % 8 = b at CN1 hb0 hb7
  generalize other % 8 = t at CN2 ht0 ht7
  generalize owner % 3 = u at CN3 hu0 hu3
  have hb7' : b ≤ 7 := by omega
  have ht7' : t ≤ 7 := by omega
  obtain ⟨o2, ho2⟩ : ∃ o2, o2 = (freshO (freshO (sN ⟨#[120]⟩ b 1) 1) 2).owner := ⟨_, rfl⟩
  obtain ⟨o3, ho3⟩ : ∃ o3, o3 = (freshO (sF ⟨#[120]⟩ u t) 2).owner := ⟨_, rfl⟩
  have HB := Lib.hid (show (Go.bits .and .i64 b 4 = 4 ∧ o2 = 2) ∨ (Go.bits .and .i64 b 4 = 0 ∧ o2 = 0) from by
    rcases and4 b hb0 hb7' with ⟨h1, h2⟩ | ⟨h1, h2⟩
    · exact .inl ⟨h2, by rw [ho2]; exact if_pos h1⟩
    · exact .inr ⟨h2, by rw [ho2]; exact (if_neg h1).trans (if_neg h1)⟩)
  have HT := Lib.hid (show (Go.bits .and .i64 t 4 = 4 ∧ o3 = 2) ∨ (Go.bits .and .i64 t 4 = 0 ∧ o3 = u) from by
    rcases and4 t ht0 ht7' with ⟨h1, h2⟩ | ⟨h1, h2⟩
    · exact .inl ⟨h2, by rw [ho3]; exact if_pos h1⟩
    · exact .inr ⟨h2, by rw [ho3]; exact if_neg h1⟩)
  have HUH := Lib.hid (show ∀ (d0 d1 d2 : List ByteArray) (s0 s1 s2 : List SL), hasO [nO 0 (-1) d0 s0, nO 1 0 d1 s1, nO 2 1 d2 s2] u = true from fun d0 d1 d2 s0 s1 s2 => by
    obtain h | h | h : u = 0 ∨ u = 1 ∨ u = 2 := by omega
    all_goals
      subst h
      rfl)
  have HBZ := Lib.hid (show 0 ≤ b ∧ b ≤ 7 ∧ 0 ≤ t ∧ t ≤ 7 ∧ 0 ≤ u ∧ u < 3 from ⟨hb0, hb7', ht0, ht7', hu0, hu3⟩)
  have HO2 := Lib.hid ho2
  have HO3 := Lib.hid ho3
  clear hb0 hb7 ht0 ht7 hu0 hu3 hb7' ht7' ho2 ho3
  go_enter Tryd.func4, Tryd.ntmps4
  go_wp2_with fail
  refine CF.out.mono ?_
  rintro e w1 ⟨rfl, hb1⟩
  have HB1 := Lib.hid hb1
  clear hb1
  go_wp2_with fail
  refine (CN1.out _).mono ?_
  rintro e w2 ⟨rfl, rfl⟩
  go_wp2_with fail
  refine (CN2.out _).mono ?_
  rintro e w2 ⟨rfl, rfl⟩
  go_wp2_with fail
  refine (CN3.out _).mono ?_
  rintro e w2 ⟨rfl, rfl⟩
  go_wp2_with fail
  refine (new_L _).mono ?_
  rintro e w2 ⟨rfl, h2⟩
  have H2 := Lib.hid h2
  clear h2
  go_wp2_with fail
  refine (create0_L H2.out (by decide) (by decide)).mono ?_
  rintro e w3 ⟨rfl, h3⟩
  have H3 := Lib.hid (show LS w1.heap.size w1 w3 (w1.heap.size + 1) w1.heap.size [nO 0 (-1) [] []] 0 [] from h3)
  clear h3
  go_wp2_with fail
  refine (create_L H3.out (p := 0) ⟨by omega, by omega⟩ (x := nO 0 (-1) [] []) rfl (by decide) (by decide) (by decide)).mono ?_
  rintro e w4 ⟨rfl, h4⟩
  have H4 := Lib.hid (show LS w1.heap.size w1 w4 (w1.heap.size + 1) w1.heap.size [nO 0 (-1) [] [], nO 1 0 [] []] 1 [] from h4)
  clear h4
  go_wp2_with fail
  refine (create_L H4.out (p := 1) ⟨by omega, by omega⟩ (x := nO 1 0 [] []) rfl (by decide) (by decide) (by decide)).mono ?_
  rintro e w5 ⟨rfl, h5⟩
  have H5 := Lib.hid (show LS w1.heap.size w1 w5 (w1.heap.size + 1) w1.heap.size [nO 0 (-1) [] [], nO 1 0 [] [], nO 2 1 [] []] 2 [] from h5)
  clear h5 H2 H3 H4
  go_wp2_with fail
  refine (valI_c 1 _).mono ?_
  rintro e w6 ⟨rfl, hb6⟩
  have H6 := Lib.hid (H5.out.below hb6)
  clear hb6
  unfold intV
  go_wp2_with fail
  refine (oadd H6.out ⟨#[120]⟩ (by decide) xname.1 xname.2 b 1 HBZ.out.1 HBZ.out.2.1).mono ?_
  rintro e w7 ⟨rfl, h7⟩
  have H7 := Lib.hid h7
  clear h7
  go_wp2_with fail
  refine (info_L H7.out (o := 1) ⟨by omega, by omega⟩ (x := nO 1 0 [] [freshO (sN ⟨#[120]⟩ b 1) 1]) rfl ⟨#[120]⟩ (slotI_one rfl) (s := freshO (sN ⟨#[120]⟩ b 1) 1) rfl u t ⟨by have := HBZ.out; omega, by have := HBZ.out; omega⟩ (HUH.out _ _ _ _ _ _) HBZ.out.2.2.1 HBZ.out.2.2.2.1).mono ?_
  rintro e w8 ⟨rfl, h8⟩
  have H8 := Lib.hid (show LS w1.heap.size w1 w8 (w1.heap.size + 1) w1.heap.size [nO 0 (-1) [⟨#[120]⟩] [sN ⟨#[120]⟩ b 1], nO 1 0 [] [sF ⟨#[120]⟩ u t], nO 2 1 [] [sF ⟨#[120]⟩ o2 b]] 2 [] from by rw [HO2.out]; exact h8)
  clear h8 H5 H6 H7
  go_wp2_with fail
  refine (find_L H8.out (o := 0) ⟨by omega, by omega⟩ (x := nO 0 (-1) [⟨#[120]⟩] [sN ⟨#[120]⟩ b 1]) rfl ⟨#[120]⟩ (slotI_one rfl) (s := sN ⟨#[120]⟩ b 1) rfl).mono ?_
  rintro e w9 ⟨he, h9⟩
  replace he : e = .returned (.tuple #[.agg #[.string ⟨#[120]⟩, .int .i64 0, .int .i64 b, .bool false, .int .i64 0, .int .i64 1, .string ⟨#[]⟩, .slice none 0 0], .int .i64 0]) := he
  subst he
  have H9 := Lib.hid (h9.push (g := w9.heap.size) (ob := .cells #[.string ⟨#[120]⟩, .int .i64 0, .int .i64 b, .bool false, .int .i64 0, .int .i64 1, .string ⟨#[]⟩, .slice none 0 0] 31 (0, 0)) ((Below.refl w9.heap.size w9).alloc (Nat.le_refl _) (.cells #[.string ⟨#[120]⟩, .int .i64 0, .int .i64 b, .bool false, .int .i64 0, .int .i64 1, .string ⟨#[]⟩, .slice none 0 0] 31)) (Nat.le_refl _) (heap_alloc_new _ _))
  clear h9
  go_wp2_with fail
  refine (find_L H9.out (o := 1) ⟨by omega, by omega⟩ (x := nO 1 0 [] [sF ⟨#[120]⟩ u t]) rfl ⟨#[120]⟩ (slotI_one rfl) (s := sF ⟨#[120]⟩ u t) rfl).mono ?_
  rintro e w10 ⟨he, h10⟩
  replace he : e = .returned (.tuple #[.agg #[.string ⟨#[120]⟩, .int .i64 u, .int .i64 t, .bool true, .int .i64 0, .int .i64 0, .string ⟨#[]⟩, .slice none 0 0], .int .i64 0]) := he
  subst he
  have H10 := Lib.hid (h10.push (g := w10.heap.size) (ob := .cells #[.string ⟨#[120]⟩, .int .i64 u, .int .i64 t, .bool true, .int .i64 0, .int .i64 0, .string ⟨#[]⟩, .slice none 0 0] 31 (0, 0)) ((Below.refl w10.heap.size w10).alloc (Nat.le_refl _) (.cells #[.string ⟨#[120]⟩, .int .i64 u, .int .i64 t, .bool true, .int .i64 0, .int .i64 0, .string ⟨#[]⟩, .slice none 0 0] 31)) (Nat.le_refl _) (heap_alloc_new _ _))
  clear h10
  go_wp2_with fail
  refine (find_L H10.out (o := 2) ⟨by omega, by omega⟩ (x := nO 2 1 [] [sF ⟨#[120]⟩ o2 b]) rfl ⟨#[120]⟩ (slotI_one rfl) (s := sF ⟨#[120]⟩ o2 b) rfl).mono ?_
  rintro e w11 ⟨he, h11⟩
  replace he : e = .returned (.tuple #[.agg #[.string ⟨#[120]⟩, .int .i64 o2, .int .i64 b, .bool true, .int .i64 0, .int .i64 0, .string ⟨#[]⟩, .slice none 0 0], .int .i64 0]) := he
  subst he
  have H11 := Lib.hid (h11.push (g := w11.heap.size) (ob := .cells #[.string ⟨#[120]⟩, .int .i64 o2, .int .i64 b, .bool true, .int .i64 0, .int .i64 0, .string ⟨#[]⟩, .slice none 0 0] 31 (0, 0)) ((Below.refl w11.heap.size w11).alloc (Nat.le_refl _) (.cells #[.string ⟨#[120]⟩, .int .i64 o2, .int .i64 b, .bool true, .int .i64 0, .int .i64 0, .string ⟨#[]⟩, .slice none 0 0] 31)) (Nat.le_refl _) (heap_alloc_new _ _))
  clear h11
  go_wp2_with fail
  refine (createo_L H11.out (p := 1) (ow := 2) (by decide) ⟨by omega, by omega⟩ (x := nO 1 0 [] [sF ⟨#[120]⟩ u t]) rfl (by simp) (by decide) (by simp [nO])).mono ?_
  rintro e w12 ⟨rfl, h12⟩
  have H12 := Lib.hid (show LS w1.heap.size w1 w12 (w1.heap.size + 1) w1.heap.size [nO 0 (-1) [⟨#[120]⟩] [sN ⟨#[120]⟩ b 1], nO 1 0 [] [sF ⟨#[120]⟩ u t], nO 2 1 [] [sF ⟨#[120]⟩ o2 b], ⟨3, 1, 2, -1, 0, 0, ⟨#[]⟩, [], [sF ⟨#[120]⟩ o3 t]⟩] 3 _ from by rw [HO3.out]; exact h12)
  clear h12
  go_wp2_with fail
  refine (find_L H12.out (o := 3) ⟨by omega, by omega⟩ (x := ⟨3, 1, 2, -1, 0, 0, ⟨#[]⟩, [], [sF ⟨#[120]⟩ o3 t]⟩) rfl ⟨#[120]⟩ (slotI_one rfl) (s := sF ⟨#[120]⟩ o3 t) rfl).mono ?_
  rintro e w13 ⟨he, h13⟩
  replace he : e = .returned (.tuple #[.agg #[.string ⟨#[120]⟩, .int .i64 o3, .int .i64 t, .bool true, .int .i64 0, .int .i64 0, .string ⟨#[]⟩, .slice none 0 0], .int .i64 0]) := he
  subst he
  have H13 := Lib.hid (h13.push (g := w13.heap.size) (ob := .cells #[.string ⟨#[120]⟩, .int .i64 o3, .int .i64 t, .bool true, .int .i64 0, .int .i64 0, .string ⟨#[]⟩, .slice none 0 0] 31 (0, 0)) ((Below.refl w13.heap.size w13).alloc (Nat.le_refl _) (.cells #[.string ⟨#[120]⟩, .int .i64 o3, .int .i64 t, .bool true, .int .i64 0, .int .i64 0, .string ⟨#[]⟩, .slice none 0 0] 31)) (Nat.le_refl _) (heap_alloc_new _ _))
  clear h13
  obtain ⟨W, hW⟩ : ∃ W, W = w13.alloc (.cells #[.string ⟨#[120]⟩, .int .i64 o3, .int .i64 t, .bool true, .int .i64 0, .int .i64 0, .string ⟨#[]⟩, .slice none 0 0] 31) := ⟨_, rfl⟩
  have HW := Lib.hid hW
  rw [← hW] at H13
  clear hW
  obtain ⟨d0, d1, d2, d3, -, -, -, -⟩ := row8 (H13.out.row (List.mem_cons_self ..))
  obtain ⟨c0, c1, c2, c3, -, -, -, -⟩ := row8 (H13.out.row (List.mem_cons_of_mem _ (List.mem_cons_self ..)))
  obtain ⟨b0, b1, b2, b3, -, -, -, -⟩ := row8 (H13.out.row (List.mem_cons_of_mem _ (List.mem_cons_of_mem _ (List.mem_cons_self ..))))
  obtain ⟨a0, a1, a2, a3, -, -, -, -⟩ := row8 (H13.out.row (List.mem_cons_of_mem _ (List.mem_cons_of_mem _ (List.mem_cons_of_mem _ (List.mem_cons_self ..)))))
  clear H8 H9 H10 H11 H12
  have I1 := Lib.hid (infono_L H13.out (o := 1) ⟨by omega, by omega⟩ (x := nO 1 0 [] [sF ⟨#[120]⟩ u t]) rfl ⟨#[120]⟩ (slotI_one rfl) 9 0 ⟨by omega, by omega⟩ rfl)
  have I2 := Lib.hid (infobig_L H13.out (o := 1) ⟨by omega, by omega⟩ (x := nO 1 0 [] [sF ⟨#[120]⟩ u t]) rfl ⟨#[120]⟩ (slotI_one rfl) 0 8 ⟨by omega, by omega⟩ rfl (by decide) (by decide))
  have I3 := Lib.hid (infonf_L H13.out (o := 1) ⟨by omega, by omega⟩ (x := nO 1 0 [] [sF ⟨#[120]⟩ u t]) rfl ⟨#[121]⟩ slotI_y 0 0)
  have HBO := Lib.hid (HB1.out.trans (H13.out.base.mono HB1.out.size))
  rcases HB.out with ⟨hba, rfl⟩ | ⟨hba, rfl⟩ <;> rcases HT.out with ⟨hta, rfl⟩ | ⟨hta, rfl⟩
  all_goals
    go_upto_region 20 with fail
    rw [← HW.out]
    go_wp2_with fail
    refine I1.out.mono ?_
    rintro e w14 ⟨rfl, rfl⟩
    go_wp2_with fail
    refine I2.out.mono ?_
    rintro e w14 ⟨rfl, rfl⟩
    go_wp2_with fail
    refine I3.out.mono ?_
    rintro e w14 ⟨rfl, rfl⟩
    go_wp2_with fail
    go_ret
    exact ⟨rfl, HBO.out⟩
end Go.Proofs.YtnphgcbknfmapaaDoor
namespace Go.Proofs.YtnphgcbknfmapaaDoor
open Go.RowKit Go.Lib
theorem propsOwners_f (bits owner other : Int) (w : World) (a1 : -9223372036854775808 ≤ bits) (a2 : bits ≤ 9223372036854775807) (b1 : -9223372036854775808 ≤ owner) (b2 : owner ≤ 9223372036854775807) (c1 : -9223372036854775808 ≤ other) (c2 : other ≤ 9223372036854775807) :
    Calls Tryd.prog 4 #[.int .i64 bits, .int .i64 owner, .int .i64 other] w fun e w' => e = .returned (.bool true) ∧ Below w.heap.size w w' :=
  propsOwners_c bits owner other w ⟨a1, a2⟩ ⟨b1, b2⟩ ⟨c1, c2⟩
end Go.Proofs.YtnphgcbknfmapaaDoor
