/- Contracts of the functions that the statement reaches, and the plain mathematics beneath: several texts joined. -/
import Derived.Test.YtnphgcbknfmapaaDoorPnmAF
import Derived.Test.YtnphgcbknfmapaaDoorPnmAE
namespace Go.Proofs.YtnphgcbknfmapaaDoor
open Go.RowKit Go.Lib
set_option linter.unusedVariables false
theorem add_L {B a m : Nat} {w0 w : World} {l : List OB} {mx o : Int} {K : List (Nat × Obj)} {x : OB} (h : LS B w0 w a m l mx K) (ho : I64 o) (hx : getO l o = some x) (n : ByteArray) (ow bits v : Int) (hn : n.size ≤ 140737488351232) (hb : nmB n.data.toList = true) (hi : biB n = false) (hs : x.slots = [])
    {r : List Int} (hr : belowO l o = some r) (hri : ∀ d ∈ r, I64 d) (hrl : r.length ≤ 1000000) (hbare : ∀ d ∈ r, ∃ y, getO l d = some y ∧ y.slots = []) (hnd : r.Nodup) {fs : List SL} (hfs : fs.length = r.length) (hfl : ∀ f ∈ fs, FlatS f) (hfn : ∀ f ∈ fs, f.name = n)
    (hsp : ∀ (i : Nat) (d : Int) (f : SL), r[i]? = some d → fs[i]? = some f → (d = o ∧ f = ⟨n, ow, bits, false, 0, v, ⟨#[]⟩⟩) ∨ (d ≠ o ∧ ∃ y, getO l d = some y ∧ I64 y.parent ∧ ∃ k : Nat, k < i ∧ r[k]? = some y.parent ∧ ∃ fk, fs[k]? = some fk ∧ f = freshO fk y.owner))
    (how : I64 ow) (hoh : hasO l ow = true) (hb0 : 0 ≤ bits) (hb7 : bits ≤ 7) (hdf : x.defs = []) :
    Calls Tryd.prog 9 #[.pointer (some ⟨a, 0, none⟩), .int .i64 o, addV n ow bits v] w fun e w' => e = .returned (.int .i64 0) ∧ LS B w0 w' a m (layAll (repO l o { x with defs := [n] }) (r.zip fs)) mx K := by
  obtain ⟨T, ht, rfl, h0, hK⟩ := h
  obtain ⟨X, hX, rfl⟩ := findT_of_getO hx
  have hdv := (ht.bare X (findT_some hX).1).2 hdf
  refine (add_ok ht ho hX n ow bits v hn hb hi (by rw [hs]; rfl) hr hri hrl (fun d hd => ?_) (fun d hd y hy => ?_) hnd hfs hfl hfn (fun i d f h1 h2 => ?_) how hoh hb0 hb7 hdf hdv).mono ?_
  · obtain ⟨y, hy, _⟩ := hbare d hd
    obtain ⟨y', h1, -⟩ := findT_of_getO hy
    exact ⟨y', h1⟩
  · obtain ⟨z, hz, hzs⟩ := hbare d hd
    obtain ⟨y', h1, rfl⟩ := findT_of_getO hz
    rw [hy] at h1
    injection h1 with h1
    subst h1
    exact ⟨hzs, (ht.bare y (findT_some hy).1).1 hzs⟩
  · rcases hsp i d f h1 h2 with e | ⟨e, y, hy, hp, k, hk, hrk, fk, hfk, he⟩
    · exact .inl e
    · obtain ⟨y', h3, rfl⟩ := findT_of_getO hy
      exact .inr ⟨e, y', h3, hp, k, hk, hrk, fk, hfk, he⟩
  · rintro e w' ⟨rfl, T', hs', hl'⟩
    exact ⟨rfl, ls_step ht h0 hK hs' hl'⟩
end Go.Proofs.YtnphgcbknfmapaaDoor
namespace Go.Proofs.YtnphgcbknfmapaaDoor
open Go.RowKit Go.Lib
set_option linter.unusedVariables false
theorem row8 {w : World} {g t : Nat} {a0 a1 a2 a3 a4 a5 a6 a7 : Value} (h : w.heap[g]? = some (.cells #[a0, a1, a2, a3, a4, a5, a6, a7] t (0, 0))) :
    w.cell? ⟨g, 0, none⟩ = some a0 ∧ w.cell? ⟨g, 1, none⟩ = some a1 ∧ w.cell? ⟨g, 2, none⟩ = some a2 ∧ w.cell? ⟨g, 3, none⟩ = some a3 ∧ w.cell? ⟨g, 4, none⟩ = some a4 ∧ w.cell? ⟨g, 5, none⟩ = some a5 ∧ w.cell? ⟨g, 6, none⟩ = some a6 ∧ w.cell? ⟨g, 7, none⟩ = some a7 :=
  ⟨cell_of_row w g 0 _ _ _ h, cell_of_row w g 1 _ _ _ h, cell_of_row w g 2 _ _ _ h, cell_of_row w g 3 _ _ _ h, cell_of_row w g 4 _ _ _ h, cell_of_row w g 5 _ _ _ h, cell_of_row w g 6 _ _ _ h, cell_of_row w g 7 _ _ _ h⟩
def nO (i p : Int) (d : List ByteArray) (s : List SL) : OB := ⟨i, p, i, -1, 0, 0, ⟨#[]⟩, d, s⟩
/-- A slot as Add lays it. -/
def sN (n : ByteArray) (bits v : Int) : SL := ⟨n, 0, bits, false, 0, v, ⟨#[]⟩⟩
theorem flat_sN (n : ByteArray) {bits : Int} (v : Int) (h0 : 0 ≤ bits) (h7 : bits ≤ 7) : FlatS (sN n bits v) := ⟨h0, h7, rfl, rfl⟩
theorem slotI_one {n : ByteArray} {f : SL} (h : f.name = n) : slotI [f] n = some 0 := by unfold slotI; simp [h]
theorem slO_one {y : OB} {n : ByteArray} {f : SL} (hy : y.slots = [f]) (h : f.name = n) : slO y n = some f := by
  unfold slO
  rw [hy, slotI_one h]
  rfl
theorem first_gv (n : ByteArray) (v : Int) : gvO [nO 0 (-1) [n] [sN n 0 v], nO 1 0 [] [freshO (sN n 0 v) 1]] n (aboveO [nO 0 (-1) [n] [sN n 0 v], nO 1 0 [] [freshO (sN n 0 v) 1]] 1) = some (sN n 0 v) := by
  have h1 : getO [nO 0 (-1) [n] [sN n 0 v], nO 1 0 [] [freshO (sN n 0 v) 1]] 1 = some (nO 1 0 [] [freshO (sN n 0 v) 1]) := rfl
  have h0 : getO [nO 0 (-1) [n] [sN n 0 v], nO 1 0 [] [freshO (sN n 0 v) 1]] 0 = some (nO 0 (-1) [n] [sN n 0 v]) := rfl
  rw [show aboveO [nO 0 (-1) [n] [sN n 0 v], nO 1 0 [] [freshO (sN n 0 v) 1]] 1 = [1, 0] from rfl, gvO, h1, Option.bind_some, slO_one (n := n) (y := nO 1 0 [] [freshO (sN n 0 v) 1]) (f := freshO (sN n 0 v) 1) rfl rfl]
  show gvO _ n [0] = _
  rw [gvO, h0, Option.bind_some, slO_one (n := n) (y := nO 0 (-1) [n] [sN n 0 v]) (f := sN n 0 v) rfl rfl]
  rfl
theorem xname : nmB (⟨#[120]⟩ : ByteArray).data.toList = true ∧ biB ⟨#[120]⟩ = false := by decide
theorem first_add {B a m : Nat} {w0 w : World} {K : List (Nat × Obj)} (h : LS B w0 w a m [nO 0 (-1) [] [], nO 1 0 [] []] 1 K) (n : ByteArray) (hn : n.size ≤ 140737488351232) (hb : nmB n.data.toList = true) (hi : biB n = false) (v : Int) :
    Calls Tryd.prog 9 #[.pointer (some ⟨a, 0, none⟩), .int .i64 0, addV n 0 0 v] w fun e w' => e = .returned (.int .i64 0) ∧ LS B w0 w' a m [nO 0 (-1) [n] [sN n 0 v], nO 1 0 [] [freshO (sN n 0 v) 1]] 1 K := by
  refine (add_L h (x := nO 0 (-1) [] []) ⟨by omega, by omega⟩ rfl n 0 0 v hn hb hi rfl (r := [0, 1]) (by rfl) ?_ (by decide) ?_ (by decide) (fs := [sN n 0 v, freshO (sN n 0 v) 1]) rfl ?_ ?_ ?_ ⟨by omega, by omega⟩ rfl (by decide) (by decide) rfl).mono ?_
  · intro d hd
    simp only [List.mem_cons, List.not_mem_nil, or_false] at hd
    rcases hd with rfl | rfl <;> exact ⟨by omega, by omega⟩
  · intro d hd
    simp only [List.mem_cons, List.not_mem_nil, or_false] at hd
    rcases hd with rfl | rfl <;> exact ⟨_, rfl, rfl⟩
  · intro f hf
    simp only [List.mem_cons, List.not_mem_nil, or_false] at hf
    rcases hf with rfl | rfl
    · exact flat_sN n v (by decide) (by decide)
    · exact (flat_sN n v (by decide) (by decide)).fresh 1
  · intro f hf
    simp only [List.mem_cons, List.not_mem_nil, or_false] at hf
    rcases hf with rfl | rfl <;> rfl
  · intro i d f h1 h2
    match i with
    | 0 =>
      injection h1 with h1
      injection h2 with h2
      exact .inl ⟨h1.symm, h2.symm⟩
    | 1 =>
      injection h1 with h1
      injection h2 with h2
      subst h1
      exact .inr ⟨by decide, _, rfl, ⟨by decide, by decide⟩, 0, by decide, rfl, _, rfl, h2.symm⟩
    | k + 2 => cases h1
  · rintro e w' ⟨rfl, h'⟩
    exact ⟨rfl, h'⟩
set_option maxRecDepth 100000 in
set_option maxHeartbeats 2000000 in
theorem pfirst_c (w : World) : Calls Tryd.prog 5 #[] w fun e w' => e = .returned (.bool true) ∧ Below w.heap.size w w' := by
  have CN := Lib.hid (new_L w)
  go_enter Tryd.func5, Tryd.ntmps5
  go_wp2_with fail
  refine CN.out.mono ?_
  rintro e w1 ⟨rfl, h1⟩
  have H1 := Lib.hid h1
  clear h1 CN
  go_wp2_with fail
  refine (create0_L H1.out (by decide) (by decide)).mono ?_
  rintro e w2 ⟨rfl, h2⟩
  have H2 := Lib.hid (show LS w.heap.size w w2 (w.heap.size + 1) w.heap.size [nO 0 (-1) [] []] 0 [] from h2)
  clear h2
  go_wp2_with fail
  refine (create_L H2.out (p := 0) ⟨by omega, by omega⟩ (x := nO 0 (-1) [] []) rfl (by decide) (by decide) (by decide)).mono ?_
  rintro e w3 ⟨rfl, h3⟩
  have H3 := Lib.hid (show LS w.heap.size w w3 (w.heap.size + 1) w.heap.size [nO 0 (-1) [] [], nO 1 0 [] []] 1 [] from h3)
  clear h3
  go_wp2_with fail
  refine (valI_c 7 _).mono ?_
  rintro e w4 ⟨rfl, hb4⟩
  have H4 := Lib.hid (H3.out.below hb4)
  clear hb4
  unfold intV
  go_wp2_with fail
  refine (first_add H4.out ⟨#[120]⟩ (by decide) xname.1 xname.2 7).mono ?_
  rintro e w5 ⟨rfl, h5⟩
  have H5 := Lib.hid h5
  clear h5
  go_wp2_with fail
  refine (get_L H5.out (o := 1) ⟨by omega, by omega⟩ rfl (by
    intro x hx
    simp only [List.mem_cons, List.not_mem_nil, or_false] at hx
    rcases hx with rfl | rfl <;> exact ⟨by decide, by decide⟩) ⟨#[120]⟩ xname.2 (q := some (sN ⟨#[120]⟩ 0 7)) (first_gv _ 7)).mono ?_
  rintro e w6 ⟨rfl, h6⟩
  have H6 := Lib.hid h6
  clear h6
  unfold gvV sN
  go_wp2_with fail
  go_ret
  exact ⟨rfl, (H6.out.base).alloc (by have := H6.out.base.size; exact this) _⟩
end Go.Proofs.YtnphgcbknfmapaaDoor
namespace Go.Proofs.YtnphgcbknfmapaaDoor
open Go.RowKit Go.Lib
set_option linter.unusedVariables false
section
variable {B a m : Nat} {w0 w : World} {K : List (Nat × Obj)}
theorem nadd0 (h : LS B w0 w a m [nO 0 (-1) [] [], nO 1 0 [] [], nO 2 1 [] [], nO 3 0 [] []] 3 K) (n : ByteArray) (hn : n.size ≤ 140737488351232) (hb : nmB n.data.toList = true) (hi : biB n = false) :
    Calls Tryd.prog 9 #[.pointer (some ⟨a, 0, none⟩), .int .i64 0, addV n 0 0 0] w fun e w' => e = .returned (.int .i64 0) ∧ LS B w0 w' a m [nO 0 (-1) [n] [sN n 0 0], nO 1 0 [] [freshO (sN n 0 0) 1], nO 2 1 [] [freshO (freshO (sN n 0 0) 1) 2], nO 3 0 [] [freshO (sN n 0 0) 3]] 3 K := by
  refine (add_L h (x := nO 0 (-1) [] []) ⟨by omega, by omega⟩ rfl n 0 0 0 hn hb hi rfl (r := [0, 1, 3, 2]) (by rfl) ?_ (by decide) ?_ (by decide) (fs := [sN n 0 0, freshO (sN n 0 0) 1, freshO (sN n 0 0) 3, freshO (freshO (sN n 0 0) 1) 2]) rfl ?_ ?_ ?_ ⟨by omega, by omega⟩ rfl (by decide) (by decide) rfl).mono ?_
  · intro d hd
    simp only [List.mem_cons, List.not_mem_nil, or_false] at hd
    rcases hd with rfl | rfl | rfl | rfl <;> exact ⟨by omega, by omega⟩
  · intro d hd
    simp only [List.mem_cons, List.not_mem_nil, or_false] at hd
    rcases hd with rfl | rfl | rfl | rfl <;> exact ⟨_, rfl, rfl⟩
  · intro f hf
    simp only [List.mem_cons, List.not_mem_nil, or_false] at hf
    rcases hf with rfl | rfl | rfl | rfl
    · exact flat_sN n 0 (by decide) (by decide)
    · exact (flat_sN n 0 (by decide) (by decide)).fresh 1
    · exact (flat_sN n 0 (by decide) (by decide)).fresh 3
    · exact ((flat_sN n 0 (by decide) (by decide)).fresh 1).fresh 2
  · intro f hf
    simp only [List.mem_cons, List.not_mem_nil, or_false] at hf
    rcases hf with rfl | rfl | rfl | rfl <;> rfl
  · intro i d f h1 h2
    match i with
    | 0 =>
      injection h1 with h1
      injection h2 with h2
      exact .inl ⟨h1.symm, h2.symm⟩
    | 1 =>
      injection h1 with h1
      injection h2 with h2
      subst h1
      exact .inr ⟨by decide, _, rfl, ⟨by decide, by decide⟩, 0, by decide, rfl, _, rfl, h2.symm⟩
    | 2 =>
      injection h1 with h1
      injection h2 with h2
      subst h1
      exact .inr ⟨by decide, _, rfl, ⟨by decide, by decide⟩, 0, by decide, rfl, _, rfl, h2.symm⟩
    | 3 =>
      injection h1 with h1
      injection h2 with h2
      subst h1
      exact .inr ⟨by decide, _, rfl, ⟨by decide, by decide⟩, 1, by decide, rfl, _, rfl, h2.symm⟩
    | k + 4 => cases h1
  · rintro e w' ⟨rfl, h'⟩
    exact ⟨rfl, h'⟩
theorem nadd1 {d3 : List ByteArray} {s3 : List SL} (h : LS B w0 w a m [nO 0 (-1) [] [], nO 1 0 [] [], nO 2 1 [] [], nO 3 0 d3 s3] 3 K) (n : ByteArray) (hn : n.size ≤ 140737488351232) (hb : nmB n.data.toList = true) (hi : biB n = false) :
    Calls Tryd.prog 9 #[.pointer (some ⟨a, 0, none⟩), .int .i64 1, addV n 0 0 0] w fun e w' => e = .returned (.int .i64 0) ∧ LS B w0 w' a m [nO 0 (-1) [] [], nO 1 0 [n] [sN n 0 0], nO 2 1 [] [freshO (sN n 0 0) 2], nO 3 0 d3 s3] 3 K := by
  refine (add_L h (x := nO 1 (0) [] []) ⟨by omega, by omega⟩ rfl n 0 0 0 hn hb hi rfl (r := [1, 2]) (by rfl) ?_ (by decide) ?_ (by decide) (fs := [sN n 0 0, freshO (sN n 0 0) 2]) rfl ?_ ?_ ?_ ⟨by omega, by omega⟩ rfl (by decide) (by decide) rfl).mono ?_
  · intro d hd
    simp only [List.mem_cons, List.not_mem_nil, or_false] at hd
    rcases hd with rfl | rfl <;> exact ⟨by omega, by omega⟩
  · intro d hd
    simp only [List.mem_cons, List.not_mem_nil, or_false] at hd
    rcases hd with rfl | rfl <;> exact ⟨_, rfl, rfl⟩
  · intro f hf
    simp only [List.mem_cons, List.not_mem_nil, or_false] at hf
    rcases hf with rfl | rfl
    · exact flat_sN n 0 (by decide) (by decide)
    · exact (flat_sN n 0 (by decide) (by decide)).fresh 2
  · intro f hf
    simp only [List.mem_cons, List.not_mem_nil, or_false] at hf
    rcases hf with rfl | rfl <;> rfl
  · intro i d f h1 h2
    match i with
    | 0 =>
      injection h1 with h1
      injection h2 with h2
      exact .inl ⟨h1.symm, h2.symm⟩
    | 1 =>
      injection h1 with h1
      injection h2 with h2
      subst h1
      exact .inr ⟨by decide, _, rfl, ⟨by decide, by decide⟩, 0, by decide, rfl, _, rfl, h2.symm⟩
    | k + 2 => cases h1
  · rintro e w' ⟨rfl, h'⟩
    exact ⟨rfl, h'⟩
theorem nadd2 {d3 : List ByteArray} {s3 : List SL} (h : LS B w0 w a m [nO 0 (-1) [] [], nO 1 0 [] [], nO 2 1 [] [], nO 3 0 d3 s3] 3 K) (n : ByteArray) (hn : n.size ≤ 140737488351232) (hb : nmB n.data.toList = true) (hi : biB n = false) :
    Calls Tryd.prog 9 #[.pointer (some ⟨a, 0, none⟩), .int .i64 2, addV n 0 0 0] w fun e w' => e = .returned (.int .i64 0) ∧ LS B w0 w' a m [nO 0 (-1) [] [], nO 1 0 [] [], nO 2 1 [n] [sN n 0 0], nO 3 0 d3 s3] 3 K := by
  refine (add_L h (x := nO 2 (1) [] []) ⟨by omega, by omega⟩ rfl n 0 0 0 hn hb hi rfl (r := [2]) (by rfl) ?_ (by decide) ?_ (by decide) (fs := [sN n 0 0]) rfl ?_ ?_ ?_ ⟨by omega, by omega⟩ rfl (by decide) (by decide) rfl).mono ?_
  · intro d hd
    simp only [List.mem_cons, List.not_mem_nil, or_false] at hd
    subst hd <;> exact ⟨by omega, by omega⟩
  · intro d hd
    simp only [List.mem_cons, List.not_mem_nil, or_false] at hd
    subst hd <;> exact ⟨_, rfl, rfl⟩
  · intro f hf
    simp only [List.mem_cons, List.not_mem_nil, or_false] at hf
    subst hf
    · exact flat_sN n 0 (by decide) (by decide)
  · intro f hf
    simp only [List.mem_cons, List.not_mem_nil, or_false] at hf
    subst hf <;> rfl
  · intro i d f h1 h2
    match i with
    | 0 =>
      injection h1 with h1
      injection h2 with h2
      exact .inl ⟨h1.symm, h2.symm⟩
    | k + 1 => cases h1
  · rintro e w' ⟨rfl, h'⟩
    exact ⟨rfl, h'⟩
theorem nadd3 {d2 : List ByteArray} {s2 : List SL} (h : LS B w0 w a m [nO 0 (-1) [] [], nO 1 0 [] [], nO 2 1 d2 s2, nO 3 0 [] []] 3 K) (n : ByteArray) (hn : n.size ≤ 140737488351232) (hb : nmB n.data.toList = true) (hi : biB n = false) :
    Calls Tryd.prog 9 #[.pointer (some ⟨a, 0, none⟩), .int .i64 3, addV n 0 0 0] w fun e w' => e = .returned (.int .i64 0) ∧ LS B w0 w' a m [nO 0 (-1) [] [], nO 1 0 [] [], nO 2 1 d2 s2, nO 3 0 [n] [sN n 0 0]] 3 K := by
  refine (add_L h (x := nO 3 (0) [] []) ⟨by omega, by omega⟩ rfl n 0 0 0 hn hb hi rfl (r := [3]) (by rfl) ?_ (by decide) ?_ (by decide) (fs := [sN n 0 0]) rfl ?_ ?_ ?_ ⟨by omega, by omega⟩ rfl (by decide) (by decide) rfl).mono ?_
  · intro d hd
    simp only [List.mem_cons, List.not_mem_nil, or_false] at hd
    subst hd <;> exact ⟨by omega, by omega⟩
  · intro d hd
    simp only [List.mem_cons, List.not_mem_nil, or_false] at hd
    subst hd <;> exact ⟨_, rfl, rfl⟩
  · intro f hf
    simp only [List.mem_cons, List.not_mem_nil, or_false] at hf
    subst hf
    · exact flat_sN n 0 (by decide) (by decide)
  · intro f hf
    simp only [List.mem_cons, List.not_mem_nil, or_false] at hf
    subst hf <;> rfl
  · intro i d f h1 h2
    match i with
    | 0 =>
      injection h1 with h1
      injection h2 with h2
      exact .inl ⟨h1.symm, h2.symm⟩
    | k + 1 => cases h1
  · rintro e w' ⟨rfl, h'⟩
    exact ⟨rfl, h'⟩
theorem nno4 {d2 d3 : List ByteArray} {s3 : List SL} {f : SL} (h : LS B w0 w a m [nO 0 (-1) [] [], nO 1 0 [] [], nO 2 1 d2 [f], nO 3 0 d3 s3] 3 K) (n : ByteArray) (hf : f.name = n) (hn : n.size ≤ 140737488351232) (hb : nmB n.data.toList = true) (hi : biB n = false) :
    Calls Tryd.prog 9 #[.pointer (some ⟨a, 0, none⟩), .int .i64 1, addV n 0 0 0] w fun e w' => e = .returned (.int .i64 13) ∧ LS B w0 w' a m [nO 0 (-1) [] [], nO 1 0 [] [], nO 2 1 d2 [f], nO 3 0 d3 s3] 3 K := by
  refine addn4_L h (x := nO 1 0 [] []) ⟨by omega, by omega⟩ rfl n 0 0 0 hn hb hi rfl (r := [1, 2]) (by rfl) ?_ (by decide) ?_ ⟨2, by decide, nO 2 1 d2 [f], 0, rfl, slotI_one hf⟩
  · intro d hd
    simp only [List.mem_cons, List.not_mem_nil, or_false] at hd
    rcases hd with rfl | rfl <;> exact ⟨by omega, by omega⟩
  · intro d hd
    simp only [List.mem_cons, List.not_mem_nil, or_false] at hd
    rcases hd with rfl | rfl <;> exact ⟨_, rfl⟩
theorem nno3 {d1 : List ByteArray} {A C D : OB} {f : SL} (hA : A.id = 0) (h : LS B w0 w a m [A, nO 1 0 d1 [f], C, D] 3 K) (n : ByteArray) (hf : f.name = n) (hn : n.size ≤ 140737488351232) (hb : nmB n.data.toList = true) (hi : biB n = false) :
    Calls Tryd.prog 9 #[.pointer (some ⟨a, 0, none⟩), .int .i64 1, addV n 0 0 0] w fun e w' => e = .returned (.int .i64 13) ∧ LS B w0 w' a m [A, nO 1 0 d1 [f], C, D] 3 K := by
  refine addn3_L h (x := nO 1 0 d1 [f]) ⟨by omega, by omega⟩ ?_ n 0 0 0 hn hb hi (slotI_one hf)
  unfold getO
  rw [List.find?_cons, hA]
  rfl
/-- A name that is none, or that every object has: refused. -/
theorem nno (h : LS B w0 w a m [nO 0 (-1) [] [], nO 1 0 [] [], nO 2 1 [] [], nO 3 0 [] []] 3 K) (n : ByteArray) (hn : n.size ≤ 140737488351232) (hb : nmB n.data.toList = false ∨ biB n = true) (o : Int) (ho : 0 ≤ o ∧ o ≤ 3) :
    Calls Tryd.prog 9 #[.pointer (some ⟨a, 0, none⟩), .int .i64 o, addV n 0 0 0] w fun e w' => e = .returned (.int .i64 13) ∧ LS B w0 w' a m [nO 0 (-1) [] [], nO 1 0 [] [], nO 2 1 [] [], nO 3 0 [] []] 3 K := by
  have hx : ∃ x, getO [nO 0 (-1) [] [], nO 1 0 [] [], nO 2 1 [] [], nO 3 0 [] []] o = some x := by
    obtain h | h | h | h : o = 0 ∨ o = 1 ∨ o = 2 ∨ o = 3 := by omega
    all_goals
      subst h
      exact ⟨_, rfl⟩
  obtain ⟨x, hx⟩ := hx
  cases hnm : nmB n.data.toList with
  | false => exact addn1_L h ⟨by omega, by omega⟩ hx n 0 0 0 hn hnm
  | true =>
    rcases hb with e | e
    · rw [hnm] at e; cases e
    · exact addn2_L h ⟨by omega, by omega⟩ hx n 0 0 0 hn hnm e
end
set_option maxRecDepth 100000 in
set_option maxHeartbeats 8000000 in
theorem propsNames_c (up down beside : Bool) (n : ByteArray) (w : World) :
    Calls Tryd.prog 3 #[.bool up, .bool down, .bool beside, .string n] w fun e w' => e = .returned (.bool true) ∧ Below w.heap.size w w' := by
  have CF := Lib.hid (pfirst_c w)
  by_cases h40 : (40 : Int) < (n.size : Int)
  · go_enter Tryd.func3, Tryd.ntmps3
    go_wp2_with fail
    refine CF.out.mono ?_
    rintro e w1 ⟨rfl, hb1⟩
    have HB1 := Lib.hid hb1
    clear hb1
    go_wp2_with fail
    go_ret
    exact ⟨rfl, HB1.out⟩
  have hn : n.size ≤ 140737488351232 := by omega
  go_enter Tryd.func3, Tryd.ntmps3
  go_wp2_with fail
  refine CF.out.mono ?_
  rintro e w1 ⟨rfl, hb1⟩
  have HB1 := Lib.hid hb1
  clear hb1
  go_wp2_with fail
  refine (new_L _).mono ?_
  rintro e w2 ⟨rfl, h2⟩
  have H2 := Lib.hid h2
  clear h2
  go_wp2_with fail
  refine (create0_L H2.out (by decide) (by decide)).mono ?_
  rintro e w3 ⟨rfl, h3⟩
  have H3 := Lib.hid (show LS w1.heap.size w1 w3 (w1.heap.size + 1) w1.heap.size [nO 0 (-1) [] []] 0 [] from h3)
  clear h3
  go_wp2_with fail
  refine (create_L H3.out (p := 0) ⟨by omega, by omega⟩ (x := nO 0 (-1) [] []) rfl (by decide) (by decide) (by decide)).mono ?_
  rintro e w4 ⟨rfl, h4⟩
  have H4 := Lib.hid (show LS w1.heap.size w1 w4 (w1.heap.size + 1) w1.heap.size [nO 0 (-1) [] [], nO 1 0 [] []] 1 [] from h4)
  clear h4
  go_wp2_with fail
  refine (create_L H4.out (p := 1) ⟨by omega, by omega⟩ (x := nO 1 (0) [] []) rfl (by decide) (by decide) (by decide)).mono ?_
  rintro e w5 ⟨rfl, h5⟩
  have H5 := Lib.hid (show LS w1.heap.size w1 w5 (w1.heap.size + 1) w1.heap.size [nO 0 (-1) [] [], nO 1 0 [] [], nO 2 1 [] []] 2 [] from h5)
  clear h5
  go_wp2_with fail
  refine (create_L H5.out (p := 0) ⟨by omega, by omega⟩ (x := nO 0 (-1) [] []) rfl (by decide) (by decide) (by decide)).mono ?_
  rintro e w6 ⟨rfl, h6⟩
  have H6 := Lib.hid (show LS w1.heap.size w1 w6 (w1.heap.size + 1) w1.heap.size [nO 0 (-1) [] [], nO 1 0 [] [], nO 2 1 [] [], nO 3 0 [] []] 3 [] from h6)
  clear h6
  have H7 := Lib.hid (H6.out.push (g := w6.heap.size) (ob := .cells #[.string n, .int .i64 0, .int .i64 0, .bool false, .int .i64 0, .int .i64 0, .string ⟨#[]⟩, .slice none 0 0] 31 (0, 0)) ((Below.refl w6.heap.size w6).alloc (Nat.le_refl _) (.cells #[.string n, .int .i64 0, .int .i64 0, .bool false, .int .i64 0, .int .i64 0, .string ⟨#[]⟩, .slice none 0 0] 31)) (Nat.le_refl _) (heap_alloc_new _ _))
  have CB := Lib.hid (fun W => pbuiltin_c n W)
  go_wp2_with fail
  refine (CB.out _).mono ?_
  rintro e w8 ⟨rfl, hb8⟩
  have H8 := Lib.hid (H7.out.below hb8)
  obtain ⟨q0, q1, q2, q3, q4, q5, q6, q7⟩ := row8 (H8.out.row (List.mem_cons_self ..))
  clear hb8 CB H7 H2 H3 H4 H5 H6
  have hz : Below w.heap.size w w1 := HB1.out
  cases hbi : biB n with
  | true =>
    go_wp2_with fail
    refine (nno H8.out n hn (.inr hbi) 0 ⟨by decide, by decide⟩).mono ?_
    rintro e w9 ⟨rfl, h9⟩
    have H9 := Lib.hid h9
    clear q0 q1 q2 q3 q4 q5 q6 q7
    clear h9
    go_wp2_with fail
    go_ret
    exact ⟨rfl, HB1.out.trans (H9.out.base.mono HB1.out.size)⟩
  | false =>
    cases hnm : nmB n.data.toList with
    | false =>
      have hud : (up = true ∧ down = true ∧ beside = true) ∨ (up = true ∧ down = true ∧ beside = false) ∨ (up = true ∧ down = false ∧ beside = true) ∨ (up = true ∧ down = false ∧ beside = false) ∨ (up = false ∧ down = true ∧ beside = true) ∨ (up = false ∧ down = true ∧ beside = false) ∨ (up = false ∧ down = false ∧ beside = true) ∨ (up = false ∧ down = false ∧ beside = false) := by cases up <;> cases down <;> cases beside <;> simp
      rcases hud with hud | hud | hud | hud | hud | hud | hud | hud
      · obtain ⟨rfl, rfl, rfl⟩ : up = true ∧ down = true ∧ beside = true := hud
        go_wp2_with fail
        refine (nno H8.out n hn (.inl hnm) 0 ⟨by decide, by decide⟩).mono ?_
        rintro e w9 ⟨rfl, h9⟩
        have H9 := Lib.hid h9
        clear q0 q1 q2 q3 q4 q5 q6 q7
        obtain ⟨q0, q1, q2, q3, q4, q5, q6, q7⟩ := row8 (h9.row (List.mem_cons_self ..))
        clear h9
        go_wp2_with fail
        refine (nno H9.out n hn (.inl hnm) 1 ⟨by decide, by decide⟩).mono ?_
        rintro e w10 ⟨rfl, h10⟩
        have H10 := Lib.hid h10
        clear q0 q1 q2 q3 q4 q5 q6 q7
        clear h10
        go_wp2_with fail
        go_ret
        exact ⟨rfl, HB1.out.trans (H10.out.base.mono HB1.out.size)⟩
      · obtain ⟨rfl, rfl, rfl⟩ : up = true ∧ down = true ∧ beside = false := hud
        go_wp2_with fail
        refine (nno H8.out n hn (.inl hnm) 0 ⟨by decide, by decide⟩).mono ?_
        rintro e w9 ⟨rfl, h9⟩
        have H9 := Lib.hid h9
        clear q0 q1 q2 q3 q4 q5 q6 q7
        obtain ⟨q0, q1, q2, q3, q4, q5, q6, q7⟩ := row8 (h9.row (List.mem_cons_self ..))
        clear h9
        go_wp2_with fail
        refine (nno H9.out n hn (.inl hnm) 1 ⟨by decide, by decide⟩).mono ?_
        rintro e w10 ⟨rfl, h10⟩
        have H10 := Lib.hid h10
        clear q0 q1 q2 q3 q4 q5 q6 q7
        clear h10
        go_wp2_with fail
        go_ret
        exact ⟨rfl, HB1.out.trans (H10.out.base.mono HB1.out.size)⟩
      · obtain ⟨rfl, rfl, rfl⟩ : up = true ∧ down = false ∧ beside = true := hud
        go_wp2_with fail
        refine (nno H8.out n hn (.inl hnm) 0 ⟨by decide, by decide⟩).mono ?_
        rintro e w9 ⟨rfl, h9⟩
        have H9 := Lib.hid h9
        clear q0 q1 q2 q3 q4 q5 q6 q7
        obtain ⟨q0, q1, q2, q3, q4, q5, q6, q7⟩ := row8 (h9.row (List.mem_cons_self ..))
        clear h9
        go_wp2_with fail
        refine (nno H9.out n hn (.inl hnm) 1 ⟨by decide, by decide⟩).mono ?_
        rintro e w10 ⟨rfl, h10⟩
        have H10 := Lib.hid h10
        clear q0 q1 q2 q3 q4 q5 q6 q7
        clear h10
        go_wp2_with fail
        go_ret
        exact ⟨rfl, HB1.out.trans (H10.out.base.mono HB1.out.size)⟩
      · obtain ⟨rfl, rfl, rfl⟩ : up = true ∧ down = false ∧ beside = false := hud
        go_wp2_with fail
        refine (nno H8.out n hn (.inl hnm) 0 ⟨by decide, by decide⟩).mono ?_
        rintro e w9 ⟨rfl, h9⟩
        have H9 := Lib.hid h9
        clear q0 q1 q2 q3 q4 q5 q6 q7
        obtain ⟨q0, q1, q2, q3, q4, q5, q6, q7⟩ := row8 (h9.row (List.mem_cons_self ..))
        clear h9
        go_wp2_with fail
        refine (nno H9.out n hn (.inl hnm) 1 ⟨by decide, by decide⟩).mono ?_
        rintro e w10 ⟨rfl, h10⟩
        have H10 := Lib.hid h10
        clear q0 q1 q2 q3 q4 q5 q6 q7
        clear h10
        go_wp2_with fail
        go_ret
        exact ⟨rfl, HB1.out.trans (H10.out.base.mono HB1.out.size)⟩
      · obtain ⟨rfl, rfl, rfl⟩ : up = false ∧ down = true ∧ beside = true := hud
        go_wp2_with fail
        refine (nno H8.out n hn (.inl hnm) 2 ⟨by decide, by decide⟩).mono ?_
        rintro e w9 ⟨rfl, h9⟩
        have H9 := Lib.hid h9
        clear q0 q1 q2 q3 q4 q5 q6 q7
        obtain ⟨q0, q1, q2, q3, q4, q5, q6, q7⟩ := row8 (h9.row (List.mem_cons_self ..))
        clear h9
        go_wp2_with fail
        refine (nno H9.out n hn (.inl hnm) 1 ⟨by decide, by decide⟩).mono ?_
        rintro e w10 ⟨rfl, h10⟩
        have H10 := Lib.hid h10
        clear q0 q1 q2 q3 q4 q5 q6 q7
        clear h10
        go_wp2_with fail
        go_ret
        exact ⟨rfl, HB1.out.trans (H10.out.base.mono HB1.out.size)⟩
      · obtain ⟨rfl, rfl, rfl⟩ : up = false ∧ down = true ∧ beside = false := hud
        go_wp2_with fail
        refine (nno H8.out n hn (.inl hnm) 2 ⟨by decide, by decide⟩).mono ?_
        rintro e w9 ⟨rfl, h9⟩
        have H9 := Lib.hid h9
        clear q0 q1 q2 q3 q4 q5 q6 q7
        obtain ⟨q0, q1, q2, q3, q4, q5, q6, q7⟩ := row8 (h9.row (List.mem_cons_self ..))
        clear h9
        go_wp2_with fail
        refine (nno H9.out n hn (.inl hnm) 1 ⟨by decide, by decide⟩).mono ?_
        rintro e w10 ⟨rfl, h10⟩
        have H10 := Lib.hid h10
        clear q0 q1 q2 q3 q4 q5 q6 q7
        clear h10
        go_wp2_with fail
        go_ret
        exact ⟨rfl, HB1.out.trans (H10.out.base.mono HB1.out.size)⟩
      · obtain ⟨rfl, rfl, rfl⟩ : up = false ∧ down = false ∧ beside = true := hud
        go_wp2_with fail
        refine (nno H8.out n hn (.inl hnm) 3 ⟨by decide, by decide⟩).mono ?_
        rintro e w9 ⟨rfl, h9⟩
        have H9 := Lib.hid h9
        clear q0 q1 q2 q3 q4 q5 q6 q7
        obtain ⟨q0, q1, q2, q3, q4, q5, q6, q7⟩ := row8 (h9.row (List.mem_cons_self ..))
        clear h9
        go_wp2_with fail
        refine (nno H9.out n hn (.inl hnm) 1 ⟨by decide, by decide⟩).mono ?_
        rintro e w10 ⟨rfl, h10⟩
        have H10 := Lib.hid h10
        clear q0 q1 q2 q3 q4 q5 q6 q7
        clear h10
        go_wp2_with fail
        go_ret
        exact ⟨rfl, HB1.out.trans (H10.out.base.mono HB1.out.size)⟩
      · obtain ⟨rfl, rfl, rfl⟩ : up = false ∧ down = false ∧ beside = false := hud
        go_wp2_with fail
        refine (nno H8.out n hn (.inl hnm) 1 ⟨by decide, by decide⟩).mono ?_
        rintro e w9 ⟨rfl, h9⟩
        have H9 := Lib.hid h9
        clear q0 q1 q2 q3 q4 q5 q6 q7
        obtain ⟨q0, q1, q2, q3, q4, q5, q6, q7⟩ := row8 (h9.row (List.mem_cons_self ..))
        clear h9
        go_wp2_with fail
        refine (nno H9.out n hn (.inl hnm) 1 ⟨by decide, by decide⟩).mono ?_
        rintro e w10 ⟨rfl, h10⟩
        have H10 := Lib.hid h10
        clear q0 q1 q2 q3 q4 q5 q6 q7
        clear h10
        go_wp2_with fail
        go_ret
        exact ⟨rfl, HB1.out.trans (H10.out.base.mono HB1.out.size)⟩
    | true =>
      have hud : (up = true ∧ down = true ∧ beside = true) ∨ (up = true ∧ down = true ∧ beside = false) ∨ (up = true ∧ down = false ∧ beside = true) ∨ (up = true ∧ down = false ∧ beside = false) ∨ (up = false ∧ down = true ∧ beside = true) ∨ (up = false ∧ down = true ∧ beside = false) ∨ (up = false ∧ down = false ∧ beside = true) ∨ (up = false ∧ down = false ∧ beside = false) := by cases up <;> cases down <;> cases beside <;> simp
      rcases hud with hud | hud | hud | hud | hud | hud | hud | hud
      · obtain ⟨rfl, rfl, rfl⟩ : up = true ∧ down = true ∧ beside = true := hud
        go_wp2_with fail
        refine (nadd0 H8.out n hn hnm hbi).mono ?_
        rintro e w9 ⟨rfl, h9⟩
        have H9 := Lib.hid h9
        clear q0 q1 q2 q3 q4 q5 q6 q7
        obtain ⟨q0, q1, q2, q3, q4, q5, q6, q7⟩ := row8 (h9.row (List.mem_cons_self ..))
        clear h9
        go_wp2_with fail
        refine (nno3 rfl H9.out n rfl hn hnm hbi).mono ?_
        rintro e w10 ⟨rfl, h10⟩
        have H10 := Lib.hid h10
        clear q0 q1 q2 q3 q4 q5 q6 q7
        clear h10
        go_wp2_with fail
        go_ret
        exact ⟨rfl, HB1.out.trans (H10.out.base.mono HB1.out.size)⟩
      · obtain ⟨rfl, rfl, rfl⟩ : up = true ∧ down = true ∧ beside = false := hud
        go_wp2_with fail
        refine (nadd0 H8.out n hn hnm hbi).mono ?_
        rintro e w9 ⟨rfl, h9⟩
        have H9 := Lib.hid h9
        clear q0 q1 q2 q3 q4 q5 q6 q7
        obtain ⟨q0, q1, q2, q3, q4, q5, q6, q7⟩ := row8 (h9.row (List.mem_cons_self ..))
        clear h9
        go_wp2_with fail
        refine (nno3 rfl H9.out n rfl hn hnm hbi).mono ?_
        rintro e w10 ⟨rfl, h10⟩
        have H10 := Lib.hid h10
        clear q0 q1 q2 q3 q4 q5 q6 q7
        clear h10
        go_wp2_with fail
        go_ret
        exact ⟨rfl, HB1.out.trans (H10.out.base.mono HB1.out.size)⟩
      · obtain ⟨rfl, rfl, rfl⟩ : up = true ∧ down = false ∧ beside = true := hud
        go_wp2_with fail
        refine (nadd0 H8.out n hn hnm hbi).mono ?_
        rintro e w9 ⟨rfl, h9⟩
        have H9 := Lib.hid h9
        clear q0 q1 q2 q3 q4 q5 q6 q7
        obtain ⟨q0, q1, q2, q3, q4, q5, q6, q7⟩ := row8 (h9.row (List.mem_cons_self ..))
        clear h9
        go_wp2_with fail
        refine (nno3 rfl H9.out n rfl hn hnm hbi).mono ?_
        rintro e w10 ⟨rfl, h10⟩
        have H10 := Lib.hid h10
        clear q0 q1 q2 q3 q4 q5 q6 q7
        clear h10
        go_wp2_with fail
        go_ret
        exact ⟨rfl, HB1.out.trans (H10.out.base.mono HB1.out.size)⟩
      · obtain ⟨rfl, rfl, rfl⟩ : up = true ∧ down = false ∧ beside = false := hud
        go_wp2_with fail
        refine (nadd0 H8.out n hn hnm hbi).mono ?_
        rintro e w9 ⟨rfl, h9⟩
        have H9 := Lib.hid h9
        clear q0 q1 q2 q3 q4 q5 q6 q7
        obtain ⟨q0, q1, q2, q3, q4, q5, q6, q7⟩ := row8 (h9.row (List.mem_cons_self ..))
        clear h9
        go_wp2_with fail
        refine (nno3 rfl H9.out n rfl hn hnm hbi).mono ?_
        rintro e w10 ⟨rfl, h10⟩
        have H10 := Lib.hid h10
        clear q0 q1 q2 q3 q4 q5 q6 q7
        clear h10
        go_wp2_with fail
        go_ret
        exact ⟨rfl, HB1.out.trans (H10.out.base.mono HB1.out.size)⟩
      · obtain ⟨rfl, rfl, rfl⟩ : up = false ∧ down = true ∧ beside = true := hud
        go_wp2_with fail
        refine (nadd2 H8.out n hn hnm hbi).mono ?_
        rintro e w9 ⟨rfl, h9⟩
        have H9 := Lib.hid h9
        clear q0 q1 q2 q3 q4 q5 q6 q7
        obtain ⟨q0, q1, q2, q3, q4, q5, q6, q7⟩ := row8 (h9.row (List.mem_cons_self ..))
        clear h9
        go_wp2_with fail
        refine (nadd3 H9.out n hn hnm hbi).mono ?_
        rintro e w10 ⟨rfl, h10⟩
        have H10 := Lib.hid h10
        clear q0 q1 q2 q3 q4 q5 q6 q7
        obtain ⟨q0, q1, q2, q3, q4, q5, q6, q7⟩ := row8 (h10.row (List.mem_cons_self ..))
        clear h10
        go_wp2_with fail
        refine (nno4 H10.out n rfl hn hnm hbi).mono ?_
        rintro e w11 ⟨rfl, h11⟩
        have H11 := Lib.hid h11
        clear q0 q1 q2 q3 q4 q5 q6 q7
        clear h11
        go_wp2_with fail
        go_ret
        exact ⟨rfl, HB1.out.trans (H11.out.base.mono HB1.out.size)⟩
      · obtain ⟨rfl, rfl, rfl⟩ : up = false ∧ down = true ∧ beside = false := hud
        go_wp2_with fail
        refine (nadd2 H8.out n hn hnm hbi).mono ?_
        rintro e w9 ⟨rfl, h9⟩
        have H9 := Lib.hid h9
        clear q0 q1 q2 q3 q4 q5 q6 q7
        obtain ⟨q0, q1, q2, q3, q4, q5, q6, q7⟩ := row8 (h9.row (List.mem_cons_self ..))
        clear h9
        go_wp2_with fail
        refine (nno4 H9.out n rfl hn hnm hbi).mono ?_
        rintro e w10 ⟨rfl, h10⟩
        have H10 := Lib.hid h10
        clear q0 q1 q2 q3 q4 q5 q6 q7
        clear h10
        go_wp2_with fail
        go_ret
        exact ⟨rfl, HB1.out.trans (H10.out.base.mono HB1.out.size)⟩
      · obtain ⟨rfl, rfl, rfl⟩ : up = false ∧ down = false ∧ beside = true := hud
        go_wp2_with fail
        refine (nadd3 H8.out n hn hnm hbi).mono ?_
        rintro e w9 ⟨rfl, h9⟩
        have H9 := Lib.hid h9
        clear q0 q1 q2 q3 q4 q5 q6 q7
        obtain ⟨q0, q1, q2, q3, q4, q5, q6, q7⟩ := row8 (h9.row (List.mem_cons_self ..))
        clear h9
        go_wp2_with fail
        refine (nadd1 H9.out n hn hnm hbi).mono ?_
        rintro e w10 ⟨rfl, h10⟩
        have H10 := Lib.hid h10
        clear q0 q1 q2 q3 q4 q5 q6 q7
        obtain ⟨q0, q1, q2, q3, q4, q5, q6, q7⟩ := row8 (h10.row (List.mem_cons_self ..))
        clear h10
        go_wp2_with fail
        refine (nno3 rfl H10.out n rfl hn hnm hbi).mono ?_
        rintro e w11 ⟨rfl, h11⟩
        have H11 := Lib.hid h11
        clear q0 q1 q2 q3 q4 q5 q6 q7
        clear h11
        go_wp2_with fail
        go_ret
        exact ⟨rfl, HB1.out.trans (H11.out.base.mono HB1.out.size)⟩
      · obtain ⟨rfl, rfl, rfl⟩ : up = false ∧ down = false ∧ beside = false := hud
        go_wp2_with fail
        refine (nadd1 H8.out n hn hnm hbi).mono ?_
        rintro e w9 ⟨rfl, h9⟩
        have H9 := Lib.hid h9
        clear q0 q1 q2 q3 q4 q5 q6 q7
        obtain ⟨q0, q1, q2, q3, q4, q5, q6, q7⟩ := row8 (h9.row (List.mem_cons_self ..))
        clear h9
        go_wp2_with fail
        refine (nno3 rfl H9.out n rfl hn hnm hbi).mono ?_
        rintro e w10 ⟨rfl, h10⟩
        have H10 := Lib.hid h10
        clear q0 q1 q2 q3 q4 q5 q6 q7
        clear h10
        go_wp2_with fail
        go_ret
        exact ⟨rfl, HB1.out.trans (H10.out.base.mono HB1.out.size)⟩
end Go.Proofs.YtnphgcbknfmapaaDoor
