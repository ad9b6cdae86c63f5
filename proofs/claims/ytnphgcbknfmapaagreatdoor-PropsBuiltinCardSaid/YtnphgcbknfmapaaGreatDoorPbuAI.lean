/- Contracts of the functions that the statement reaches, and the plain mathematics beneath: several texts joined. -/
import Derived.Test.YtnphgcbknfmapaaGreatDoorPbuAF
import Derived.Test.YtnphgcbknfmapaaGreatDoorPbuAE
namespace Go.Proofs.YtnphgcbknfmapaaGreatDoor
open Go.RowKit Go.Lib
set_option linter.unusedVariables false
theorem add_L {B a m : Nat} {w0 w : World} {l : List OB} {mx o : Int} {K : List (Nat × Obj)} {x : OB} (h : LS B w0 w a m l mx K) (ho : I64 o) (hx : getO l o = some x) (n : ByteArray) (ow bits v : Int) (hn : n.size ≤ 140737488351232) (hb : nmB n.data.toList = true) (hi : biB n = false) (hs : x.slots = [])
    {r : List Int} (hr : belowO l o = some r) (hri : ∀ d ∈ r, I64 d) (hrl : r.length ≤ 1000000) (hbare : ∀ d ∈ r, ∃ y, getO l d = some y ∧ y.slots = []) (hnd : r.Nodup) {fs : List SL} (hfs : fs.length = r.length) (hfl : ∀ f ∈ fs, FlatS f) (hfn : ∀ f ∈ fs, f.name = n)
    (hsp : ∀ (i : Nat) (d : Int) (f : SL), r[i]? = some d → fs[i]? = some f → (d = o ∧ f = ⟨n, ow, bits, false, 0, v, ⟨#[]⟩⟩) ∨ (d ≠ o ∧ ∃ y, getO l d = some y ∧ I64 y.parent ∧ ∃ k : Nat, k < i ∧ r[k]? = some y.parent ∧ ∃ fk, fs[k]? = some fk ∧ f = freshO fk y.owner))
    (how : I64 ow) (hoh : hasO l ow = true) (hb0 : 0 ≤ bits) (hb7 : bits ≤ 7) (hdf : x.defs = []) :
    Calls Tryz.prog 26 #[.pointer (some ⟨a, 0, none⟩), .int .i64 o, addV n ow bits v] w fun e w' => e = .returned (.int .i64 0) ∧ LS B w0 w' a m (layAll (repO l o { x with defs := [n] }) (r.zip fs)) mx K := by
  obtain ⟨T, ht, rfl, h0, hK⟩ := h
  obtain ⟨X, hX, rfl⟩ := findT_of_getO hx
  have hdv := (ht.bare X (findT_some hX).1).2 hdf
  refine (add_ok ht ho hX n ow bits v hn hb hi (by rw [hs]; rfl) hr hri hrl (fun d hd => ?_) (fun d hd y hy => ?_) hnd hfs hfl hfn (fun i d f h1 h2 => ?_) how hoh hb0 hb7 hdf hdv).mono ?_
  · obtain ⟨y, hy, _⟩ := hbare d hd
    obtain ⟨y', h1, -⟩ := findT_of_getO hy
    exact ⟨y', h1⟩
  · obtain ⟨z, hz, hzs⟩ := hbare d hd
    obtain ⟨y', h1, rfl⟩ := findT_of_getO hz
    rw [hy] at h1
    injection h1 with h1
    subst h1
    exact ⟨hzs, (ht.bare y (findT_some hy).1).1 hzs⟩
  · rcases hsp i d f h1 h2 with e | ⟨e, y, hy, hp, k, hk, hrk, fk, hfk, he⟩
    · exact .inl e
    · obtain ⟨y', h3, rfl⟩ := findT_of_getO hy
      exact .inr ⟨e, y', h3, hp, k, hk, hrk, fk, hfk, he⟩
  · rintro e w' ⟨rfl, T', hs', hl'⟩
    exact ⟨rfl, ls_step ht h0 hK hs' hl'⟩
end Go.Proofs.YtnphgcbknfmapaaGreatDoor
namespace Go.Proofs.YtnphgcbknfmapaaGreatDoor
open Go.RowKit Go.Lib
set_option linter.unusedVariables false
def nO (i p : Int) (d : List ByteArray) (s : List SL) : OB := ⟨i, p, i, -1, 0, 0, ⟨#[]⟩, d, s⟩
/-- A slot as Add lays it. -/
def sN (n : ByteArray) (bits v : Int) : SL := ⟨n, 0, bits, false, 0, v, ⟨#[]⟩⟩
theorem flat_sN (n : ByteArray) {bits : Int} (v : Int) (h0 : 0 ≤ bits) (h7 : bits ≤ 7) : FlatS (sN n bits v) := ⟨h0, h7, rfl, rfl⟩
theorem slotI_one {n : ByteArray} {f : SL} (h : f.name = n) : slotI [f] n = some 0 := by unfold slotI; simp [h]
theorem slO_one {y : OB} {n : ByteArray} {f : SL} (hy : y.slots = [f]) (h : f.name = n) : slO y n = some f := by
  unfold slO
  rw [hy, slotI_one h]
  rfl
theorem first_gv (n : ByteArray) (v : Int) : gvO [nO 0 (-1) [n] [sN n 0 v], nO 1 0 [] [freshO (sN n 0 v) 1]] n (aboveO [nO 0 (-1) [n] [sN n 0 v], nO 1 0 [] [freshO (sN n 0 v) 1]] 1) = some (sN n 0 v) := by
  have h1 : getO [nO 0 (-1) [n] [sN n 0 v], nO 1 0 [] [freshO (sN n 0 v) 1]] 1 = some (nO 1 0 [] [freshO (sN n 0 v) 1]) := rfl
  have h0 : getO [nO 0 (-1) [n] [sN n 0 v], nO 1 0 [] [freshO (sN n 0 v) 1]] 0 = some (nO 0 (-1) [n] [sN n 0 v]) := rfl
  rw [show aboveO [nO 0 (-1) [n] [sN n 0 v], nO 1 0 [] [freshO (sN n 0 v) 1]] 1 = [1, 0] from rfl, gvO, h1, Option.bind_some, slO_one (n := n) (y := nO 1 0 [] [freshO (sN n 0 v) 1]) (f := freshO (sN n 0 v) 1) rfl rfl]
  show gvO _ n [0] = _
  rw [gvO, h0, Option.bind_some, slO_one (n := n) (y := nO 0 (-1) [n] [sN n 0 v]) (f := sN n 0 v) rfl rfl]
  rfl
theorem xname : nmB (⟨#[120]⟩ : ByteArray).data.toList = true ∧ biB ⟨#[120]⟩ = false := by decide
theorem first_add {B a m : Nat} {w0 w : World} {K : List (Nat × Obj)} (h : LS B w0 w a m [nO 0 (-1) [] [], nO 1 0 [] []] 1 K) (n : ByteArray) (hn : n.size ≤ 140737488351232) (hb : nmB n.data.toList = true) (hi : biB n = false) (v : Int) :
    Calls Tryz.prog 26 #[.pointer (some ⟨a, 0, none⟩), .int .i64 0, addV n 0 0 v] w fun e w' => e = .returned (.int .i64 0) ∧ LS B w0 w' a m [nO 0 (-1) [n] [sN n 0 v], nO 1 0 [] [freshO (sN n 0 v) 1]] 1 K := by
  refine (add_L h (x := nO 0 (-1) [] []) ⟨by omega, by omega⟩ rfl n 0 0 v hn hb hi rfl (r := [0, 1]) (by rfl) ?_ (by decide) ?_ (by decide) (fs := [sN n 0 v, freshO (sN n 0 v) 1]) rfl ?_ ?_ ?_ ⟨by omega, by omega⟩ rfl (by decide) (by decide) rfl).mono ?_
  · intro d hd
    simp only [List.mem_cons, List.not_mem_nil, or_false] at hd
    rcases hd with rfl | rfl <;> exact ⟨by omega, by omega⟩
  · intro d hd
    simp only [List.mem_cons, List.not_mem_nil, or_false] at hd
    rcases hd with rfl | rfl <;> exact ⟨_, rfl, rfl⟩
  · intro f hf
    simp only [List.mem_cons, List.not_mem_nil, or_false] at hf
    rcases hf with rfl | rfl
    · exact flat_sN n v (by decide) (by decide)
    · exact (flat_sN n v (by decide) (by decide)).fresh 1
  · intro f hf
    simp only [List.mem_cons, List.not_mem_nil, or_false] at hf
    rcases hf with rfl | rfl <;> rfl
  · intro i d f h1 h2
    match i with
    | 0 =>
      injection h1 with h1
      injection h2 with h2
      exact .inl ⟨h1.symm, h2.symm⟩
    | 1 =>
      injection h1 with h1
      injection h2 with h2
      subst h1
      exact .inr ⟨by decide, _, rfl, ⟨by decide, by decide⟩, 0, by decide, rfl, _, rfl, h2.symm⟩
    | k + 2 => cases h1
  · rintro e w' ⟨rfl, h'⟩
    exact ⟨rfl, h'⟩
set_option maxRecDepth 100000 in
set_option maxHeartbeats 2000000 in
theorem pfirst_c (w : World) : Calls Tryz.prog 15 #[] w fun e w' => e = .returned (.bool true) ∧ Below w.heap.size w w' := by
  have CN := Lib.hid (new_L w)
  go_enter Tryz.func15, Tryz.ntmps15
  go_wp2_with fail
  refine CN.out.mono ?_
  rintro e w1 ⟨rfl, h1⟩
  have H1 := Lib.hid h1
  clear h1 CN
  go_wp2_with fail
  refine (create0_L H1.out (by decide) (by decide)).mono ?_
  rintro e w2 ⟨rfl, h2⟩
  have H2 := Lib.hid (show LS w.heap.size w w2 (w.heap.size + 1) w.heap.size [nO 0 (-1) [] []] 0 [] from h2)
  clear h2
  go_wp2_with fail
  refine (create_L H2.out (p := 0) ⟨by omega, by omega⟩ (x := nO 0 (-1) [] []) rfl (by decide) (by decide) (by decide)).mono ?_
  rintro e w3 ⟨rfl, h3⟩
  have H3 := Lib.hid (show LS w.heap.size w w3 (w.heap.size + 1) w.heap.size [nO 0 (-1) [] [], nO 1 0 [] []] 1 [] from h3)
  clear h3
  go_wp2_with fail
  refine (valI_c 7 _).mono ?_
  rintro e w4 ⟨rfl, hb4⟩
  have H4 := Lib.hid (H3.out.below hb4)
  clear hb4
  unfold intV
  go_wp2_with fail
  refine (first_add H4.out ⟨#[120]⟩ (by decide) xname.1 xname.2 7).mono ?_
  rintro e w5 ⟨rfl, h5⟩
  have H5 := Lib.hid h5
  clear h5
  go_wp2_with fail
  refine (get_L H5.out (o := 1) ⟨by omega, by omega⟩ rfl (by
    intro x hx
    simp only [List.mem_cons, List.not_mem_nil, or_false] at hx
    rcases hx with rfl | rfl <;> exact ⟨by decide, by decide⟩) ⟨#[120]⟩ xname.2 (q := some (sN ⟨#[120]⟩ 0 7)) (first_gv _ 7)).mono ?_
  rintro e w6 ⟨rfl, h6⟩
  have H6 := Lib.hid h6
  clear h6
  unfold gvV sN
  go_wp2_with fail
  go_ret
  exact ⟨rfl, (H6.out.base).alloc (by have := H6.out.base.size; exact this) _⟩
end Go.Proofs.YtnphgcbknfmapaaGreatDoor
