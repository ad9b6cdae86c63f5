/- Contracts of the functions that the statement reaches, and the plain mathematics beneath: several texts joined. -/
import Derived.Test.YtnphgcbknfmapaaGreatDoorPinAF
import Derived.Test.YtnphgcbknfmapaaGreatDoorPinAE
import Derived.Test.YtnphgcbknfmapaaGreatDoorPinAG
import Derived.Test.YtnphgcbknfmapaaGreatDoorPinAB
namespace Go.Proofs.YtnphgcbknfmapaaGreatDoor
open Go.RowKit Go.Lib
set_option linter.unusedVariables false
theorem add_L {B a m : Nat} {w0 w : World} {l : List OB} {mx o : Int} {K : List (Nat × Obj)} {x : OB} (h : LS B w0 w a m l mx K) (ho : I64 o) (hx : getO l o = some x) (n : ByteArray) (ow bits v : Int) (hn : n.size ≤ 140737488351232) (hb : nmB n.data.toList = true) (hi : biB n = false) (hs : x.slots = [])
    {r : List Int} (hr : belowO l o = some r) (hri : ∀ d ∈ r, I64 d) (hrl : r.length ≤ 1000000) (hbare : ∀ d ∈ r, ∃ y, getO l d = some y ∧ y.slots = []) (hnd : r.Nodup) {fs : List SL} (hfs : fs.length = r.length) (hfl : ∀ f ∈ fs, FlatS f) (hfn : ∀ f ∈ fs, f.name = n)
    (hsp : ∀ (i : Nat) (d : Int) (f : SL), r[i]? = some d → fs[i]? = some f → (d = o ∧ f = ⟨n, ow, bits, false, 0, v, ⟨#[]⟩⟩) ∨ (d ≠ o ∧ ∃ y, getO l d = some y ∧ I64 y.parent ∧ ∃ k : Nat, k < i ∧ r[k]? = some y.parent ∧ ∃ fk, fs[k]? = some fk ∧ f = freshO fk y.owner))
    (how : I64 ow) (hoh : hasO l ow = true) (hb0 : 0 ≤ bits) (hb7 : bits ≤ 7) (hdf : x.defs = []) :
    Calls Tryz.prog 26 #[.pointer (some ⟨a, 0, none⟩), .int .i64 o, addV n ow bits v] w fun e w' => e = .returned (.int .i64 0) ∧ LS B w0 w' a m (layAll (repO l o { x with defs := [n] }) (r.zip fs)) mx K := by
  obtain ⟨T, ht, rfl, h0, hK⟩ := h
  obtain ⟨X, hX, rfl⟩ := findT_of_getO hx
  have hdv := (ht.bare X (findT_some hX).1).2 hdf
  refine (add_ok ht ho hX n ow bits v hn hb hi (by rw [hs]; rfl) hr hri hrl (fun d hd => ?_) (fun d hd y hy => ?_) hnd hfs hfl hfn (fun i d f h1 h2 => ?_) how hoh hb0 hb7 hdf hdv).mono ?_
  · obtain ⟨y, hy, _⟩ := hbare d hd
    obtain ⟨y', h1, -⟩ := findT_of_getO hy
    exact ⟨y', h1⟩
  · obtain ⟨z, hz, hzs⟩ := hbare d hd
    obtain ⟨y', h1, rfl⟩ := findT_of_getO hz
    rw [hy] at h1
    injection h1 with h1
    subst h1
    exact ⟨hzs, (ht.bare y (findT_some hy).1).1 hzs⟩
  · rcases hsp i d f h1 h2 with e | ⟨e, y, hy, hp, k, hk, hrk, fk, hfk, he⟩
    · exact .inl e
    · obtain ⟨y', h3, rfl⟩ := findT_of_getO hy
      exact .inr ⟨e, y', h3, hp, k, hk, hrk, fk, hfk, he⟩
  · rintro e w' ⟨rfl, T', hs', hl'⟩
    exact ⟨rfl, ls_step ht h0 hK hs' hl'⟩
end Go.Proofs.YtnphgcbknfmapaaGreatDoor
namespace Go.Proofs.YtnphgcbknfmapaaGreatDoor
open Go.RowKit Go.Lib
set_option linter.unusedVariables false
def nO (i p : Int) (d : List ByteArray) (s : List SL) : OB := ⟨i, p, i, -1, 0, 0, ⟨#[]⟩, d, s⟩
/-- A slot as Add lays it. -/
def sN (n : ByteArray) (bits v : Int) : SL := ⟨n, 0, bits, false, 0, v, ⟨#[]⟩⟩
theorem flat_sN (n : ByteArray) {bits : Int} (v : Int) (h0 : 0 ≤ bits) (h7 : bits ≤ 7) : FlatS (sN n bits v) := ⟨h0, h7, rfl, rfl⟩
theorem slotI_one {n : ByteArray} {f : SL} (h : f.name = n) : slotI [f] n = some 0 := by unfold slotI; simp [h]
theorem slO_one {y : OB} {n : ByteArray} {f : SL} (hy : y.slots = [f]) (h : f.name = n) : slO y n = some f := by
  unfold slO
  rw [hy, slotI_one h]
  rfl
theorem first_gv (n : ByteArray) (v : Int) : gvO [nO 0 (-1) [n] [sN n 0 v], nO 1 0 [] [freshO (sN n 0 v) 1]] n (aboveO [nO 0 (-1) [n] [sN n 0 v], nO 1 0 [] [freshO (sN n 0 v) 1]] 1) = some (sN n 0 v) := by
  have h1 : getO [nO 0 (-1) [n] [sN n 0 v], nO 1 0 [] [freshO (sN n 0 v) 1]] 1 = some (nO 1 0 [] [freshO (sN n 0 v) 1]) := rfl
  have h0 : getO [nO 0 (-1) [n] [sN n 0 v], nO 1 0 [] [freshO (sN n 0 v) 1]] 0 = some (nO 0 (-1) [n] [sN n 0 v]) := rfl
  rw [show aboveO [nO 0 (-1) [n] [sN n 0 v], nO 1 0 [] [freshO (sN n 0 v) 1]] 1 = [1, 0] from rfl, gvO, h1, Option.bind_some, slO_one (n := n) (y := nO 1 0 [] [freshO (sN n 0 v) 1]) (f := freshO (sN n 0 v) 1) rfl rfl]
  show gvO _ n [0] = _
  rw [gvO, h0, Option.bind_some, slO_one (n := n) (y := nO 0 (-1) [n] [sN n 0 v]) (f := sN n 0 v) rfl rfl]
  rfl
theorem xname : nmB (⟨#[120]⟩ : ByteArray).data.toList = true ∧ biB ⟨#[120]⟩ = false := by decide
theorem first_add {B a m : Nat} {w0 w : World} {K : List (Nat × Obj)} (h : LS B w0 w a m [nO 0 (-1) [] [], nO 1 0 [] []] 1 K) (n : ByteArray) (hn : n.size ≤ 140737488351232) (hb : nmB n.data.toList = true) (hi : biB n = false) (v : Int) :
    Calls Tryz.prog 26 #[.pointer (some ⟨a, 0, none⟩), .int .i64 0, addV n 0 0 v] w fun e w' => e = .returned (.int .i64 0) ∧ LS B w0 w' a m [nO 0 (-1) [n] [sN n 0 v], nO 1 0 [] [freshO (sN n 0 v) 1]] 1 K := by
  refine (add_L h (x := nO 0 (-1) [] []) ⟨by omega, by omega⟩ rfl n 0 0 v hn hb hi rfl (r := [0, 1]) (by rfl) ?_ (by decide) ?_ (by decide) (fs := [sN n 0 v, freshO (sN n 0 v) 1]) rfl ?_ ?_ ?_ ⟨by omega, by omega⟩ rfl (by decide) (by decide) rfl).mono ?_
  · intro d hd
    simp only [List.mem_cons, List.not_mem_nil, or_false] at hd
    rcases hd with rfl | rfl <;> exact ⟨by omega, by omega⟩
  · intro d hd
    simp only [List.mem_cons, List.not_mem_nil, or_false] at hd
    rcases hd with rfl | rfl <;> exact ⟨_, rfl, rfl⟩
  · intro f hf
    simp only [List.mem_cons, List.not_mem_nil, or_false] at hf
    rcases hf with rfl | rfl
    · exact flat_sN n v (by decide) (by decide)
    · exact (flat_sN n v (by decide) (by decide)).fresh 1
  · intro f hf
    simp only [List.mem_cons, List.not_mem_nil, or_false] at hf
    rcases hf with rfl | rfl <;> rfl
  · intro i d f h1 h2
    match i with
    | 0 =>
      injection h1 with h1
      injection h2 with h2
      exact .inl ⟨h1.symm, h2.symm⟩
    | 1 =>
      injection h1 with h1
      injection h2 with h2
      subst h1
      exact .inr ⟨by decide, _, rfl, ⟨by decide, by decide⟩, 0, by decide, rfl, _, rfl, h2.symm⟩
    | k + 2 => cases h1
  · rintro e w' ⟨rfl, h'⟩
    exact ⟨rfl, h'⟩
set_option maxRecDepth 100000 in
set_option maxHeartbeats 2000000 in
theorem pfirst_c (w : World) : Calls Tryz.prog 15 #[] w fun e w' => e = .returned (.bool true) ∧ Below w.heap.size w w' := by
  have CN := Lib.hid (new_L w)
  go_enter Tryz.func15, Tryz.ntmps15
  go_wp2_with fail
  refine CN.out.mono ?_
  rintro e w1 ⟨rfl, h1⟩
  have H1 := Lib.hid h1
  clear h1 CN
  go_wp2_with fail
  refine (create0_L H1.out (by decide) (by decide)).mono ?_
  rintro e w2 ⟨rfl, h2⟩
  have H2 := Lib.hid (show LS w.heap.size w w2 (w.heap.size + 1) w.heap.size [nO 0 (-1) [] []] 0 [] from h2)
  clear h2
  go_wp2_with fail
  refine (create_L H2.out (p := 0) ⟨by omega, by omega⟩ (x := nO 0 (-1) [] []) rfl (by decide) (by decide) (by decide)).mono ?_
  rintro e w3 ⟨rfl, h3⟩
  have H3 := Lib.hid (show LS w.heap.size w w3 (w.heap.size + 1) w.heap.size [nO 0 (-1) [] [], nO 1 0 [] []] 1 [] from h3)
  clear h3
  go_wp2_with fail
  refine (valI_c 7 _).mono ?_
  rintro e w4 ⟨rfl, hb4⟩
  have H4 := Lib.hid (H3.out.below hb4)
  clear hb4
  unfold intV
  go_wp2_with fail
  refine (first_add H4.out ⟨#[120]⟩ (by decide) xname.1 xname.2 7).mono ?_
  rintro e w5 ⟨rfl, h5⟩
  have H5 := Lib.hid h5
  clear h5
  go_wp2_with fail
  refine (get_L H5.out (o := 1) ⟨by omega, by omega⟩ rfl (by
    intro x hx
    simp only [List.mem_cons, List.not_mem_nil, or_false] at hx
    rcases hx with rfl | rfl <;> exact ⟨by decide, by decide⟩) ⟨#[120]⟩ xname.2 (q := some (sN ⟨#[120]⟩ 0 7)) (first_gv _ 7)).mono ?_
  rintro e w6 ⟨rfl, h6⟩
  have H6 := Lib.hid h6
  clear h6
  unfold gvV sN
  go_wp2_with fail
  go_ret
  exact ⟨rfl, (H6.out.base).alloc (by have := H6.out.base.size; exact this) _⟩
end Go.Proofs.YtnphgcbknfmapaaGreatDoor
namespace Go.Proofs.YtnphgcbknfmapaaGreatDoor
open Go.RowKit Go.Lib
set_option linter.unusedVariables false
set_option linter.unusedSimpArgs false

def zero8 : List Value := [.string ⟨#[]⟩, .int .i64 0, .int .i64 0, .bool false, .int .i64 0, .int .i64 0, .string ⟨#[]⟩, .slice none 0 0]
set_option maxHeartbeats 1000000 in
theorem del2_c (n : ByteArray) (ow bits k v : Int) (cl : Bool) (tx : ByteArray) (C : Nat) (w : World) (hC : w.cell? ⟨C, 0, none⟩ = some (.string n)) :
    Calls Tryz.prog 72 #[.agg #[.string n, .int .i64 ow, .int .i64 bits, .bool cl, .int .i64 k, .int .i64 v, .string tx, .slice none 0 0], .pointer (some ⟨C, 0, none⟩)] w fun e w' => e = .returned (.bool true) ∧ Below w.heap.size w w' := by
  have hlt : C < w.heap.size := by
    rcases Nat.lt_or_ge C w.heap.size with h | h
    · exact h
    · simp [World.cell?, Array.getElem?_eq_none h] at hC
  have hC2 : ∀ ob, (w.alloc ob).cell? ⟨C, 0, none⟩ = some (.string n) := fun ob => (((Below.refl w.heap.size w).alloc (Nat.le_refl _) ob).cell (p := ⟨C, 0, none⟩) hlt).trans hC
  go_enter Tryz.func72, Tryz.ntmps72
  go_wp2_with fail
  go_ret
  exact ⟨rfl, (Below.refl _ _).alloc (Nat.le_refl _) _⟩
set_option maxHeartbeats 2000000 in
theorem idx2_c (s : SL) (b c C : Nat) (w : World) (hb : ∀ j u, s.cells[j]? = some u → w.cell? ⟨b, j, none⟩ = some u) (hC : w.cell? ⟨C, 0, none⟩ = some (.string s.name)) :
    Calls Tryz.prog 110 #[.slice (some ⟨b, 0, none⟩) 1 c, .func (.func 72) #[] #[.pointer (some ⟨C, 0, none⟩)]] w fun e w' => e = .returned (.int .i64 0) ∧ Below w.heap.size w w' := by
  have eg : ∀ args w, (callFunc 72 args).run Tryz.prog w = .ok (.enter 72 args) w := enters_of Tryz.func72 (by kernel_rfl) rfl
  have CD := Lib.hid (del2_c s.name s.owner s.bits s.kind s.num s.clear s.text C w hC)
  have u0 := hb 0 _ rfl
  have u1 := hb 1 _ rfl
  have u2 := hb 2 _ rfl
  have u3 := hb 3 _ rfl
  have u4 := hb 4 _ rfl
  have u5 := hb 5 _ rfl
  have u6 := hb 6 _ rfl
  have u7 := hb 7 _ rfl
  clear hC hb
  go_enter Tryz.func110, Tryz.ntmps110
  go_wp2_with fail
  refine wp_loop_rounds 1 ?_
  rw [rounds_succ]
  go_wp2_with fail
  refine CD.out.mono ?_
  rintro e w1 ⟨rfl, hb1⟩
  have HB1 := Lib.hid hb1
  clear hb1
  go_wp2_with fail
  go_ret
  exact ⟨rfl, HB1.out⟩
set_option maxHeartbeats 2000000 in
theorem delf2_c (s : SL) (b c C : Nat) (w : World) (hc1 : 1 ≤ c) (hcm : c ≤ 9223372036854775807) (hb : ∀ j u, s.cells[j]? = some u → w.cell? ⟨b, j, none⟩ = some u) (hth : w.there b 0 8) (hC : w.cell? ⟨C, 0, none⟩ = some (.string s.name)) :
    Calls Tryz.prog 71 #[.slice (some ⟨b, 0, none⟩) 1 c, .func (.func 72) #[] #[.pointer (some ⟨C, 0, none⟩)]] w fun e w' => e = .returned (.slice (some ⟨b, 0, none⟩) 0 c) ∧ ∃ w1, Below w.heap.size w w1 ∧ w' = w1.setCells b 0 zero8 := by
  have CI := Lib.hid (idx2_c s b c C w hb hC)
  have HTH := Lib.hid hth
  have hlt : b < w.heap.size := by
    rcases Nat.lt_or_ge b w.heap.size with h | h
    · exact h
    · have := (hth 0 (by omega)).1
      simp [World.cell?, Array.getElem?_eq_none h] at this
  clear hb hC hth
  go_enter Tryz.func71, Tryz.ntmps71
  go_wp2_with fail
  refine CI.out.mono ?_
  rintro e w1 ⟨rfl, hb1⟩
  have hcl : ∀ ty, (Builtin.clear_ #[26] ty #[.slice (some ⟨b, 0, none⟩) 1 c]).run Tryz.prog w1 = .ok (.tuple #[]) (w1.setCells b 0 zero8) := fun ty => run_clear_one w1 _ 35 ty (.agg zero8.toArray) zero8 Tryz.underlying26 (fun w => by kernel_rfl) rfl (by decide) (by intro v hv; simp [zero8] at hv; rcases hv with rfl | rfl | rfl | rfl | rfl | rfl | rfl | rfl <;> rfl) b c (fun j hj => by
    have h8 := HTH.out j hj
    exact ⟨by rw [hb1.cell (p := ⟨b, 0 + j, none⟩) hlt]; exact h8.1, by rw [hb1.frozen (p := ⟨b, 0 + j, none⟩) hlt]; exact h8.2⟩)
  have HB1 := Lib.hid hb1
  clear hb1
  go_wp2_with fail
  refine wp_loop_rounds 1 ?_
  rw [rounds_succ]
  go_wp2_with fail
  go_ret
  exact ⟨rfl, _, HB1.out, rfl⟩
/-- A property that the object has not: none. -/
theorem get_gone {w : World} {B a m : Nat} {T : List OM} {mx o : Int} (h : Tab w B a m T mx) (ho : I64 o) {x : OM} (hx : findT T o = some x) (hpi : ParI T) (n : ByteArray) (hi : biB n = false) (hs : x.o.slots = []) :
    Calls Tryz.prog 21 #[.pointer (some ⟨a, 0, none⟩), .int .i64 o, .string n] w fun e w' => e = .returned (.tuple #[.agg #[.int .i64 0, .int .i64 0, .string ⟨#[]⟩, .slice none 0 0], .int .i64 4]) ∧ Below w.heap.size w w' := by
  have HB0 := Lib.hid ((Below.refl w.heap.size w).alloc (Nat.le_refl _) (.cells #[.int .i64 0, .int .i64 0, .string ⟨#[]⟩, .slice none 0 0] 33))
  have CR := Lib.hid (fun W (hW : Below w.heap.size w W) => ref_c (h.below hW) ho)
  rw [ptrT_some hx] at CR
  have CS := Lib.hid (fun W (hW : Below w.heap.size w W) => slot_c ((h.below hW).objs x (findT_some hx).1) n)
  rw [slotV_none (show slotI x.o.slots n = none from by rw [hs]; rfl)] at CS
  have CB := Lib.hid (fun W => pbuiltin_c n W)
  rw [hi] at CB
  have CA := Lib.hid (fun W (hW : Below w.heap.size w W) => above_c (h.below hW) ho hpi)
  obtain ⟨r, hr⟩ : ∃ r, aboveO (obT T) o = o :: r := by
    unfold aboveO
    rw [abvO, getO_some' hx]
    exact ⟨abvO (obT T) (obT T).length x.o.parent, by show x.o.id :: _ = _; rw [(findT_some hx).2]⟩
  have hrl : (o :: r).length ≤ 1000000 := by
    have h1 := abv_len (obT T) ((obT T).length + 1) o
    have h2 : (obT T).length = T.length := by simp [obT]
    have h3 := h.few
    rw [← hr]
    unfold aboveO
    omega
  rw [hr] at CA
  clear h hx hi hr hpi hs
  go_enter Tryz.func21, Tryz.ntmps21
  go_wp2_with fail
  refine (CR.out _ HB0.out).mono ?_
  rintro e w1 ⟨rfl, rfl⟩
  go_wp2_with fail
  refine (CB.out _).mono ?_
  rintro e w1 ⟨rfl, hb1⟩
  have HB1 := Lib.hid (HB0.out.trans (hb1.mono HB0.out.size))
  have HW1 := Lib.hid ((hb1.block w.heap.size (by simp)).trans (heap_alloc_new w _))
  have HZ1 := Lib.hid (show w.heap.size < w1.heap.size from by have h1 : _ ≤ w1.heap.size := hb1.size; simp at h1; omega)
  clear hb1
  go_wp2_with fail
  refine (CA.out _ HB1.out).mono ?_
  rintro e w3 ⟨V, rfl, hrow, hb3⟩
  obtain ⟨A, c, rfl, hnc, hcm, hA, hcell⟩ := own_formO hrow
  obtain ⟨g1, rfl, hc1⟩ := hcell 0 (.int .i64 o) rfl
  have HB3 := Lib.hid (HB1.out.trans (hb3.mono HB1.out.size))
  have HW3 := Lib.hid ((hb3.block w.heap.size HZ1.out).trans HW1.out)
  have HROW := Lib.hid (setRow_heap w3 w.heap.size _ #[.int .i64 0, .int .i64 0, .string ⟨#[]⟩, .slice none 0 0] _ _ HW3.out)
  have HBR := Lib.hid (sbelow_setRow HB3.out (g := w.heap.size) (Nat.le_refl _) #[.int .i64 0, .int .i64 0, .string ⟨#[]⟩, .slice none 0 0])
  have hl0 : (0 : Int) < ((o :: r).length : Int) := by simp
  unfold maxLen at hcm
  clear hb3 hrow hcell
  go_wp2_with fail
  refine wp_loop_rounds 1 ?_
  rw [rounds_succ]
  go_wp2_with fail
  refine (CR.out _ HB3.out).mono ?_
  rintro e w7 ⟨rfl, rfl⟩
  go_wp2_with fail
  refine (CS.out _ HB3.out).mono ?_
  rintro e w7 ⟨rfl, rfl⟩
  go_wp2_with (refine wpList_store_row rfl 33 (.tmp 6) (.tmp 52) rfl w.heap.size #[.int .i64 0, .int .i64 0, .string ⟨#[]⟩, .slice none 0 0] rfl rfl _ _ HW3.out (by kernel_rfl) rfl (by simp [Value.oneCell']) ?_)
  exact bodyPost_ret (results_rowP (P := Tryz.prog) rfl _ _ w.heap.size _ _ _ _ rfl HROW.out Tryz.underlying33 rfl (by kernel_rfl)) rfl ⟨rfl, HBR.out⟩
end Go.Proofs.YtnphgcbknfmapaaGreatDoor
namespace Go.Proofs.YtnphgcbknfmapaaGreatDoor
open Go.RowKit Go.Lib
set_option linter.unusedVariables false

theorem setAt_size : ∀ (vs : List Value) (o : Nat) (cs : Array Value), (setAt cs o vs).size = cs.size
  | [], _, _ => rfl
  | v :: r, o, cs => by rw [setAt, setAt_size r]; simp
theorem chg_setCells {S : Nat → Prop} {b : Nat} (hS : S b) : ∀ (vs : List Value) (o : Nat) (w : World), Chg S w (w.setCells b o vs)
  | [], _, _ => .refl _ _
  | v :: r, o, w => by
    rw [World.setCells]
    exact (Chg.set (S := S) w (p := ⟨b, o, none⟩) hS v).trans (chg_setCells hS r (o + 1) _)
theorem own_cut {w w' : World} {B e size g n c : Nat} {xs : List Value} (h : w.ownsRow B e size (.slice (some ⟨g, 0, none⟩) n c) n xs) (hk : ∀ cur, w.heap[g]? = some (.cells cur e (0, 0)) → ∃ cur', w'.heap[g]? = some (.cells cur' e (0, 0)) ∧ cur'.size = cur.size) :
    w'.ownsRow B e size (.slice (some ⟨g, 0, none⟩) 0 c) 0 [] := by
  rcases h.2 with ⟨e1, _⟩ | ⟨g', cap', cur, e1, e2, e3, e4, e5, e6, e7⟩
  · cases e1
  · injection e1 with f1 f2 f3
    injection f1 with f1
    injection f1 with f1
    subst f1
    subst f3
    obtain ⟨cur', k1, k2⟩ := hk cur e3
    exact ⟨by simp, .inr ⟨g, c, cur', rfl, e2, k1, Nat.zero_le _, e5, by rw [k2]; exact e6, by simp⟩⟩
section
variable {w wb : World} {B a m : Nat} {T : List OM} {mx o : Int} {x : OM}
/-- The names of an object's own properties, cut to none. -/
theorem cut_defs (h : Tab w B a m T mx) (hx : findT T o = some x) {g c : Nat} (hdv : x.dv = .slice (some ⟨g, 0, none⟩) 1 c) (hl : x.o.defs.length = 1) (hb : Below w.heap.size w wb) :
    Tab ((wb.setCells g 0 [.string ⟨#[]⟩]).setCell ⟨x.g, 7, none⟩ (.slice (some ⟨g, 0, none⟩) 0 c)) B a m (repT T o ⟨{ x.o with defs := [] }, x.g, .slice (some ⟨g, 0, none⟩) 0 c, x.sv⟩) mx ∧ Chg (fun b => b ∈ x.blocks) w ((wb.setCells g 0 [.string ⟨#[]⟩]).setCell ⟨x.g, 7, none⟩ (.slice (some ⟨g, 0, none⟩) 0 c)) := by
  have hxm := (findT_some hx).1
  have hob := h.objs x hxm
  have hnd := h.nodupN hxm
  have hgb : g ∈ x.blocks := OM.mem_blocks.2 (.inr (.inl (by rw [hdv]; rfl)))
  have hxg : x.g ∈ x.blocks := OM.mem_blocks.2 (.inl rfl)
  have hbk : (⟨{ x.o with defs := [] }, x.g, .slice (some ⟨g, 0, none⟩) 0 c, x.sv⟩ : OM).blocks = x.blocks := by unfold OM.blocks; rw [hdv]; rfl
  have hnx : x.g ≠ g := by
    rintro e
    unfold OM.blocks at hnd
    rw [List.nodup_cons] at hnd
    exact hnd.1 (by rw [hdv, e]; simp [Value.ownBlock])
  have hc : Chg (fun b => b ∈ x.blocks) w ((wb.setCells g 0 [.string ⟨#[]⟩]).setCell ⟨x.g, 7, none⟩ (.slice (some ⟨g, 0, none⟩) 0 c)) := ((Chg.of_below hb).trans (chg_setCells (S := fun b => b ∈ x.blocks) hgb _ _ _)).trans (Chg.set (S := fun b => b ∈ x.blocks) _ (p := ⟨x.g, 7, none⟩) hxg _)
  refine ⟨h.rep hx _ rfl rfl hc ⟨?_, ?_, ?_⟩ (fun b hb => .inl (by rwa [hbk] at hb)) (by rw [hbk]; exact hnd), hc⟩
  · have h1 : (wb.setCells g 0 [.string ⟨#[]⟩]).heap[x.g]? = some (.cells x.cells 29 (0, 0)) := (setCells_other hnx _ _ _).trans ((hb.block x.g (hob.lt x.g hxg)).trans hob.blk)
    exact heap_setCell_same _ x.g 7 _ _ (.slice (some ⟨g, 0, none⟩) 0 c) h1
  · have ho := hob.defs
    rw [hdv, hl] at ho
    refine own_cut ho fun cur hcur => ⟨_, (Below.heap_setCell _ _ _ _ (fun e => hnx e.symm)).trans (setCells_row g _ [.string ⟨#[]⟩] 0 wb cur ((hb.block g (hob.lt g hgb)).trans hcur)), setAt_size _ _ _⟩
  · refine ownsRow_same hob.slots fun b hbb => ?_
    have hbx : b ∈ x.blocks := OM.mem_blocks.2 (.inr (.inr hbb))
    have hne : b ≠ x.g := by
      rintro rfl
      unfold OM.blocks at hnd
      rw [List.nodup_cons] at hnd
      exact hnd.1 (by rw [hbb]; simp)
    have hne2 : b ≠ g := by
      rintro rfl
      unfold OM.blocks at hnd
      rw [List.nodup_cons, List.nodup_append] at hnd
      exact hnd.2.2.2 b (by rw [hdv]; simp [Value.ownBlock]) b (by rw [hbb]; simp) rfl
    exact (Below.heap_setCell _ _ _ _ hne).trans ((setCells_other hne2 _ _ _).trans (hb.block b (hob.lt b hbx)))
/-- An object's slots, cut to none. -/
theorem cut_slots (h : Tab w B a m T mx) (hx : findT T o = some x) {g c : Nat} (hsv : x.sv = .slice (some ⟨g, 0, none⟩) 1 c) (hl : x.o.slots.length = 1) (hb : Below w.heap.size w wb) :
    Tab ((wb.setCells g 0 zero8).setCell ⟨x.g, 8, none⟩ (.slice (some ⟨g, 0, none⟩) 0 c)) B a m (repT T o ⟨{ x.o with slots := [] }, x.g, x.dv, .slice (some ⟨g, 0, none⟩) 0 c⟩) mx ∧ Chg (fun b => b ∈ x.blocks) w ((wb.setCells g 0 zero8).setCell ⟨x.g, 8, none⟩ (.slice (some ⟨g, 0, none⟩) 0 c)) := by
  have hxm := (findT_some hx).1
  have hob := h.objs x hxm
  have hnd := h.nodupN hxm
  have hgb : g ∈ x.blocks := OM.mem_blocks.2 (.inr (.inr (by rw [hsv]; rfl)))
  have hxg : x.g ∈ x.blocks := OM.mem_blocks.2 (.inl rfl)
  have hbk : (⟨{ x.o with slots := [] }, x.g, x.dv, .slice (some ⟨g, 0, none⟩) 0 c⟩ : OM).blocks = x.blocks := by unfold OM.blocks; rw [hsv]; rfl
  have hnx : x.g ≠ g := by
    rintro e
    unfold OM.blocks at hnd
    rw [List.nodup_cons] at hnd
    exact hnd.1 (by rw [hsv, e]; simp [Value.ownBlock])
  have hc : Chg (fun b => b ∈ x.blocks) w ((wb.setCells g 0 zero8).setCell ⟨x.g, 8, none⟩ (.slice (some ⟨g, 0, none⟩) 0 c)) := ((Chg.of_below hb).trans (chg_setCells (S := fun b => b ∈ x.blocks) hgb _ _ _)).trans (Chg.set (S := fun b => b ∈ x.blocks) _ (p := ⟨x.g, 8, none⟩) hxg _)
  refine ⟨h.rep hx _ rfl rfl hc ⟨?_, ?_, ?_⟩ (fun b hb => .inl (by rwa [hbk] at hb)) (by rw [hbk]; exact hnd), hc⟩
  · have h1 : (wb.setCells g 0 zero8).heap[x.g]? = some (.cells x.cells 29 (0, 0)) := (setCells_other hnx _ _ _).trans ((hb.block x.g (hob.lt x.g hxg)).trans hob.blk)
    exact heap_setCell_same _ x.g 8 _ _ (.slice (some ⟨g, 0, none⟩) 0 c) h1
  · refine ownsRow_same hob.defs fun b hbb => ?_
    have hbx : b ∈ x.blocks := OM.mem_blocks.2 (.inr (.inl hbb))
    have hne : b ≠ x.g := by
      rintro rfl
      unfold OM.blocks at hnd
      rw [List.nodup_cons] at hnd
      exact hnd.1 (by rw [hbb]; simp)
    have hne2 : b ≠ g := by
      rintro rfl
      unfold OM.blocks at hnd
      rw [List.nodup_cons, List.nodup_append] at hnd
      exact hnd.2.2.2 b (by rw [hbb]; simp) b (by rw [hsv]; simp [Value.ownBlock]) rfl
    exact (Below.heap_setCell _ _ _ _ hne).trans ((setCells_other hne2 _ _ _).trans (hb.block b (hob.lt b hbx)))
  · have ho := hob.slots
    rw [hsv, hl] at ho
    refine own_cut ho fun cur hcur => ⟨_, (Below.heap_setCell _ _ _ _ (fun e => hnx e.symm)).trans (setCells_row g _ zero8 0 wb cur ((hb.block g (hob.lt g hgb)).trans hcur)), setAt_size _ _ _⟩
end
def noS (y : OB) : OB := { y with slots := [] }
def dlAll (l : List OB) (r : List Int) : List OB := r.foldl (fun l d => updO l d noS) l
theorem dlAll_snoc (l : List OB) (r : List Int) (d : Int) : dlAll l (r ++ [d]) = updO (dlAll l r) d noS := by
  unfold dlAll
  rw [List.foldl_append]
  rfl
theorem rep_noS {l : List OB} (hs : SortO l) {d : Int} {x : OB} (hx : getO l d = some x) : repO l d { x with slots := [] } = updO l d noS := by
  unfold repO updO
  apply List.map_congr_left
  intro y hy
  by_cases e : y.id = d
  · have b : (y.id == d) = true := by simpa using e
    have h2 := getO_of_mem hs hy
    rw [e, hx] at h2
    injection h2 with h2
    rw [b, if_pos rfl, if_pos rfl, h2]
    rfl
  · have b : (y.id == d) = false := by simpa using e
    rw [b]
    rfl
/-- How far the properties are taken away. -/
structure DlI (w6 wr : World) (B a m : Nat) (T1 Tk : List OM) (mx : Int) (r : List Int) (i : Nat) : Prop where
  tab : Tab wr B a m Tk mx
  chg : Chg (fun b => b ∈ a :: m :: blkT T1) w6 wr
  blk : ∀ b ∈ blkT Tk, b ∈ blkT T1
  ob : obT Tk = dlAll (obT T1) (r.take i)
  keep : ∀ j, i ≤ j → ∀ d, r[j]? = some d → findT Tk d = findT T1 d
theorem DlI.start {w6 : World} {B a m : Nat} {T1 : List OM} {mx : Int} {r : List Int} (h : Tab w6 B a m T1 mx) : DlI w6 w6 B a m T1 T1 mx r 0 :=
  ⟨h, .refl _ _, fun _ h => h, rfl, fun _ _ _ _ => rfl⟩
theorem DlI.next {w6 wr wb : World} {B a m : Nat} {T1 Tk : List OM} {mx : Int} {r : List Int} {i : Nat} (h : DlI w6 wr B a m T1 Tk mx r i) (hn : r.Nodup) {d : Int} (hd : r[i]? = some d) {y : OM} (hy : findT Tk d = some y) {g c : Nat} (hsv : y.sv = .slice (some ⟨g, 0, none⟩) 1 c) (hl : y.o.slots.length = 1) (hb : Below wr.heap.size wr wb) :
    ∃ Tk', DlI w6 ((wb.setCells g 0 zero8).setCell ⟨y.g, 8, none⟩ (.slice (some ⟨g, 0, none⟩) 0 c)) B a m T1 Tk' mx r (i + 1) := by
  obtain ⟨ht, hc⟩ := cut_slots h.tab hy hsv hl hb
  have hyo := (findT_some hy).2
  have hym := (findT_some hy).1
  have hne : ∀ k e, k ≠ i → r[k]? = some e → e ≠ d := by
    rintro k e hk he rfl
    have h1 := List.getElem?_eq_some_iff.1 he
    have h2 := List.getElem?_eq_some_iff.1 hd
    exact hk ((List.getElem_inj (h₀ := h1.1) (h₁ := h2.1) hn).1 (h1.2.trans h2.2.symm))
  have hbk : (⟨{ y.o with slots := [] }, y.g, y.dv, .slice (some ⟨g, 0, none⟩) 0 c⟩ : OM).blocks = y.blocks := by unfold OM.blocks; rw [hsv]; rfl
  refine ⟨_, ht, h.chg.trans' hc ?_, ?_, ?_, ?_⟩
  · intro b _ hb
    exact List.mem_cons_of_mem _ (List.mem_cons_of_mem _ (h.blk b (List.mem_flatMap.2 ⟨y, hym, hb⟩)))
  · intro b hb
    refine h.blk b ?_
    unfold blkT repT at hb
    obtain ⟨z, hz, hb⟩ := List.mem_flatMap.1 hb
    obtain ⟨z', hz', rfl⟩ := List.mem_map.1 hz
    by_cases e : (z'.o.id == d) = true
    · rw [if_pos e, hbk] at hb
      exact List.mem_flatMap.2 ⟨y, hym, hb⟩
    · rw [if_neg e] at hb
      exact List.mem_flatMap.2 ⟨z', hz', hb⟩
  · rw [obT_rep, rep_noS h.tab.sort (by rw [getO_obT, hy]; rfl), List.take_add_one, hd, Option.toList_some, dlAll_snoc, h.ob]
  · intro j hj e he
    refine (findT_rep_ne ?_ (hne j e (by omega) he)).trans (h.keep j (by omega) e he)
    exact hyo
end Go.Proofs.YtnphgcbknfmapaaGreatDoor
namespace Go.Proofs.YtnphgcbknfmapaaGreatDoor
open Go.RowKit Go.Lib
set_option linter.unusedVariables false
set_option linter.unusedSimpArgs false

set_option maxRecDepth 100000 in
set_option maxHeartbeats 4000000 in
theorem delete_ok {w : World} {B a m : Nat} {T : List OM} {mx o : Int} {x : OM} (h : TS w B a m T mx) (ho : I64 o) (hx : findT T o = some x) (n : ByteArray) {r : List Int} (hr : belowO (repO (obT T) o { x.o with defs := [] }) o = some r) (hri : ∀ d ∈ r, I64 d) (hrl : r.length ≤ 1000000) (hnd : r.Nodup) (hdf : x.o.defs = [n])
    (hsl : ∀ d ∈ r, ∃ y s, findT T d = some y ∧ y.o.slots = [s] ∧ s.name = n) :
    Calls Tryz.prog 28 #[.pointer (some ⟨a, 0, none⟩), .int .i64 o, .string n] w fun e w' => e = .returned (.int .i64 0) ∧ ∃ T', Tab w' B a m T' mx ∧ obT T' = dlAll (repO (obT T) o { x.o with defs := [] }) r ∧ Chg (fun b => b ∈ a :: m :: blkT T) w w' := by
  have hxm := (findT_some hx).1
  have hob := h.tab.objs x hxm
  have hxz := hob.lt x.g (OM.mem_blocks.2 (.inl rfl))
  have hod := hob.defs
  rw [hdf] at hod
  obtain ⟨A, c7, e, hn7, hm7, _, hcell⟩ := own_formO hod
  obtain ⟨g7, rfl, hc7⟩ := hcell 0 (.string n) rfl
  replace e : x.dv = .slice (some ⟨g7, 0, none⟩) 1 c7 := e
  have hg7b : g7 ∈ x.blocks := OM.mem_blocks.2 (.inr (.inl (by rw [e]; rfl)))
  have hg7 := hob.lt g7 hg7b
  have hf7 : w.frozen? ⟨g7, 0, none⟩ = false := by
    rw [e] at hod
    exact hod.frozenAt 0
  obtain ⟨w1, hw1⟩ : ∃ w1, w1 = w.alloc (.cells #[.string n] 9) := ⟨_, rfl⟩
  have hb1 : Below w.heap.size w w1 := by rw [hw1]; exact (Below.refl _ _).alloc (Nat.le_refl _) _
  have hr1 : w1.heap[w.heap.size]? = some (.cells #[.string n] 9 (0, 0)) := by rw [hw1]; exact heap_alloc_new _ _
  have b0 := cell_of_row w1 w.heap.size 0 _ _ _ hr1
  have x7 : w1.cell? ⟨x.g, 7, none⟩ = some (.slice (some ⟨g7, 0, none⟩) 1 c7) := by rw [← e]; exact (hb1.cell (p := ⟨x.g, 7, none⟩) hxz).trans (hob.cell 7)
  have f7 : w1.frozen? ⟨x.g, 7, none⟩ = false := (hb1.frozen (p := ⟨x.g, 7, none⟩) hxz).trans (hob.free 7)
  have r7 : w1.cell? ⟨g7, 0, none⟩ = some (.string n) := (hb1.cell (p := ⟨g7, 0, none⟩) hg7).trans hc7
  have rf7 : w1.frozen? ⟨g7, 0, none⟩ = false := (hb1.frozen (p := ⟨g7, 0, none⟩) hg7).trans hf7
  have CC := Lib.hid (fun (W : World) (hW : W.cell? ⟨g7, 0, none⟩ = some (.string n)) => (show Calls Tryz.prog 52 #[.slice (some ⟨g7, 0, none⟩) 1 c7, .string n] W (fun e w' => e = .returned (.bool true) ∧ w' = W) from by
    have := Tryz.slices_Contains_string g7 0 1 c7 [n] n W (by simp) (by decide) (fun j hj => by
      obtain rfl : j = 0 := by simpa using hj
      exact hW)
    rw [show Lib.containsS ([n].take 1) n = true from (Lib.containsS_iff _ _).2 (by simp)] at this
    exact this))
  have CR := Lib.hid (ref_c (h.tab.below hb1) ho)
  rw [ptrT_some hx] at CR
  have hnx : x.g ≠ g7 := by
    have hndx := h.tab.nodupN hxm
    rintro e1
    unfold OM.blocks at hndx
    rw [List.nodup_cons] at hndx
    exact hndx.1 (by rw [e, e1]; simp [Value.ownBlock])
  have hm7' : c7 ≤ 9223372036854775807 := by unfold maxLen at hm7; omega
  have CD := Lib.hid (delf1_c n g7 c7 w.heap.size w1.drew hn7 hm7' r7 rf7 b0)
  obtain ⟨w2, hw2⟩ : ∃ w2, w2 = (w1.drew.setCells g7 0 [.string ⟨#[]⟩]).setCell ⟨x.g, 7, none⟩ (.slice (some ⟨g7, 0, none⟩) 0 c7) := ⟨_, rfl⟩
  obtain ⟨ht2, hc2⟩ := cut_defs h.tab hx e (by rw [hdf]; rfl) (hb1.drew)
  rw [← hw2] at ht2 hc2
  obtain ⟨x1, hx1⟩ : ∃ x1 : OM, x1 = ⟨{ x.o with defs := [] }, x.g, .slice (some ⟨g7, 0, none⟩) 0 c7, x.sv⟩ := ⟨_, rfl⟩
  rw [← hx1] at ht2
  obtain ⟨T1, hT1⟩ : ∃ T1, T1 = repT T o x1 := ⟨_, rfl⟩
  rw [← hT1] at ht2
  have hx1o : x1.o.id = o := by rw [hx1]; exact (findT_some hx).2
  have hob1 : obT T1 = repO (obT T) o { x.o with defs := [] } := by rw [hT1, hx1]; exact obT_rep T o _
  have hbk1 : ∀ b ∈ blkT T1, b ∈ blkT T := by
    intro b hb
    rw [hT1] at hb
    unfold blkT repT at hb
    obtain ⟨z, hz, hb⟩ := List.mem_flatMap.1 hb
    obtain ⟨z', hz', rfl⟩ := List.mem_map.1 hz
    by_cases e1 : (z'.o.id == o) = true
    · rw [if_pos e1, hx1] at hb
      refine List.mem_flatMap.2 ⟨x, hxm, ?_⟩
      unfold OM.blocks at hb ⊢
      rw [e]
      exact hb
    · rw [if_neg e1] at hb
      exact List.mem_flatMap.2 ⟨z', hz', hb⟩
  have hsl1 : ∀ d ∈ r, ∃ y s, findT T1 d = some y ∧ y.o.slots = [s] ∧ s.name = n := by
    intro d hd
    obtain ⟨y, s, hy, hys, hsn⟩ := hsl d hd
    by_cases hdo : d = o
    · subst hdo
      rw [hx] at hy
      injection hy with hy
      subst hy
      exact ⟨x1, s, by rw [hT1]; exact findT_rep_eq hx1o hx, by rw [hx1]; exact hys, hsn⟩
    · exact ⟨y, s, by rw [hT1, findT_rep_ne hx1o hdo]; exact hy, hys, hsn⟩
  have hC2 : w2.heap[w.heap.size]? = some (.cells #[.string n] 9 (0, 0)) := by
    rw [hw2]
    exact (Below.heap_setCell _ _ _ _ (by show w.heap.size ≠ x.g; omega)).trans ((setCells_other (by omega) _ _ _).trans hr1)
  have y7 : (w1.drew.setCells g7 0 [.string ⟨#[]⟩]).cell? ⟨x.g, 7, none⟩ = some (.slice (some ⟨g7, 0, none⟩) 1 c7) := (World.cell?_of_block (w := w1) (setCells_other hnx _ _ w1.drew)).trans x7
  have yf7 : (w1.drew.setCells g7 0 [.string ⟨#[]⟩]).frozen? ⟨x.g, 7, none⟩ = false := (World.frozen?_of_block (w := w1) (setCells_other hnx _ _ w1.drew)).trans f7
  have CL := Lib.hid (pbelow_c ht2 ho (by rw [hob1]; exact hr) hri hrl)
  have hz12 : w.heap.size < w2.heap.size := (Array.getElem?_eq_some_iff.1 hC2).1
  have hlt1 : ∀ b ∈ a :: m :: blkT T1, b < w.heap.size := by
    intro b hb
    rcases List.mem_cons.1 hb with rfl | hb
    · exact h.tab.lt _ (List.mem_cons_self ..)
    rcases List.mem_cons.1 hb with rfl | hb
    · exact h.tab.lt _ (List.mem_cons_of_mem _ (List.mem_cons_self ..))
    · exact h.tab.lt _ (List.mem_cons_of_mem _ (List.mem_cons_of_mem _ (hbk1 b hb)))
  have HXB := Lib.hid (show ∀ b ∈ x.blocks, b ∈ a :: m :: blkT T from fun b hb => List.mem_cons_of_mem _ (List.mem_cons_of_mem _ (List.mem_flatMap.2 ⟨x, hxm, hb⟩)))
  have HW1 := Lib.hid hw1
  have HW2 := Lib.hid hw2
  have HT2 := Lib.hid ht2
  have HC2 := Lib.hid hc2
  have HOB := Lib.hid hob1
  have HBK := Lib.hid hbk1
  have HSL := Lib.hid hsl1
  have HCC := Lib.hid hC2
  have HZ12 := Lib.hid hz12
  have HLT := Lib.hid hlt1
  have HRI := Lib.hid hri
  have HND := Lib.hid hnd
  clear h hx hxm hob hod hcell hc7 e hg7b hg7 hf7 hb1 hr1 hw1 hw2 ht2 hc2 hob1 hbk1 hsl1 hsl hC2 hz12 hlt1 hr hri hnd hdf hT1 hx1 hx1o hxz hnx
  go_enter Tryz.func28, Tryz.ntmps28
  go_wp2_with fail
  rw [← HW1.out]
  refine CR.out.mono ?_
  rintro e w1' ⟨rfl, rfl⟩
  go_upto_region 4 with fail
  refine wp_region_heldTo 6 (fun W => W.cell? ⟨x.g, 7, none⟩ = some (.slice (some ⟨g7, 0, none⟩) 1 c7) ∧ W.cell? ⟨w.heap.size, 0, none⟩ = some (.string n)) (by kernel_rfl) (by kernel_rfl) ⟨x7, b0⟩ (fun hSucc hHeld => ?_)
  refine heldTo_take (i := 0) (oi := _) (v := (.pointer (some ⟨x.g, 0, none⟩))) hSucc rfl (by kernel_rfl) (by kernel_rfl) (by kernel_rfl) (by kernel_rfl) rfl (fun _ _ _ h => h) (Or.inl ⟨by rfl, fun W hSw => ?_⟩) (by with_reducible assumption) ?_
  · (try dsimp only at hSw); go_simp
  change heldTo _ _ _ _ _ _ _ _ (Act.put _ (some 16) _) _
  simp only [Act.put, List.setIfInBounds_toArray, List.set_cons_zero, List.set_cons_succ]
  refine heldTo_take (i := 1) (oi := _) (v := (.pointer (some ⟨x.g, 0, none⟩))) hSucc rfl (by kernel_rfl) (by kernel_rfl) (by kernel_rfl) (by kernel_rfl) rfl (fun _ _ _ h => h) (Or.inl ⟨by rfl, fun W hSw => ?_⟩) (by with_reducible assumption) ?_
  · (try dsimp only at hSw); go_simp
  change heldTo _ _ _ _ _ _ _ _ (Act.put _ (some 17) _) _
  simp only [Act.put, List.setIfInBounds_toArray, List.set_cons_zero, List.set_cons_succ]
  refine heldTo_take (i := 2) (oi := _) (v := (.pointer (some ⟨x.g, 7, none⟩))) hSucc rfl (by kernel_rfl) (by kernel_rfl) (by kernel_rfl) (by kernel_rfl) rfl (fun _ _ _ h => h) (Or.inl ⟨by rfl, fun W hSw => ?_⟩) (by with_reducible assumption) ?_
  · (try dsimp only at hSw); go_simp
  change heldTo _ _ _ _ _ _ _ _ (Act.put _ (some 18) _) _
  simp only [Act.put, List.setIfInBounds_toArray, List.set_cons_zero, List.set_cons_succ]
  refine heldTo_take (i := 3) (oi := _) (v := (.slice (some ⟨g7, 0, none⟩) 1 c7)) hSucc rfl (by kernel_rfl) (by kernel_rfl) (by kernel_rfl) (by kernel_rfl) rfl (fun _ _ _ h => h) (Or.inl ⟨by rfl, fun W hSw => ?_⟩) (by with_reducible assumption) ?_
  · (try dsimp only at hSw); go_simp
  change heldTo _ _ _ _ _ _ _ _ (Act.put _ (some 19) _) _
  simp only [Act.put, List.setIfInBounds_toArray, List.set_cons_zero, List.set_cons_succ]
  refine heldTo_take (i := 4) (oi := _) (v := (.string n)) hSucc rfl (by kernel_rfl) (by kernel_rfl) (by kernel_rfl) (by kernel_rfl) rfl (fun _ _ _ h => h) (Or.inl ⟨by rfl, fun W hSw => ?_⟩) (by with_reducible assumption) ?_
  · (try dsimp only at hSw); go_simp
  change heldTo _ _ _ _ _ _ _ _ (Act.put _ (some 20) _) _
  simp only [Act.put, List.setIfInBounds_toArray, List.set_cons_zero, List.set_cons_succ]
  refine heldTo_one (i := 5) (o := _) (by kernel_rfl) rfl (fun K hK => ?_)
  go_simp
  go_at_call 52
  refine (CC.out w1.drew r7).mono ?_
  rintro e w7 ⟨rfl, rfl⟩
  refine hK.out _ _ hHeld (fun hHeld => ?_)
  clear hK K
  refine heldTo_last (o := _) (by kernel_rfl) rfl (fun K hK => ?_)
  go_simp
  refine hK.out _ _ ?_
  clear hK K hHeld
  refine heldTo_done (by kernel_rfl) ?_ _
  go_wp2_with fail
  refine CD.out.mono ?_
  rintro e w1' ⟨rfl, rfl⟩
  go_upto_region 7 with fail
  rw [← HW2.out]
  go_wp2_with fail
  refine CL.out.mono ?_
  rintro e w3 ⟨V, rfl, hrow, hb3⟩
  obtain ⟨A, c, rfl, hnc, hcm, hA, hcell⟩ := own_formO hrow
  have hC3 := (hb3.block w.heap.size HZ12.out).trans HCC.out
  have HC3 := Lib.hid hC3
  have HCL := Lib.hid hcell
  have HRO := Lib.hid hrow
  have HB3 := Lib.hid hb3
  have HT3 := Lib.hid (HT2.out.below hb3)
  unfold maxLen at hcm
  clear hb3 hC3 hrow hcell y7 yf7 CL CD CC b0 x7 f7 r7 rf7
  go_wp2_with fail
  go_loopg [36] r.length (fun kk iv wr => ∃ (i : Nat) (Tk : List OM), iv = .int .i64 (i : Int) ∧ i + kk = r.length ∧ DlI w3 wr B a m T1 Tk mx r i)
  case atStart => exact ⟨0, _, rfl, by omega, DlI.start HT3.out⟩
  case round =>
    obtain ⟨i, Tk, rfl, hik, hly⟩ := hrel
    by_cases hi2 : i < r.length
    · obtain ⟨j, rfl⟩ : ∃ j, gk = j + 1 := ⟨gk - 1, by omega⟩
      obtain ⟨d, hd⟩ : ∃ d, r[i]? = some d := ⟨r[i], List.getElem?_eq_some_iff.2 ⟨hi2, rfl⟩⟩
      obtain ⟨g1, rfl, hc1⟩ := HCL.out i (.int .i64 d) (by simp [intsO, hd])
      have hg1 := HRO.out.lt g1 rfl
      have hdm := List.mem_of_getElem? hd
      have hkr : ∀ b, b < w3.heap.size → w.heap.size ≤ b → wr.heap[b]? = w3.heap[b]? := fun b h1 h2 => hly.chg.block b h1 (fun hm => by have := HLT.out b hm; omega)
      have hz23 := HB3.out.size
      have hcr : wr.cell? ⟨g1, i, none⟩ = some (.int .i64 d) := (World.cell?_of_block (w := w3) (hkr g1 hg1.2 (by have := HZ12.out; omega))).trans hc1
      have hpr := (hkr w.heap.size (by have := HZ12.out; omega) (Nat.le_refl _)).trans HC3.out
      have q0 : wr.cell? ⟨w.heap.size, 0, none⟩ = some (.string n) := cell_of_row wr w.heap.size 0 _ _ _ hpr
      obtain ⟨y, s, hy1, hys, hsn⟩ := HSL.out d hdm
      have hy : findT Tk d = some y := (hly.keep i (Nat.le_refl _) d hd).trans hy1
      have hym := (findT_some hy).1
      have hoby := hly.tab.objs y hym
      have hos := hoby.slots
      rw [hys] at hos
      obtain ⟨Ay, cy, ey, hny, hmy, _, hcelly⟩ := own_formO hos
      obtain ⟨gy, rfl, hcy0⟩ := hcelly 0 (.string s.name) (by simp [SL.cells])
      replace ey : y.sv = .slice (some ⟨gy, 0, none⟩) 1 cy := ey
      have hcy : ∀ k u, s.cells[k]? = some u → wr.cell? ⟨gy, k, none⟩ = some u := by
        intro k u hu
        obtain ⟨g2, e2, hc2⟩ := hcelly k u (by simpa using hu)
        injection e2 with e2
        injection e2 with e2
        subst e2
        exact hc2
      have hthy : wr.there gy 0 8 := by
        rw [ey] at hos
        intro k hk
        rw [Nat.zero_add]
        have hks : s.cells[k]? = some (s.cells[k]'hk) := List.getElem?_eq_getElem hk
        exact ⟨by rw [hcy k _ hks]; rfl, hos.frozenAt k⟩
      have hmy' : cy ≤ 9223372036854775807 := by unfold maxLen at hmy; omega
      have hny' : 1 ≤ cy := hny
      have hgyb : gy ∈ y.blocks := OM.mem_blocks.2 (.inr (.inr (by rw [ey]; rfl)))
      have hyg : y.g ≠ gy := by
        have hndy := hly.tab.nodupN hym
        rintro e1
        unfold OM.blocks at hndy
        rw [List.nodup_cons] at hndy
        exact hndy.1 (by rw [ey, e1]; simp [Value.ownBlock])
      have hygz : y.g < wr.heap.size := hoby.lt y.g (OM.mem_blocks.2 (.inl rfl))
      have y8 : wr.cell? ⟨y.g, 8, none⟩ = some (.slice (some ⟨gy, 0, none⟩) 1 cy) := by rw [← ey]; exact hoby.cell 8
      have CRy := Lib.hid (ref_c hly.tab (HRI.out d hdm))
      rw [ptrT_some hy] at CRy
      have CDy := Lib.hid (delf2_c s gy cy w.heap.size wr hny' hmy' hcy hthy (by rw [hsn]; exact q0))
      have HY8 := Lib.hid hoby.blk
      have HYG := Lib.hid hyg
      have HYZ := Lib.hid hygz
      have HNX := Lib.hid (fun (wb : World) (hb : Below wr.heap.size wr wb) => hly.next HND.out hd hy ey (by rw [hys]; rfl) hb)
      clear hly hd hdm hy hym hy1 hoby hos hcelly hcy hthy hcy0 hgyb hyg hygz hys hsn hpr hkr hc1 hg1 ey
      go_wp2_with fail
      refine CRy.out.mono ?_
      rintro e w7 ⟨rfl, rfl⟩
      go_wp2_with fail
      refine CDy.out.mono ?_
      rintro e w8 ⟨rfl, wb, hbb, hw8⟩
      obtain ⟨Tk', hnx⟩ := HNX.out wb hbb
      have hx8 : w8.heap[y.g]? = some (.cells y.cells 29 (0, 0)) := by
        rw [hw8]
        exact (setCells_other HYG.out _ _ _).trans ((hbb.block y.g HYZ.out).trans HY8.out)
      have z8 : w8.cell? ⟨y.g, 8, none⟩ = some y.sv := cell_of_row w8 y.g 8 _ _ _ hx8
      have zf8 : w8.frozen? ⟨y.g, 8, none⟩ = false := frozen_of_row w8 y.g 8 _ _ hx8
      rw [← hw8] at hnx
      have HNX2 := Lib.hid hnx
      clear hnx hx8 hw8 hbb HNX
      go_wp2_with fail
      go_roundg j
      case measure => omega
      case rel => exact ⟨i + 1, Tk', by go_num, by omega, HNX2.out⟩
    · obtain rfl : i = r.length := by omega
      have HLY := Lib.hid hly
      clear hly
      go_wp2_with fail
      go_ret
      refine ⟨rfl, Tk, HLY.out.tab, ?_, ?_⟩
      · have := HLY.out.ob
        rwa [List.take_length, HOB.out] at this
      · refine (HC2.out.mono (fun b _ hb => HXB.out b hb)).trans' ((Chg.of_below (S := fun b => b ∈ a :: m :: blkT T1) HB3.out).trans HLY.out.chg) ?_
        intro b _ hb
        rcases List.mem_cons.1 hb with rfl | hb
        · exact List.mem_cons_self ..
        rcases List.mem_cons.1 hb with rfl | hb
        · exact List.mem_cons_of_mem _ (List.mem_cons_self ..)
        · exact List.mem_cons_of_mem _ (List.mem_cons_of_mem _ (HBK.out b hb))
end Go.Proofs.YtnphgcbknfmapaaGreatDoor
namespace Go.Proofs.YtnphgcbknfmapaaGreatDoor
open Go.RowKit Go.Lib
set_option linter.unusedVariables false

def xN : ByteArray := ⟨#[120]⟩
def chO (i : Nat) (d : List ByteArray) (s : List SL) : OB := nO i ((i : Int) - 1) d s
def chB (n : Nat) : List OB := (List.range n).map fun i => chO i [] []
def chP (n : Nat) (s : Nat → SL) : List OB := (List.range n).map fun i => chO i (if i = 0 then [xN] else []) [s i]
def rI (n : Nat) : List Int := (List.range n).map fun (i : Nat) => (i : Int)
def upS (s : Nat → SL) (k : Nat) (t : SL) (i : Nat) : SL := if i = k then t else s i
def c0S (i : Nat) : SL := if i = 0 then sN xN 7 (-1) else ⟨xN, i, 7, true, 0, 0, ⟨#[]⟩⟩
theorem getO_out {f : Nat → OB} (hf : ∀ i, (f i).id = (i : Int)) (n : Nat) {k : Int} (h : k < 0 ∨ (n : Int) ≤ k) : getO ((List.range n).map f) k = none := by
  unfold getO
  rw [List.find?_eq_none]
  intro x hx
  obtain ⟨i, hi, rfl⟩ := List.mem_map.1 hx
  have := List.mem_range.1 hi
  rw [hf]
  simp
  omega
theorem getO_range {f : Nat → OB} (hf : ∀ i, (f i).id = (i : Int)) : ∀ (n k : Nat), k < n → getO ((List.range n).map f) (k : Int) = some (f k)
  | 0, k, h => by omega
  | n + 1, k, h => by
    rw [List.range_succ, List.map_append]
    show List.find? _ (_ ++ _) = _
    rw [List.find?_append]
    rcases Nat.lt_or_ge k n with hk | hk
    · have := getO_range hf n k hk
      unfold getO at this
      rw [this]
      rfl
    · obtain rfl : k = n := by omega
      have := getO_out hf k (k := (k : Int)) (.inr (Int.le_refl _))
      unfold getO at this
      rw [this]
      simp [hf]
theorem chP_get {n k : Nat} (s : Nat → SL) (h : k < n) : getO (chP n s) (k : Int) = some (chO k (if k = 0 then [xN] else []) [s k]) := getO_range (f := fun i => chO i (if i = 0 then [xN] else []) [s i]) (fun _ => rfl) n k h
theorem chB_get {n k : Nat} (h : k < n) : getO (chB n) (k : Int) = some (chO k [] []) := getO_range (f := fun i => chO i [] []) (fun _ => rfl) n k h
theorem chB_succ (n : Nat) : chB n ++ [newO ((n : Int) - 1) ((n : Int) - 1) (-1) []] = chB (n + 1) := by
  unfold chB
  rw [List.range_succ, List.map_append]
  congr 1
  show [newO _ _ _ _] = [chO n [] []]
  congr 1
  unfold newO chO nO
  simp
theorem chP_rep {n k : Nat} (s : Nat → SL) (h : k < n) (t : SL) : repO (chP n s) (k : Int) { chO k (if k = 0 then [xN] else []) [s k] with slots := [t] } = chP n (upS s k t) := by
  unfold repO chP
  rw [List.map_map]
  apply List.map_congr_left
  intro i hi
  simp only [Function.comp]
  by_cases e : i = k
  · subst e
    have : ((chO i (if i = 0 then [xN] else []) [s i]).id == (i : Int)) = true := by simp [chO, nO]
    rw [if_pos this]
    simp [chO, nO, upS]
  · have : ((chO i (if i = 0 then [xN] else []) [s i]).id == (k : Int)) = false := by simp [chO, nO]; omega
    rw [this]
    simp [chO, nO, upS, e]
theorem nine {n : Nat} (h2 : 2 ≤ n) (h10 : n ≤ 10) : n = 2 ∨ n = 3 ∨ n = 4 ∨ n = 5 ∨ n = 6 ∨ n = 7 ∨ n = 8 ∨ n = 9 ∨ n = 10 := by omega
theorem chB_below {n : Nat} (h2 : 2 ≤ n) (h10 : n ≤ 10) : belowO (chB n) 0 = some (rI n) := by
  rcases nine h2 h10 with rfl | rfl | rfl | rfl | rfl | rfl | rfl | rfl | rfl <;> decide +kernel
theorem rI_nodup (n : Nat) : (rI n).Nodup := by
  unfold rI List.Nodup
  rw [List.pairwise_map]
  exact List.Pairwise.imp (fun h e => by omega) List.pairwise_lt_range
set_option maxHeartbeats 4000000 in
theorem chP_below {n : Nat} (h2 : 2 ≤ n) (h10 : n ≤ 10) (s : Nat → SL) : belowO (repO (chP n s) 0 { chO 0 [xN] [s 0] with defs := [] }) 0 = some (rI n) := by
  rcases nine h2 h10 with rfl | rfl | rfl | rfl | rfl | rfl | rfl | rfl | rfl <;> rfl
set_option maxHeartbeats 4000000 in
theorem chP_gone {n : Nat} (h2 : 2 ≤ n) (h10 : n ≤ 10) (s : Nat → SL) : dlAll (repO (chP n s) 0 { chO 0 [xN] [s 0] with defs := [] }) (rI n) = chB n := by
  rcases nine h2 h10 with rfl | rfl | rfl | rfl | rfl | rfl | rfl | rfl | rfl <;> rfl
set_option maxHeartbeats 4000000 in
theorem chB_laid {n : Nat} (h2 : 2 ≤ n) (h10 : n ≤ 10) : layAll (repO (chB n) 0 { chO 0 [] [] with defs := [xN] }) ((rI n).zip ((List.range n).map c0S)) = chP n c0S := by
  rcases nine h2 h10 with rfl | rfl | rfl | rfl | rfl | rfl | rfl | rfl | rfl <;> rfl
theorem c0_next (k : Nat) : freshO (c0S k) ((k : Int) + 1) = c0S (k + 1) := by
  unfold c0S freshO sN
  cases k with
  | zero => rfl
  | succ j =>
    simp
def rrI : Nat → List Int
  | 0 => [0]
  | i + 1 => ((i + 1 : Nat) : Int) :: rrI i
/-- The slot that tells the value at the i-th. -/
def gsS (s : Nat → SL) : Nat → Option SL
  | 0 => if (s 0).clear then none else some (s 0)
  | i + 1 => if (s (i + 1)).clear then gsS s i else some (s (i + 1))
theorem abv_ch {n : Nat} (s : Nat → SL) : ∀ (i f : Nat), i < n → i < f → abvO (chP n s) f (i : Int) = rrI i
  | 0, f, hi, hf => by
    obtain ⟨g, rfl⟩ : ∃ g, f = g + 1 := ⟨f - 1, by omega⟩
    have := chP_get s hi
    rw [abvO, this]
    show (0 : Int) :: abvO (chP n s) g (-1) = [0]
    congr 1
    cases g with
    | zero => rfl
    | succ g => rw [abvO, show getO (chP n s) (-1) = none from getO_out (f := fun i => chO i (if i = 0 then [xN] else []) [s i]) (fun _ => rfl) n (.inl (by decide))]
  | i + 1, f, hi, hf => by
    obtain ⟨g, rfl⟩ : ∃ g, f = g + 1 := ⟨f - 1, by omega⟩
    have := chP_get s hi
    rw [abvO, this]
    show ((i + 1 : Nat) : Int) :: abvO (chP n s) g (((i + 1 : Nat) : Int) - 1) = rrI (i + 1)
    rw [show (((i + 1 : Nat) : Int) - 1) = (i : Int) from by omega, abv_ch s i g (by omega) (by omega)]
    rfl
theorem chP_above {n i : Nat} (s : Nat → SL) (h : i < n) : aboveO (chP n s) (i : Int) = rrI i := by
  unfold aboveO
  exact abv_ch s i _ h (by simp [chP]; omega)
theorem gv_ch {n : Nat} (s : Nat → SL) (hs : ∀ i, (s i).name = xN) : ∀ (i : Nat), i < n → gvO (chP n s) xN (rrI i) = gsS s i
  | 0, hi => by
    have := chP_get s hi
    rw [show ((0 : Nat) : Int) = 0 from rfl] at this
    rw [rrI, gvO, this, Option.bind_some, slO_one (f := s 0) rfl (hs 0)]
    show (if (s 0).clear = true then gvO (chP n s) xN [] else some (s 0)) = _
    rw [gvO]
    rfl
  | i + 1, hi => by
    have := chP_get s hi
    rw [rrI, gvO, this, Option.bind_some, slO_one (f := s (i + 1)) rfl (hs (i + 1))]
    show (if (s (i + 1)).clear = true then gvO (chP n s) xN (rrI i) else some (s (i + 1))) = _
    rw [gv_ch s hs i (by omega)]
    rfl
end Go.Proofs.YtnphgcbknfmapaaGreatDoor
namespace Go.Proofs.YtnphgcbknfmapaaGreatDoor
open Go.RowKit Go.Lib
set_option linter.unusedVariables false
set_option linter.unusedSimpArgs false

theorem map_range_get {α : Type} {f : Nat → α} {n i : Nat} {x : α} (h : ((List.range n).map f)[i]? = some x) : i < n ∧ x = f i := by
  rw [List.getElem?_map, Option.map_eq_some_iff] at h
  obtain ⟨k, hk, rfl⟩ := h
  have h1 := List.getElem?_eq_some_iff.1 hk
  have h2 : i < n := by simpa using h1.1
  have h3 : k = i := by have := h1.2; simpa using this.symm
  exact ⟨h2, by rw [h3]⟩
theorem map_range_at {α : Type} {f : Nat → α} {n i : Nat} (h : i < n) : ((List.range n).map f)[i]? = some (f i) := by
  rw [List.getElem?_map, List.getElem?_eq_getElem (by simpa using h)]
  simp
theorem c0_flat (i : Nat) : FlatS (c0S i) := by
  unfold c0S
  split
  · exact flat_sN _ _ (by decide) (by decide)
  · exact ⟨by show (0 : Int) ≤ 7; decide, by show (7 : Int) ≤ 7; decide, rfl, rfl⟩
theorem c0_name (i : Nat) : (c0S i).name = xN := by
  unfold c0S
  split <;> rfl
theorem xN_nm : nmB xN.data.toList = true ∧ biB xN = false := xname
section
variable {B a m : Nat} {w0 w w' : World} {l l' : List OB} {mx mx' o : Int} {K : List (Nat × Obj)} {x : OB} {n : Nat}
theorem chain_add (h2 : 2 ≤ n) (h10 : n ≤ 10) (h : LS B w0 w a m (chB n) mx K) :
    Calls Tryz.prog 26 #[.pointer (some ⟨a, 0, none⟩), .int .i64 0, addV xN 0 7 (-1)] w fun e w' => e = .returned (.int .i64 0) ∧ LS B w0 w' a m (chP n c0S) mx K := by
  have hlr : (rI n).length = n := by simp [rI]
  refine (add_L h (x := chO 0 [] []) ⟨by omega, by omega⟩ (chB_get (k := 0) (by omega)) xN 0 7 (-1) (by decide) xN_nm.1 xN_nm.2 rfl (r := rI n) (chB_below h2 h10) ?_ (by omega) ?_ (rI_nodup n) (fs := (List.range n).map c0S) (by simp [rI]) ?_ ?_ ?_ ⟨by omega, by omega⟩ (hasO_of (chB_get (k := 0) (by omega))) (by decide) (by decide) rfl).mono ?_
  · intro d hd
    obtain ⟨i, hi, rfl⟩ := List.mem_map.1 hd
    have := List.mem_range.1 hi
    exact ⟨by omega, by omega⟩
  · intro d hd
    obtain ⟨i, hi, rfl⟩ := List.mem_map.1 hd
    exact ⟨_, chB_get (List.mem_range.1 hi), rfl⟩
  · intro f hf
    obtain ⟨i, hi, rfl⟩ := List.mem_map.1 hf
    exact c0_flat i
  · intro f hf
    obtain ⟨i, hi, rfl⟩ := List.mem_map.1 hf
    exact c0_name i
  · intro i d f h1 h3
    obtain ⟨hi, rfl⟩ := map_range_get h1
    obtain ⟨_, rfl⟩ := map_range_get h3
    cases i with
    | zero => exact .inl ⟨rfl, rfl⟩
    | succ k =>
      refine .inr ⟨by omega, _, chB_get hi, ⟨?_, ?_⟩, k, by omega, ?_, _, map_range_at (by omega), ?_⟩
      · show -9223372036854775808 ≤ ((k + 1 : Nat) : Int) - 1
        omega
      · show ((k + 1 : Nat) : Int) - 1 ≤ 9223372036854775807
        omega
      · show (rI n)[k]? = some (((k + 1 : Nat) : Int) - 1)
        unfold rI
        rw [map_range_at (by omega)]
        congr 1
        omega
      · show c0S (k + 1) = freshO (c0S k) (((k + 1 : Nat) : Int))
        rw [← c0_next k]
        rfl
  · rintro e w' ⟨rfl, h'⟩
    exact ⟨rfl, by rw [← chB_laid h2 h10]; exact h'⟩
/-- The table behind a property's end. -/
def LT (B : Nat) (w0 w : World) (a m : Nat) (l : List OB) (mx : Int) : Prop := ∃ T, Tab w B a m T mx ∧ obT T = l ∧ Below B w0 w
theorem chain_delete (h2 : 2 ≤ n) (h10 : n ≤ 10) {s : Nat → SL} (hs : ∀ i, (s i).name = xN) (h : LS B w0 w a m (chP n s) mx K) :
    Calls Tryz.prog 28 #[.pointer (some ⟨a, 0, none⟩), .int .i64 0, .string xN] w fun e w' => e = .returned (.int .i64 0) ∧ LT B w0 w' a m (chB n) mx := by
  obtain ⟨T, ht, hl, h0, hK⟩ := h
  obtain ⟨y, hy, hyo⟩ := findT_of_getO (T := T) (d := 0) (x := chO 0 [xN] [s 0]) (by rw [hl]; exact chP_get (k := 0) s (by omega))
  have hlr : (rI n).length = n := by simp [rI]
  refine (delete_ok ht ⟨by omega, by omega⟩ hy xN (r := rI n) (by rw [hyo, hl]; exact chP_below h2 h10 s) ?_ (by omega) (rI_nodup n) (by rw [hyo]; rfl) ?_).mono ?_
  · intro d hd
    obtain ⟨i, hi, rfl⟩ := List.mem_map.1 hd
    have := List.mem_range.1 hi
    exact ⟨by omega, by omega⟩
  · intro d hd
    obtain ⟨i, hi, rfl⟩ := List.mem_map.1 hd
    obtain ⟨z, hz, hzo⟩ := findT_of_getO (T := T) (d := (i : Int)) (by rw [hl]; exact chP_get s (List.mem_range.1 hi))
    exact ⟨z, s i, hz, by rw [hzo]; rfl, hs i⟩
  · rintro e w' ⟨rfl, T', ht', hl', hc⟩
    refine ⟨rfl, T', ht', ?_, h0.trans (hc.below ht.baseB fun i hi => ht.tab.base i hi)⟩
    rw [hl', hyo, hl]
    exact chP_gone h2 h10 s
theorem LT.below (h : LT B w0 w a m l mx) (hb : Below w.heap.size w w') : LT B w0 w' a m l mx := by
  obtain ⟨T, ht, hl, h0⟩ := h
  have hB : B ≤ w.heap.size := by
    have h1 := ht.base a (List.mem_cons_self ..)
    have h2 := ht.lt a (List.mem_cons_self ..)
    omega
  exact ⟨T, ht.below hb, hl, h0.trans (hb.mono hB)⟩
theorem chain_gone (h : LT B w0 w a m (chB n) mx) {k : Nat} (hk : k < n) (h10 : n ≤ 10) :
    Calls Tryz.prog 21 #[.pointer (some ⟨a, 0, none⟩), .int .i64 (k : Int), .string xN] w fun e w' => e = .returned (.tuple #[.agg #[.int .i64 0, .int .i64 0, .string ⟨#[]⟩, .slice none 0 0], .int .i64 4]) ∧ LT B w0 w' a m (chB n) mx := by
  have H := h
  obtain ⟨T, ht, hl, h0⟩ := h
  obtain ⟨y, hy, hyo⟩ := findT_of_getO (T := T) (d := (k : Int)) (by rw [hl]; exact chB_get hk)
  refine (get_gone ht ⟨by omega, by omega⟩ hy (fun z hz => ?_) xN xN_nm.2 (by rw [hyo]; rfl)).mono ?_
  · have hz' : z.o ∈ chB n := by rw [← hl]; exact List.mem_map.2 ⟨z, hz, rfl⟩
    obtain ⟨i, hi, e⟩ := List.mem_map.1 hz'
    have := List.mem_range.1 hi
    rw [← e]
    exact ⟨by show -9223372036854775808 ≤ (i : Int) - 1; omega, by show (i : Int) - 1 ≤ 9223372036854775807; omega⟩
  · rintro e w' ⟨rfl, hb⟩
    exact ⟨rfl, H.below hb⟩
/-- Whose property it is, when nobody has it. -/
theorem holder_gone {T : List OM} (h : Tab w B a m T mx) (hpi : ParI T) {y : OM} (hy : findT T 0 = some y) (hd : y.o.defs = []) (hab : aboveO (obT T) 0 = [0]) (n : ByteArray) :
    Calls Tryz.prog 97 #[.pointer (some ⟨a, 0, none⟩), .int .i64 0, .string n] w fun e w' => e = .returned (.int .i64 (-1)) ∧ Below w.heap.size w w' := by
  have CA := Lib.hid (above_c h (o := 0) ⟨by omega, by omega⟩ hpi)
  rw [hab] at CA
  have H := Lib.hid h
  have HY := Lib.hid hy
  have HD := Lib.hid hd
  clear h hy hd hab hpi
  go_enter Tryz.func97, Tryz.ntmps97
  go_wp2_with fail
  refine CA.out.mono ?_
  rintro e w1 ⟨V, rfl, hrow, hb1⟩
  obtain ⟨A, c, rfl, hnc, hcm, hA, hcell⟩ := own_formO hrow
  obtain ⟨g1, rfl, hc1⟩ := hcell 0 (.int .i64 0) rfl
  have ht1 := H.out.below hb1
  have c0 := ht1.c0
  have hl := ht1.look (o := 0) ⟨by omega, by omega⟩
  rw [ptrT_some HY.out] at hl
  have hob := ht1.objs y (findT_some HY.out).1
  have hod := hob.defs
  rw [HD.out] at hod
  obtain ⟨A7, c7, e7, _, _, _, _⟩ := own_formO hod
  replace e7 : y.dv = .slice A7 0 c7 := e7
  have y7 : w1.cell? ⟨y.g, 7, none⟩ = some (.slice A7 0 c7) := by rw [← e7]; exact hob.cell 7
  have CC := Lib.hid (Tryz.slices_Contains_string_empty A7 c7 n w1)
  have HB1 := Lib.hid hb1
  unfold maxLen at hcm
  clear hb1 hrow hcell ht1 hob hod e7
  go_wp2_with fail
  refine wp_loop_rounds 2 ?_
  rw [rounds_succ]
  go_wp2_with fail
  refine CC.out.mono ?_
  rintro e w2 ⟨rfl, rfl⟩
  go_wp2_with fail
  rw [rounds_succ]
  go_wp2_with fail
  go_ret
  exact ⟨rfl, HB1.out⟩
theorem chain_holder (h2 : 2 ≤ n) (h10 : n ≤ 10) (h : LT B w0 w a m (chB n) mx) :
    Calls Tryz.prog 29 #[.pointer (some ⟨a, 0, none⟩), .int .i64 0, .string xN] w fun e w' => e = .returned (.int .i64 (-1)) ∧ LT B w0 w' a m (chB n) mx := by
  have H := Lib.hid h
  obtain ⟨T, ht, hl, h0⟩ := h
  obtain ⟨y, hy, hyo⟩ := findT_of_getO (T := T) (d := 0) (by rw [hl]; exact chB_get (k := 0) (by omega))
  have CH := Lib.hid (holder_gone ht (fun z hz => by
    have hz' : z.o ∈ chB n := by rw [← hl]; exact List.mem_map.2 ⟨z, hz, rfl⟩
    obtain ⟨i, hi, e⟩ := List.mem_map.1 hz'
    have := List.mem_range.1 hi
    rw [← e]
    exact ⟨by show -9223372036854775808 ≤ (i : Int) - 1; omega, by show (i : Int) - 1 ≤ 9223372036854775807; omega⟩) hy (by rw [hyo]; rfl) (by
    rw [hl]
    rcases nine h2 h10 with rfl | rfl | rfl | rfl | rfl | rfl | rfl | rfl | rfl <;> rfl) xN)
  clear h0 hy hl ht hyo
  generalize xN = nn at CH ⊢
  go_enter Tryz.func29, Tryz.ntmps29
  go_wp2_with fail
  refine (show Calls Tryz.prog 73 #[.pointer (some ⟨a, 0, none⟩), .int .i64 0, .string nn] w (fun e w' => e = .returned (.int .i64 (-1)) ∧ Below w.heap.size w w') from ?_).mono ?_
  · clear H
    go_enter Tryz.func73, Tryz.ntmps73
    go_wp2_with fail
    refine CH.out.mono ?_
    rintro e w1 ⟨rfl, hb⟩
    have HB := Lib.hid hb
    clear hb
    go_wp2_with fail
    go_ret
    exact ⟨rfl, HB.out⟩
  · rintro e w1 ⟨rfl, hb⟩
    have HB := Lib.hid hb
    clear hb
    go_wp2_with fail
    go_ret
    exact ⟨rfl, H.out.below HB.out⟩
/-- A cell of the law's own, set. -/
theorem LS.poke {g j : Nat} {ob ob' : Obj} {v : Value} (h : LS B w0 w a m l mx ((g, ob) :: K)) (hne : ∀ p ∈ K, p.1 ≠ g) (hB : B ≤ g) (hr : (w.setCell ⟨g, j, none⟩ v).heap[g]? = some ob') : LS B w0 (w.setCell ⟨g, j, none⟩ v) a m l mx ((g, ob') :: K) := by
  obtain ⟨T, ht, hl, h0, hK⟩ := h
  have hg := (hK _ (List.mem_cons_self ..)).2
  have hk : ∀ b, b ≠ g → (w.setCell ⟨g, j, none⟩ v).heap[b]? = w.heap[b]? := fun b hb => Below.heap_setCell _ _ _ _ hb
  refine ⟨T, ⟨ht.tab.keep fun b hb => hk b (fun e => hg (by rw [← e]; exact hb)), ht.ok, ht.flat, ht.bare⟩, hl, h0.setCell (p := ⟨g, j, none⟩) hB v, fun p hp => ?_⟩
  rcases List.mem_cons.1 hp with rfl | hp
  · exact ⟨hr, hg⟩
  · obtain ⟨h1, h2⟩ := hK p (List.mem_cons_of_mem _ hp)
    exact ⟨(hk p.1 (hne p hp)).trans h1, h2⟩
theorem LS.swap {p q : Nat × Obj} (h : LS B w0 w a m l mx [p, q]) : LS B w0 w a m l mx [q, p] := by
  obtain ⟨T, ht, hl, h0, hK⟩ := h
  exact ⟨T, ht, hl, h0, fun z hz => hK z (by simp at hz ⊢; exact hz.symm)⟩
end
end Go.Proofs.YtnphgcbknfmapaaGreatDoor
