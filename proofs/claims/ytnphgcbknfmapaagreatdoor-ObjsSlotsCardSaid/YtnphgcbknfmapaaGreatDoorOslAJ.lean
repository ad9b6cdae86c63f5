/- Contracts of the functions that the statement reaches, and the plain mathematics beneath: several texts joined. -/
import Derived.Laws.IdiomStrings
import Derived.Test.YtnphgcbknfmapaaGreatDoorOslAI
import Derived.Test.YtnphgcbknfmapaaGreatDoorOslAF
import Derived.Test.YtnphgcbknfmapaaGreatDoorOslAE
import Derived.Test.YtnphgcbknfmapaaGreatDoorOslAD
namespace Go.Proofs.YtnphgcbknfmapaaGreatDoor
open Go.RowKit Go.Lib
set_option linter.unusedVariables false
section
variable {B a m : Nat} {w0 w w' : World} {l l' : List OB} {mx mx' o : Int} {K : List (Nat × Obj)} {x : OB}

theorem load_L {gl cap : Nat} (xs : List OM) (hin : RowsIn w gl xs) (hn : xs.length ≤ 512) (hok : OkS (obT xs) mx) (hlast : lastO (obT xs) xs.length = mx) (hmx : mx < 1073741824) (hfair : ∀ x ∈ xs, FairO (obT xs) x.o) :
    Calls Tryz.prog 11 #[.slice (some ⟨gl, 0, none⟩) xs.length cap] w fun e w' => ∃ a m, e = .returned (.tuple #[.pointer (some ⟨a, 0, none⟩), .nilIface]) ∧ LS w.heap.size w w' a m (obT xs) mx [] := by
  refine (load_c (cap := cap) xs hin hn hok hlast hmx hfair).mono ?_
  rintro e w' ⟨a, m, T, rfl, ht, ho, hb⟩
  exact ⟨a, m, rfl, T, ht, ho, hb, fun p hp => nomatch hp⟩
theorem getR_L (h : LS B w0 w a m l mx K) (ho : I64 o) (hx : getO l o = some x) (hdl : x.defs.length ≤ 1000) (hsl : x.slots.length ≤ 1000) :
    Calls Tryz.prog 13 #[.pointer (some ⟨a, 0, none⟩), .int .i64 o] w fun e w' => ∃ A2 c2 A3 c3, e = .returned (.tuple #[.agg #[.int .i64 x.id, .int .i64 x.parent, .int .i64 x.owner, .int .i64 x.place, .int .i64 x.flags, .int .i64 x.quota, .string x.name, .slice A2 x.defs.length c2, .slice A3 x.slots.length c3, .slice none 0 0], .bool true]) ∧ CpO w w' x (.slice A2 x.defs.length c2) (.slice A3 x.slots.length c3) ∧ LS B w0 w' a m l mx K := by
  have H := h
  obtain ⟨T, ht, rfl, h0, hK⟩ := h
  obtain ⟨y, hy, rfl⟩ := findT_of_getO hx
  refine (get_r ht ho hy hdl hsl).mono ?_
  rintro e w' ⟨A2, c2, A3, c3, rfl, hc⟩
  exact ⟨A2, c2, A3, c3, rfl, hc, H.below hc.below⟩
theorem okS_parI {T : List OM} (h : OkS (obT T) mx) (hm : mx < 1073741824) : ParI T := fun y hy => h.num hm (h.par (List.mem_map_of_mem hy))
theorem chparN_L (h : LS B w0 w a m l mx K) (ho : I64 o) (hx : getO l o = some x) (hb : belowO l o = some [o]) (hd : x.defs = []) (hsl : x.slots.length ≤ 1000) (hdl : ∀ y ∈ l, y.defs.length ≤ 1000)
    (hnm : ∀ s ∈ x.slots, s.name.size ≤ 1000 ∧ hldO l s.name o ≠ -1 ∧ I64 (hldO l s.name o)) :
    Calls Tryz.prog 14 #[.pointer (some ⟨a, 0, none⟩), .int .i64 o, .int .i64 (-1)] w fun e w' => e = .returned (.int .i64 0) ∧ LS B w0 w' a m (repO l o { x with parent := -1, slots := [] }) mx K := by
  obtain ⟨T, ht, rfl, h0, hK⟩ := h
  obtain ⟨y, hy, rfl⟩ := findT_of_getO hx
  have hpi : ParI T := okS_parI ht.ok ht.tab.mxr.2
  have hN := getO_none' ht.tab.neg
  have hab : aboveO (obT T) (-1) = [] := above_none hN
  refine (chpar_an (R := fun W w' => ∃ T', StS W w' B a m T T' mx mx ∧ obT T' = repO (obT T) o { y.o with parent := -1, slots := [] }) ht ho hy hb hd hpi ?_ ?_ ?_ fun W hW => under_a (ht.keep hW) ho hy hb hd hsl (fun z hz => hdl z.o (List.mem_map_of_mem hz)) hpi hnm).mono ?_
  · unfold isO
    rw [hab]
    rfl
  · unfold nmO
    rw [hab]
    exact Nat.zero_le _
  · unfold nmO
    rw [hab]
    unfold RiseS
    simp [nmR, lstsO]
  · rintro e w' ⟨rfl, W, hW, T', hs, ho'⟩
    exact ⟨rfl, ls_at ht h0 hK hW hs ho'⟩
end
end Go.Proofs.YtnphgcbknfmapaaGreatDoor
namespace Go.Proofs.YtnphgcbknfmapaaGreatDoor
open Go.RowKit Go.Lib
set_option linter.unusedVariables false
set_option linter.unusedSimpArgs false

theorem conv_one (w : World) (i : Nat) (hi : i < 12) (c : UInt8) (hc : c = (97 + i).toUInt8) :
    (convert 30 9 (.slice (some ⟨w.heap.size, 0, none⟩) 1 1)).run Tryz.prog (w.alloc (.cells #[.int .u8 (97 + (i : Int))] 5)) = .ok (.string ⟨#[c]⟩) (w.alloc (.cells #[.int .u8 (97 + (i : Int))] 5)) := by
  refine run_convert_bytes_back _ _ _ 5 ⟨w.heap.size, 0, none⟩ 1 [c] Tryz.underlying30 Tryz.underlying5 Tryz.underlying9 (fun j hj => ?_)
  obtain rfl : j = 0 := by simpa using hj
  show (w.alloc (.cells #[.int .u8 (97 + (i : Int))] 5)).cell? ⟨w.heap.size, 0 + 0, none⟩ = some (.int .u8 (c.toNat : Int))
  rw [cell_of_row _ _ 0 _ _ _ (heap_alloc_new w _), hc]
  simp
  omega
theorem nmP_sum (i : Nat) (c : UInt8) (hc : c = (97 + i).toUInt8) : (({ data := #[112] } : ByteArray) ++ { data := #[c] }) = nmP i := by
  rw [hc]
  rfl
set_option maxRecDepth 100000 in
theorem slots_many (bits : List Int) (A1 : Option Addr) (c1 : Nat) (ow0 : Int) (w : World) (hn : ¬ bits.length ≤ 12) :
    Calls Tryz.prog 3 #[.slice A1 bits.length c1, .int .i64 ow0] w fun e w' => e = .returned (.bool true) ∧ Below w.heap.size w w' := by
  have CF := Lib.hid (ofirst_c w)
  go_enter Tryz.func3, Tryz.ntmps3
  go_wp2_with fail
  refine CF.out.mono ?_
  rintro e w1 ⟨rfl, hb1⟩
  have HB1 := Lib.hid hb1
  clear hb1
  go_wp2_with fail
  go_ret
  exact ⟨rfl, HB1.out⟩

/-- Rows of two sorts lie in blocks of their own. -/
theorem own_apart {w : World} {B B' n n' : Nat} {v v' : Value} {xs xs' : List Value} (h : w.ownsRow B 9 1 v n xs) (h' : w.ownsRow B' 35 8 v' n' xs') : ∀ b, v.ownBlock = some b → ¬ v'.ownBlock = some b := by
  intro b hb hb'
  rcases h.2 with ⟨rfl, _⟩ | ⟨g, cap, cur, rfl, _, hh, _⟩
  · cases hb
  · rcases h'.2 with ⟨rfl, _⟩ | ⟨g', cap', cur', rfl, _, hh', _⟩
    · cases hb'
    · have e : g = b := by simpa [Value.ownBlock] using hb
      have e' : g' = b := by simpa [Value.ownBlock] using hb'
      subst e
      subst e'
      rw [hh] at hh'
      injection hh' with hh'
      injection hh' with _ hh' _
      exact absurd hh' (by decide)
theorem chP_len (l : List Int) (ow : Int) : (chP l ow).slots.length = l.length := by
  show ((slL 0 l).map _).length = l.length
  rw [List.length_map, slL_len]
/-- The child, as it is told. -/
theorem child_L {B a m : Nat} {w0 w : World} {K : List (Nat × Obj)} {bits : List Int} {ow : Int} (h : LS B w0 w a m [obP bits, chP bits ow] 1 K) (how : 0 ≤ ow) (hn : bits.length ≤ 12) :
    Calls Tryz.prog 13 #[.pointer (some ⟨a, 0, none⟩), .int .i64 1] w fun e w' => ∃ A2 c2 A3 c3, e = .returned (.tuple #[.agg #[.int .i64 1, .int .i64 0, .int .i64 ow, .int .i64 (-1), .int .i64 0, .int .i64 0, .string ⟨#[]⟩, .slice A2 0 c2, .slice A3 bits.length c3, .slice none 0 0], .bool true]) ∧ CpO w w' (chP bits ow) (.slice A2 0 c2) (.slice A3 bits.length c3) ∧ LS B w0 w' a m [obP bits, chP bits ow] 1 K := by
  refine (getR_L (o := 1) (x := chP bits ow) h ⟨by omega, by omega⟩ rfl (by exact Nat.zero_le _) (by rw [chP_len]; omega)).mono ?_
  rintro e w' ⟨A2, c2, A3, c3, rfl, hc, hl⟩
  rw [chP_len] at hc
  refine ⟨A2, c2, A3, c3, ?_, hc, hl⟩
  rw [chP_len]
  have hown : (chP bits ow).owner = ow := by show (if ow = -1 then (0 + 1 : Int) else ow) = ow; rw [if_neg (by omega)]
  rw [hown]
  rfl
/-- The child, put under none. -/
theorem childN_L {B a m : Nat} {w0 w : World} {K : List (Nat × Obj)} {bits : List Int} {ow : Int} (h : LS B w0 w a m [obP bits, chP bits ow] 1 K) (how : 0 ≤ ow) (hn : bits.length ≤ 12) :
    Calls Tryz.prog 14 #[.pointer (some ⟨a, 0, none⟩), .int .i64 1, .int .i64 (-1)] w fun e w' => e = .returned (.int .i64 0) ∧ LS B w0 w' a m [obP bits, { chP bits ow with parent := -1, slots := [] }] 1 K := by
  refine (chparN_L (o := 1) (x := chP bits ow) h ⟨by omega, by omega⟩ rfl (below_ch1 bits ow) rfl (by rw [chP_len]; omega) ?_ ?_).mono ?_
  · intro y hy
    simp only [List.mem_cons, List.not_mem_nil, or_false] at hy
    rcases hy with rfl | rfl
    · show (nmL bits.length).length ≤ 1000; rw [nmL_len]; omega
    · exact Nat.zero_le _
  · intro s hs
    have h0 := hld_ch hn s hs
    refine ⟨?_, by rw [h0]; omega, by rw [h0]; exact ⟨by omega, by omega⟩⟩
    obtain ⟨u, hu, rfl⟩ := List.mem_map.1 hs
    obtain ⟨i, b, _, rfl⟩ := mem_slL hu
    show 2 ≤ 1000
    omega
  · rintro e w' ⟨rfl, hl⟩
    exact ⟨rfl, hl⟩
/-- .. and told again. -/
theorem childG_L {B a m : Nat} {w0 w : World} {K : List (Nat × Obj)} {bits : List Int} {ow : Int} (h : LS B w0 w a m [obP bits, { chP bits ow with parent := -1, slots := [] }] 1 K) :
    Calls Tryz.prog 13 #[.pointer (some ⟨a, 0, none⟩), .int .i64 1] w fun e w' => ∃ A2 c2 A3 c3, e = .returned (.tuple #[.agg #[.int .i64 1, .int .i64 (-1), .int .i64 (chP bits ow).owner, .int .i64 (-1), .int .i64 0, .int .i64 0, .string ⟨#[]⟩, .slice A2 0 c2, .slice A3 0 c3, .slice none 0 0], .bool true]) ∧ LS B w0 w' a m [obP bits, { chP bits ow with parent := -1, slots := [] }] 1 K := by
  refine (getR_L (o := 1) (x := { chP bits ow with parent := -1, slots := [] }) h ⟨by omega, by omega⟩ rfl (by exact Nat.zero_le _) (by exact Nat.zero_le _)).mono ?_
  rintro e w' ⟨A2, c2, A3, c3, rfl, _, hl⟩
  exact ⟨A2, c2, A3, c3, rfl, hl⟩
theorem bit_fresh (q ow : Int) (h0 : 0 ≤ q) (h7 : q ≤ 7) : (Go.bits .and .i64 q 4 = 4 ∧ (if q.toNat &&& 4 ≠ 0 then ow else 5) = ow) ∨ (Go.bits .and .i64 q 4 = 0 ∧ (if q.toNat &&& 4 ≠ 0 then ow else 5) = 5) := by
  have hc : q = 0 ∨ q = 1 ∨ q = 2 ∨ q = 3 ∨ q = 4 ∨ q = 5 ∨ q = 6 ∨ q = 7 := by omega
  rcases hc with rfl | rfl | rfl | rfl | rfl | rfl | rfl | rfl
  · exact .inr ⟨by decide, rfl⟩
  · exact .inr ⟨by decide, rfl⟩
  · exact .inr ⟨by decide, rfl⟩
  · exact .inr ⟨by decide, rfl⟩
  · exact .inl ⟨by decide, rfl⟩
  · exact .inl ⟨by decide, rfl⟩
  · exact .inl ⟨by decide, rfl⟩
  · exact .inl ⟨by decide, rfl⟩
/-- A row's cells. -/
theorem row_at {W w : World} {B n c i : Nat} {A : Option Addr} {ss : List SL} {s : SL} (h : w.ownsRow B 35 8 (.slice A n c) n (ss.flatMap SL.cells)) (hs : ss[i]? = some s) (hb : Below w.heap.size w W) : ∃ g, A = some ⟨g, 0, none⟩ ∧ g < w.heap.size ∧ ∀ j, j < 8 → ∀ u, s.cells[j]? = some u → W.cell? ⟨g, i * 8 + j, none⟩ = some u := by
  obtain ⟨A2, C2, hv, _, _, _, hcell⟩ := own_formO h
  injection hv with e1 _ e2
  subst e1
  obtain ⟨g, e, _⟩ := hcell (i * 8 + 0) (.string s.name) (by rw [slCells_at _ _ _ 0 hs (by omega)]; rfl)
  have hg := (h.lt g (by rw [e]; rfl)).2
  refine ⟨g, e, hg, fun j hj u hu => ?_⟩
  obtain ⟨g4, e2, hc⟩ := hcell (i * 8 + j) u (by rw [slCells_at _ _ _ j hs hj]; exact hu)
  rw [e] at e2
  injection e2 with e2
  injection e2 with e2 _ _
  subst e2
  exact (hb.cell (p := ⟨g, i * 8 + j, none⟩) hg).trans hc
/-- The object as the law builds it: its block, its rows of names and of properties. -/
structure BuI (w1 wr : World) (i : Nat) (bits : List Int) (dv sv : Value) : Prop where
  blk : wr.heap[w1.heap.size]? = some (.cells #[.int .i64 0, .int .i64 (-1), .int .i64 0, .int .i64 (-1), .int .i64 0, .int .i64 0, .string ⟨#[]⟩, dv, sv, .slice none 0 0] 29 (0, 0))
  defs : wr.ownsRow (w1.heap.size + 1) 9 1 dv i (strsO (nmL i))
  slots : wr.ownsRow (w1.heap.size + 1) 35 8 sv i (((slL 0 bits).take i).flatMap SL.cells)
  nil : i = 0 → dv = .slice none 0 0
  nils : i = 0 → sv = .slice none 0 0
  below : Below w1.heap.size w1 wr

set_option maxRecDepth 100000 in
set_option maxHeartbeats 4000000 in
theorem slots_few (bits : List Int) (A1 : Option Addr) (c1 : Nat) (ow0 : Int) (w : World) (hn : bits.length ≤ 12) (hb : ArgI w A1 bits) (how : I64 ow0) :
    Calls Tryz.prog 3 #[.slice A1 bits.length c1, .int .i64 ow0] w fun e w' => e = .returned (.bool true) ∧ Below w.heap.size w w' := by
  obtain ⟨i0, hi0, hz0, hz1, hz2⟩ := info_parts slot_info
  obtain ⟨i1, hi1, hy0, hy1, hy2⟩ := info_parts ostr_info
  have CF := Lib.hid (ofirst_c w)
  have HARG := Lib.hid hb
  obtain ⟨ow, hoq⟩ : ∃ ow, ow = ow0 % 9 := ⟨_, rfl⟩
  have how0 : 0 ≤ ow := by rw [hoq]; exact Int.emod_nonneg _ (by omega)
  have how9 : ow < 9 := by rw [hoq]; exact Int.emod_lt_of_pos _ (by omega)
  have CW := Lib.hid (fun W => onumber_c ow0 9 W how (by omega) (by omega))
  rw [← hoq] at CW
  clear hb hoq how
  go_enter Tryz.func3, Tryz.ntmps3
  go_wp2_with fail
  refine CF.out.mono ?_
  rintro e w1 ⟨rfl, hb1⟩
  have HB1 := Lib.hid hb1
  clear hb1 CF
  go_wp2_with fail
  refine (CW.out _).mono ?_
  rintro e w1' ⟨rfl, rfl⟩
  have HBU0 := Lib.hid (show BuI w1 (w1.alloc (.cells #[.int .i64 0, .int .i64 (-1), .int .i64 0, .int .i64 (-1), .int .i64 0, .int .i64 0, .string ⟨#[]⟩, .slice none 0 0, .slice none 0 0, .slice none 0 0] 29)) 0 bits (.slice none 0 0) (.slice none 0 0) from
    ⟨heap_alloc_new w1 _, World.ownsRow_nil _ _ _ _, World.ownsRow_nil _ _ _ _, (fun _ => rfl), (fun _ => rfl), (Below.refl _ _).alloc (Nat.le_refl _) _⟩)
  go_wp2_with fail
  go_loopg [7] bits.length (fun kk iv wr => ∃ (i : Nat) (dv sv : Value), iv = .int .i64 (i : Int) ∧ i + kk = bits.length ∧ BuI w1 wr i bits dv sv)
  case atStart => exact ⟨0, _, _, rfl, by omega, HBU0.out⟩
  case round =>
    obtain ⟨i, dv, sv, rfl, hik, hbu⟩ := hrel
    by_cases hi : i < bits.length
    · obtain ⟨j, rfl⟩ : ∃ j, gk = j + 1 := ⟨gk - 1, by omega⟩
      obtain ⟨b, hbi⟩ : ∃ b, bits[i]? = some b := ⟨bits[i], List.getElem?_eq_some_iff.2 ⟨hi, rfl⟩⟩
      have HBI := Lib.hid hbi
      obtain ⟨c, hc⟩ : ∃ c : UInt8, c = (97 + i).toUInt8 := ⟨_, rfl⟩
      have hcv := conv_one wr i (by omega) c hc
      have hsum := nmP_sum i c hc
      obtain ⟨Ad, cd, rfl⟩ : ∃ A C, dv = .slice A i C := by obtain ⟨A, C, e, _⟩ := own_formO hbu.defs; exact ⟨A, C, e⟩
      obtain ⟨As, cs, rfl⟩ : ∃ A C, sv = .slice A i C := by obtain ⟨A, C, e, _⟩ := own_formO hbu.slots; exact ⟨A, C, e⟩
      obtain ⟨wa, hwa⟩ : ∃ wa, wa = wr.alloc (.cells #[.int .u8 (97 + (i : Int))] 5) := ⟨_, rfl⟩
      have hba : Below wr.heap.size wr wa := by rw [hwa]; exact (Below.refl _ _).alloc (Nat.le_refl _) _
      have hzw : w1.heap.size < wr.heap.size := (Array.getElem?_eq_some_iff.1 hbu.blk).1
      have hga := (hba.block _ hzw).trans hbu.blk
      have q7 := cell_of_row wa _ 7 _ _ _ hga
      have HDA := Lib.hid (own_keepO hbu.defs hba)
      have HSA := Lib.hid (own_keepO hbu.slots hba)
      have HWA := Lib.hid hwa
      have HGA := Lib.hid hga
      have HBA := Lib.hid hba
      have HBU := Lib.hid hbu
      have HIC := Lib.hid (show i < 12 by omega)
      clear hc hga hba hwa hbu
      go_upto_region 12 with fail
      rw [← HWA.out]
      clear hcv hsum
      go_upto_region 13 with (at_builtin; refine wpList_append_own _ rfl (.tmp 47) (.tmp 49) 25 rfl (w1.heap.size + 1) 9 i1 (.string ⟨#[]⟩) 1 16 Tryz.underlying25 hi1 hy0 hy1 hy2 rfl (by decide) (.slice Ad i cd) i (strsO (nmL i)) rfl (own_keepO HDA.out ((Below.refl _ _).alloc (Nat.le_refl _) _)) ⟨wa.heap.size, 0, none⟩ 1 1 [.string (nmP i)] rfl rfl ?c1 ?c2 ?c3 ?c4 ?c5 ?c6
                              case c1 => exact cell_one_new _ _ _
                              case c2 => intro u hu; simp at hu; subst hu; rfl
                              case c3 => unfold maxLen; have := HIC.out; omega
                              case c4 => have := HIC.out; omega
                              case c5 => have := HBA.out.size; simp; omega
                              intro v' w11 hown' hgrow hat
                              obtain ⟨Av, cv, rfl⟩ : ∃ A C, v' = .slice A (i + 1) C := by obtain ⟨A, C, e, _⟩ := own_formO hown'; exact ⟨A, C, e⟩
                              have hb11 : w1.heap.size < wa.heap.size := by have := HBA.out.size; omega
                              have hr11 : w11.heap[w1.heap.size]? = some (.cells #[.int .i64 0, .int .i64 (-1), .int .i64 0, .int .i64 (-1), .int .i64 0, .int .i64 0, .string ⟨#[]⟩, .slice Ad i cd, .slice As i cs, .slice none 0 0] 29 (0, 0)) := (hgrow.block _ (by simp; omega) (fun e => by have := (HDA.out.lt _ e.symm).1; omega)).trans (((Below.refl wa.heap.size wa).alloc (Nat.le_refl _) _).block _ hb11 |>.trans HGA.out)
                              have f7 : w11.frozen? ⟨w1.heap.size, 7, none⟩ = false := frozen_of_row w11 _ 7 _ _ hr11
                              have k7 : w11.cell? ⟨w1.heap.size, 7, none⟩ = some (.slice Ad i cd) := cell_of_row w11 _ 7 _ _ _ hr11
                              have HR11 := Lib.hid hr11
                              have HO11 := Lib.hid hown'
                              have HG11 := Lib.hid hgrow
                              clear hown' hgrow hat hr11)
      obtain ⟨w12, hw12⟩ : ∃ w12, w12 = w11.setCell ⟨w1.heap.size, 7, none⟩ (.slice Av (i + 1) cv) := ⟨_, rfl⟩
      rw [← hw12]
      have hr12 : w12.heap[w1.heap.size]? = some (.cells #[.int .i64 0, .int .i64 (-1), .int .i64 0, .int .i64 (-1), .int .i64 0, .int .i64 0, .string ⟨#[]⟩, .slice Av (i + 1) cv, .slice As i cs, .slice none 0 0] 29 (0, 0)) := by
        rw [hw12]
        exact heap_setCell_same w11 w1.heap.size 7 _ _ _ HR11.out
      have hk12 : ∀ b, b ≠ w1.heap.size → w12.heap[b]? = w11.heap[b]? := by
        intro b hb
        rw [hw12]
        exact Below.heap_setCell _ _ _ _ hb
      have hz12 : w12.heap.size = w11.heap.size := by rw [hw12]; simp [World.setCell]
      have hd12 : w12.ownsRow (w1.heap.size + 1) 9 1 (.slice Av (i + 1) cv) (i + 1) (strsO (nmL (i + 1))) := by
        refine ownsRow_same ?_ (fun b hb => hk12 b (by have := (HO11.out.lt b hb).1; omega))
        have h1 := HO11.out
        rw [show strsO (nmL i) ++ [Value.string (nmP i)] = strsO (nmL (i + 1)) from by
          unfold nmL
          rw [List.range_succ, List.map_append, strsO_app]
          rfl] at h1
        exact h1
      have hbw11 : Below w1.heap.size w1 w11 := Below.grown ((HBU.out.below.trans (HBA.out.mono (by omega))).alloc (by have := HBA.out.size; omega) _) HG11.out (by have := HBA.out.size; simp; omega) (fun k hk => by have := (HDA.out.lt k hk).1; omega)
      have hb12 : Below w1.heap.size w1 w12 := by rw [hw12]; exact hbw11.setCell (Nat.le_refl _) _
      have hs12 : w12.ownsRow (w1.heap.size + 1) 35 8 (.slice As i cs) i (((slL 0 bits).take i).flatMap SL.cells) :=
        ownsRow_same HSA.out fun b hb => (hk12 b (by have := (HSA.out.lt b hb).1; omega)).trans ((HG11.out.block b (by have := (HSA.out.lt b hb).2; simp; omega) (fun e => own_apart HDA.out HSA.out b e.symm hb)).trans (((Below.refl wa.heap.size wa).alloc (Nat.le_refl _) _).block b (HSA.out.lt b hb).2))
      have HD12 := Lib.hid hd12
      have HR12 := Lib.hid hr12
      have HB12 := Lib.hid hb12
      have HS12 := Lib.hid hs12
      have hbw12 := HB1.out.trans (hb12.mono HB1.out.size)
      obtain ⟨ha1, ha2⟩ := HARG.out
      have hb64 := ha1 b (List.mem_of_getElem? hbi)
      obtain ⟨gA, oA, hA1, hgw, hcA0⟩ : ∃ b o, A1 = some ⟨b, o, none⟩ ∧ b < w.heap.size ∧ ∀ (j : Nat) (x : Int), bits[j]? = some x → w.cell? ⟨b, o + j, none⟩ = some (.int .i64 x) := by
        rcases ha2 with e | h
        · rw [e] at hi; simp at hi
        · exact h
      subst hA1
      have hcA : w12.cell? ⟨gA, oA + i, none⟩ = some (.int .i64 b) := (hbw12.cell (p := ⟨gA, oA + i, none⟩) hgw).trans (hcA0 i b hbi)
      have hgA : gA < w12.heap.size := by have := hbw12.size; omega
      have hgA1 : gA < w1.heap.size := by have := HB1.out.size; omega
      have hz112 : w1.heap.size < w12.heap.size := (Array.getElem?_eq_some_iff.1 hr12).1
      have KS := Lib.hid (show ∀ W : World, W.heap[w1.heap.size]? = w12.heap[w1.heap.size]? → W.heap[gA]? = w12.heap[gA]? → (fun W => W.cell? ⟨w1.heap.size, 8, none⟩ = some (.slice As i cs) ∧ W.cell? ⟨gA, oA + i, none⟩ = some (.int .i64 b)) W from fun W h1 h2 => ⟨cell_of_row W _ 8 _ _ _ (h1.trans HR12.out), (World.cell?_of_block (a := ⟨gA, oA + i, none⟩) h2).trans hcA⟩)
      have CNB := Lib.hid (fun W => onumber_c b 8 W hb64 (by omega) (by omega))
      obtain ⟨q, hq⟩ : ∃ q, q = b % 8 := ⟨_, rfl⟩
      rw [← hq] at CNB
      have HQ := Lib.hid hq
      have hib : (i : Int) < (bits.length : Int) := by omega
      have hi0' : (0 : Int) ≤ (i : Int) := by omega
      clear hw12 hr12 hk12 hz12 hd12 hbw11 hb12 hs12 hcA hq hcA0 ha1 ha2 hbw12
      refine wp_region_heldTo 14 (fun W => W.cell? ⟨w1.heap.size, 8, none⟩ = some (.slice As i cs) ∧ W.cell? ⟨gA, oA + i, none⟩ = some (.int .i64 b)) (by kernel_rfl) (by kernel_rfl) (KS.out _ rfl rfl) (fun hSucc hHeld => ?_)
      refine heldTo_take (i := 0) (oi := _) (v := (.pointer (some ⟨w1.heap.size, 8, none⟩))) hSucc rfl (by kernel_rfl) (by kernel_rfl) (by kernel_rfl) (by kernel_rfl) rfl (fun _ _ _ h => h) (Or.inl ⟨by rfl, fun W hSw => ?_⟩) (by with_reducible assumption) ?_
      · (try dsimp only at hSw); go_simp
      change heldTo _ _ _ _ _ _ _ _ (Act.put _ (some 52) _) _
      simp only [Act.put, List.setIfInBounds_toArray, List.set_cons_zero, List.set_cons_succ]
      refine heldTo_take (i := 1) (oi := _) (v := (.slice As i cs)) hSucc rfl (by kernel_rfl) (by kernel_rfl) (by kernel_rfl) (by kernel_rfl) rfl (fun _ _ _ h => h) (Or.inl ⟨by rfl, fun W hSw => ?_⟩) (by with_reducible assumption) ?_
      · (try dsimp only at hSw); go_simp
      change heldTo _ _ _ _ _ _ _ _ (Act.put _ (some 53) _) _
      simp only [Act.put, List.setIfInBounds_toArray, List.set_cons_zero, List.set_cons_succ]
      refine heldTo_take (i := 2) (oi := _) (v := (.string (nmP i))) hSucc rfl (by kernel_rfl) (by kernel_rfl) (by kernel_rfl) (by kernel_rfl) rfl (fun _ _ _ h => h) (Or.inl ⟨by rfl, fun W hSw => ?_⟩) (by with_reducible assumption) ?_
      · (try dsimp only at hSw); go_simp
      change heldTo _ _ _ _ _ _ _ _ (Act.put _ (some 54) _) _
      simp only [Act.put, List.setIfInBounds_toArray, List.set_cons_zero, List.set_cons_succ]
      refine heldTo_take (i := 3) (oi := _) (v := (.slice (some ⟨gA, oA, none⟩) bits.length c1)) hSucc rfl (by kernel_rfl) (by kernel_rfl) (by kernel_rfl) (by kernel_rfl) rfl (fun _ _ _ h => h) (Or.inl ⟨by rfl, fun W hSw => ?_⟩) (by with_reducible assumption) ?_
      · (try dsimp only at hSw); go_simp
      change heldTo _ _ _ _ _ _ _ _ (Act.put _ (some 55) _) _
      simp only [Act.put, List.setIfInBounds_toArray, List.set_cons_zero, List.set_cons_succ]
      refine heldTo_take (i := 4) (oi := _) (v := (.int .i64 (i : Int))) hSucc rfl (by kernel_rfl) (by kernel_rfl) (by kernel_rfl) (by kernel_rfl) rfl (fun _ _ _ h => h) (Or.inl ⟨by rfl, fun W hSw => ?_⟩) (by with_reducible assumption) ?_
      · (try dsimp only at hSw); go_simp
      change heldTo _ _ _ _ _ _ _ _ (Act.put _ (some 56) _) _
      simp only [Act.put, List.setIfInBounds_toArray, List.set_cons_zero, List.set_cons_succ]
      refine heldTo_take (i := 5) (oi := _) (v := (.pointer (some ⟨gA, oA + i, none⟩))) hSucc rfl (by kernel_rfl) (by kernel_rfl) (by kernel_rfl) (by kernel_rfl) rfl (fun _ _ _ h => h) (Or.inl ⟨by rfl, fun W hSw => ?_⟩) (by with_reducible assumption) ?_
      · (try dsimp only at hSw); go_simp
      change heldTo _ _ _ _ _ _ _ _ (Act.put _ (some 57) _) _
      simp only [Act.put, List.setIfInBounds_toArray, List.set_cons_zero, List.set_cons_succ]
      refine heldTo_take (i := 6) (oi := _) (v := (.int .i64 b)) hSucc rfl (by kernel_rfl) (by kernel_rfl) (by kernel_rfl) (by kernel_rfl) rfl (fun _ _ _ h => h) (Or.inl ⟨by rfl, fun W hSw => ?_⟩) (by with_reducible assumption) ?_
      · (try dsimp only at hSw); go_simp
      change heldTo _ _ _ _ _ _ _ _ (Act.put _ (some 58) _) _
      simp only [Act.put, List.setIfInBounds_toArray, List.set_cons_zero, List.set_cons_succ]
      refine heldTo_take (i := 8) (oi := _) (v := (.int .i64 (i : Int))) hSucc rfl (by kernel_rfl) (by kernel_rfl) (by kernel_rfl) (by kernel_rfl) rfl (fun _ _ _ h => h) (Or.inl ⟨by rfl, fun W hSw => ?_⟩) (by with_reducible assumption) ?_
      · (try dsimp only at hSw); go_simp
      change heldTo _ _ _ _ _ _ _ _ (Act.put _ (some 60) _) _
      simp only [Act.put, List.setIfInBounds_toArray, List.set_cons_zero, List.set_cons_succ]
      refine heldTo_take (i := 9) (oi := _) (v := (.agg #[.int .i64 0, .int .i64 (i : Int), .string ⟨#[]⟩, .slice none 0 0])) hSucc rfl (by kernel_rfl) (by kernel_rfl) (by kernel_rfl) (by kernel_rfl) rfl (fun _ _ _ h => h) (Or.inl ⟨by rfl, fun W hSw => ?_⟩) (by with_reducible assumption) ?_
      · (try dsimp only at hSw); go_simp
      change heldTo _ _ _ _ _ _ _ _ (Act.put _ (some 61) _) _
      simp only [Act.put, List.setIfInBounds_toArray, List.set_cons_zero, List.set_cons_succ]
      refine heldTo_one (i := 7) (o := _) (by kernel_rfl) rfl (fun K hK => ?_)
      go_simp
      go_at_call 10
      refine (CNB.out _).mono ?_
      rintro e w8 ⟨rfl, rfl⟩
      clear hHeld
      refine hK.out _ _ (KS.out _ rfl rfl) (fun hHeld => ?_)
      clear hK K
      refine heldTo_take (i := 10) (oi := _) (v := (.agg #[.string (nmP i), .int .i64 5, .int .i64 q, .bool false, .int .i64 0, .int .i64 (i : Int), .string ⟨#[]⟩, .slice none 0 0])) hSucc rfl (by kernel_rfl) (by kernel_rfl) (by kernel_rfl) (by kernel_rfl) rfl (fun _ _ _ h => h) (Or.inl ⟨by rfl, fun W hSw => ?_⟩) (by with_reducible assumption) ?_
      · (try dsimp only at hSw); go_simp
      change heldTo _ _ _ _ _ _ _ _ (Act.put _ (some 62) _) _
      simp only [Act.put, List.setIfInBounds_toArray, List.set_cons_zero, List.set_cons_succ]
      have hal : Below w12.heap.size w12 (w12.drew.alloc (.cells #[.string (nmP i), .int .i64 5, .int .i64 q, .bool false, .int .i64 0, .int .i64 (i : Int), .string ⟨#[]⟩, .slice none 0 0] 35)) := ((Below.refl _ w12).drew).alloc (Nat.le_refl _) _
      refine heldTo_one (i := 11) (o := _) (by kernel_rfl) rfl (fun K hK => ?_)
      go_simp
      clear hHeld
      refine hK.out _ _ (KS.out _ (hal.block _ hz112) (hal.block _ hgA)) (fun hHeld => ?_)
      clear hK K
      refine heldTo_one (i := 12) (o := _) (by kernel_rfl) rfl (fun K hK => ?_)
      refine step_append_lies _ (by rfl) (.tmp 53) (.tmp 63) 26 (by rfl) (w1.heap.size + 1) 35 i0 _ 8 96 Tryz.underlying26 hi0 hz0 hz1 hz2 rfl (by decide) (.slice As i cs) i (((slL 0 bits).take i).flatMap SL.cells) (by rfl) (own_keepO HS12.out hal) ⟨w12.heap.size, 0, none⟩ 1 1 [.string (nmP i), .int .i64 5, .int .i64 q, .bool false, .int .i64 0, .int .i64 (i : Int), .string ⟨#[]⟩, .slice none 0 0] (by rfl) rfl (news8 _ _ _ _ _ _ _ _ _ _) (one8 _ _ _ _ _ _ _) (by decide) (by unfold maxLen; have := HIC.out; omega) (by have := HIC.out; omega) (by simp; omega) _ rfl ?_
      intro g9 cap w9 hown9 hg9 hat hlt9
      have hb9 : ∀ b, b < w12.heap.size → (∀ k, (Value.slice As i cs).ownBlock = some k → b ≠ k) → w9.heap[b]? = w12.heap[b]? := fun b hb hne => (hg9.block b (by simp; omega) (fun e => hne b e.symm rfl)).trans (hal.block b hb)
      have hr9 := (hb9 w1.heap.size hz112 (fun k hk => by have := (HS12.out.lt k hk).1; omega)).trans HR12.out
      have k9 : w9.cell? ⟨w1.heap.size, 8, none⟩ = some (.slice As i cs) := cell_of_row w9 _ 8 _ _ _ hr9
      have f9 : w9.frozen? ⟨w1.heap.size, 8, none⟩ = false := frozen_of_row w9 _ 8 _ _ hr9
      clear hHeld
      refine hK.out _ _ (KS.out _ (hb9 _ hz112 (fun k hk => by have := (HS12.out.lt k hk).1; omega)) (hb9 _ hgA (fun k hk => by have := (HS12.out.lt k hk).1; omega))) (fun hHeld => ?_)
      clear hK K
      refine heldTo_take (i := 13) (oi := _) (v := (.pointer (some ⟨w1.heap.size, 8, none⟩))) hSucc rfl (by kernel_rfl) (by kernel_rfl) (by kernel_rfl) (by kernel_rfl) rfl (fun _ _ _ h => h) (Or.inl ⟨by rfl, fun W hSw => ?_⟩) (by with_reducible assumption) ?_
      · (try dsimp only at hSw); go_simp
      change heldTo _ _ _ _ _ _ _ _ (Act.put _ (some 65) _) _
      simp only [Act.put, List.setIfInBounds_toArray, List.set_cons_zero, List.set_cons_succ]
      refine heldTo_last (o := _) (by kernel_rfl) rfl (fun K hK => ?_)
      go_simp
      refine hK.out _ _ ?_
      clear hK K hHeld
      refine heldTo_done (by kernel_rfl) ?_ _
      have HBN := Lib.hid (show BuI w1 (w9.setCell ⟨w1.heap.size, 8, none⟩ (.slice (some ⟨g9, 0, none⟩) (i + 1) cap)) (i + 1) bits (.slice Av (i + 1) cv) (.slice (some ⟨g9, 0, none⟩) (i + 1) cap) from
        ⟨heap_setCell_same w9 w1.heap.size 8 _ _ _ hr9,
         ownsRow_same HD12.out fun b hb => (Below.heap_setCell _ _ _ _ (by have := (HD12.out.lt b hb).1; show b ≠ w1.heap.size; omega)).trans (hb9 b (HD12.out.lt b hb).2 (fun k hk e => own_apart HD12.out HS12.out b hb (by rw [e]; exact hk))),
         by
          rw [slL_take bits i b HBI.out, List.flatMap_append, List.flatMap_singleton]
          have h1 : (slP i b).cells = [.string (nmP i), .int .i64 5, .int .i64 q, .bool false, .int .i64 0, .int .i64 (i : Int), .string ⟨#[]⟩, .slice none 0 0] := by rw [HQ.out]; rfl
          rw [h1]
          exact ownsRow_same hown9 fun b hb => Below.heap_setCell _ _ _ _ (by have := (hown9.lt b hb).1; show b ≠ w1.heap.size; omega),
         fun e => by omega, fun e => by omega,
         (Below.grown (HB12.out.trans (hal.mono (by omega))) hg9 (by have := hal.size; omega) (fun k hk => by have := (HS12.out.lt k hk).1; omega)).setCell (Nat.le_refl _) _⟩)
      clear hb9 hr9 k9 f9 hg9 hown9 hat hlt9 hal
      go_wp2_with fail
      go_roundg j
      case measure => omega
      case rel => exact ⟨i + 1, _, _, by go_num, by omega, HBN.out⟩
    · obtain rfl : i = bits.length := by omega
      rename World => wA
      obtain ⟨Ad, cd, rfl⟩ : ∃ A C, dv = .slice A bits.length C := by obtain ⟨A, C, e, _⟩ := own_formO hbu.defs; exact ⟨A, C, e⟩
      obtain ⟨As, cs, rfl⟩ : ∃ A C, sv = .slice A bits.length C := by obtain ⟨A, C, e, _⟩ := own_formO hbu.slots; exact ⟨A, C, e⟩
      have q0 := cell_of_row wA _ 0 _ _ _ hbu.blk
      have q1 := cell_of_row wA _ 1 _ _ _ hbu.blk
      have q2 := cell_of_row wA _ 2 _ _ _ hbu.blk
      have q3 := cell_of_row wA _ 3 _ _ _ hbu.blk
      have q4 := cell_of_row wA _ 4 _ _ _ hbu.blk
      have q5 := cell_of_row wA _ 5 _ _ _ hbu.blk
      have q6 := cell_of_row wA _ 6 _ _ _ hbu.blk
      have q7 := cell_of_row wA _ 7 _ _ _ hbu.blk
      have q8 := cell_of_row wA _ 8 _ _ _ hbu.blk
      have q9 := cell_of_row wA _ 9 _ _ _ hbu.blk
      obtain ⟨wb, hwb⟩ : ∃ wb, wb = wA.alloc (.cells #[.int .i64 0, .int .i64 (-1), .int .i64 0, .int .i64 (-1), .int .i64 0, .int .i64 0, .string ⟨#[]⟩, .slice Ad bits.length cd, .slice As bits.length cs, .slice none 0 0] 29) := ⟨_, rfl⟩
      have hbb : Below wA.heap.size wA wb := by rw [hwb]; exact (Below.refl _ _).alloc (Nat.le_refl _) _
      have hgb : wb.heap[wA.heap.size]? = some (.cells #[.int .i64 0, .int .i64 (-1), .int .i64 0, .int .i64 (-1), .int .i64 0, .int .i64 0, .string ⟨#[]⟩, .slice Ad bits.length cd, .slice As bits.length cs, .slice none 0 0] 29 (0, 0)) := by rw [hwb]; exact heap_alloc_new wA _
      have hzb : wb.heap.size = wA.heap.size + 1 := by rw [hwb]; simp
      have hwz : w1.heap.size < wA.heap.size := (Array.getElem?_eq_some_iff.1 hbu.blk).1
      have hdl : (nmL bits.length).length = bits.length := nmL_len _
      have hsl : (slL 0 bits).length = bits.length := slL_len _ _
      have hds := hbu.defs
      have hss := hbu.slots
      rw [List.take_of_length_le (by rw [hsl]; exact Nat.le_refl _)] at hss
      have hrin : RowsIn wb wA.heap.size [⟨obP bits, 0, .slice Ad bits.length cd, .slice As bits.length cs⟩] := by
        refine ⟨by omega, ?_, ?_, ?_, ?_⟩
        · intro i x hx j u hj hu
          cases i with
          | succ i => simp at hx
          | zero =>
            simp only [List.getElem?_cons_zero, Option.some.injEq] at hx
            subst hx
            rw [Nat.zero_mul, Nat.zero_add, cell_of_row wb _ j _ _ _ hgb]
            exact hu
        · intro x hx
          rw [List.mem_singleton] at hx
          subst hx
          show wb.ownsRow 0 9 1 (.slice Ad bits.length cd) (nmL bits.length).length (strsO (nmL bits.length))
          rw [hdl]
          exact ownsRow_base (own_keepO hds hbb) (Nat.zero_le _)
        · intro x hx
          rw [List.mem_singleton] at hx
          subst hx
          show wb.ownsRow 0 35 8 (.slice As bits.length cs) (slL 0 bits).length ((slL 0 bits).flatMap SL.cells)
          rw [hsl]
          exact ownsRow_base (own_keepO hss hbb) (Nat.zero_le _)
        · intro x hx e
          rw [List.mem_singleton] at hx
          subst hx
          have : bits.length = 0 := by rw [← hdl]; exact congrArg List.length e
          exact hbu.nil this
      have CLD := Lib.hid (load_L (w := wb) (gl := wA.heap.size) (cap := 1) (mx := 0) [⟨obP bits, 0, .slice Ad bits.length cd, .slice As bits.length cs⟩] hrin (by simp) (ok_obP bits) rfl (by omega) (fun x hx => by rw [List.mem_singleton] at hx; subst hx; exact fair_obP hn))
      have HBU := Lib.hid hbu
      have HBB := Lib.hid hbb
      have HWB := Lib.hid hwb
      have HZB := Lib.hid hzb
      clear hbu hbb hwb hzb hgb hrin hds hss hdl hsl
      go_wp2_with fail
      rw [← HWB.out]
      clear q0 q1 q2 q3 q4 q5 q6 q7 q8 q9
      refine CLD.out.mono ?_
      rintro e w4 ⟨a, m, rfl, hls⟩
      have CCR := Lib.hid (createo_L (p := 0) (ow := ow) hls (by omega) ⟨by omega, by omega⟩ (getO_obP bits) (by simp [obT]) (by omega) (by show (slL 0 bits).length ≤ 1000; rw [slL_len]; omega))
      clear hls CLD
      go_wp2_with fail
      refine CCR.out.mono ?_
      rintro e w5 ⟨rfl, hls⟩
      have CGT := Lib.hid (child_L hls how0 hn)
      clear CCR
      go_wp2_with fail
      refine CGT.out.mono ?_
      rintro e w6 ⟨A2, c2, A3, c3, rfl, hcp, hls6⟩
      obtain ⟨w7, hw7⟩ : ∃ w7, w7 = w6.alloc (.cells #[.int .i64 1, .int .i64 0, .int .i64 ow, .int .i64 (-1), .int .i64 0, .int .i64 0, .string ⟨#[]⟩, .slice A2 0 c2, .slice A3 bits.length c3, .slice none 0 0] 29) := ⟨_, rfl⟩
      have hb7 : Below w6.heap.size w6 w7 := by rw [hw7]; exact (Below.refl _ _).alloc (Nat.le_refl _) _
      have hg7 : w7.heap[w6.heap.size]? = some (.cells #[.int .i64 1, .int .i64 0, .int .i64 ow, .int .i64 (-1), .int .i64 0, .int .i64 0, .string ⟨#[]⟩, .slice A2 0 c2, .slice A3 bits.length c3, .slice none 0 0] 29 (0, 0)) := by rw [hw7]; exact heap_alloc_new w6 _
      have hz7 : w7.heap.size = w6.heap.size + 1 := by rw [hw7]; simp
      have p2 := cell_of_row w7 _ 2 _ _ _ hg7
      have p7 := cell_of_row w7 _ 7 _ _ _ hg7
      have p8 := cell_of_row w7 _ 8 _ _ _ hg7
      have HL7 := Lib.hid (hls6.below hb7)
      have HCS := Lib.hid (own_keepO hcp.slots hb7)
      have HG7 := Lib.hid hg7
      have HZ7 := Lib.hid hz7
      have HW7 := Lib.hid hw7
      clear hls hls6 hb7 hg7 hz7 hw7 hcp CGT
      go_wp2_with fail
      rw [← HW7.out]
      clear p2 p7 p8
      go_loopg [15] bits.length (fun kk iv wr => ∃ (i : Nat), iv = .int .i64 (i : Int) ∧ i + kk = bits.length ∧ Below w7.heap.size w7 wr)
      case atStart => exact ⟨0, rfl, by omega, Below.refl _ _⟩
      case round =>
        clear hik
        obtain ⟨i, rfl, hik, hbr⟩ := hrel
        have hrz := hbr.size
        by_cases hi : i < bits.length
        · obtain ⟨j, rfl⟩ : ∃ j, gk = j + 1 := ⟨gk - 1, by omega⟩
          obtain ⟨b, hbi⟩ : ∃ b, bits[i]? = some b := ⟨bits[i], List.getElem?_eq_some_iff.2 ⟨hi, rfl⟩⟩
          have hsl : (slL 0 bits)[i]? = some (slP i b) := by rw [slL_at, hbi]; simp
          have hsc : (chP bits ow).slots[i]? = some (freshO (slP i b) ow) := by show ((slL 0 bits).map fun s => freshO s ow)[i]? = _; rw [List.getElem?_map, hsl]; rfl
          have hq0 := Int.emod_nonneg b (show (8 : Int) ≠ 0 by omega)
          have hq8 := Int.emod_lt_of_pos b (show (0 : Int) < 8 by omega)
          obtain ⟨q, hq⟩ : ∃ q, q = b % 8 := ⟨_, rfl⟩
          rw [← hq] at hq0 hq8
          have hbit := bit_fresh q ow hq0 (by omega)
          obtain ⟨f, hf⟩ : ∃ f : Int, f = if q.toNat &&& 4 ≠ 0 then ow else 5 := ⟨_, rfl⟩
          rw [← hf] at hbit
          have hfc : (freshO (slP i b) ow).cells = [.string (nmP i), .int .i64 f, .int .i64 q, .bool true, .int .i64 0, .int .i64 0, .string ⟨#[]⟩, .slice none 0 0] := by rw [hf, hq]; rfl
          have hpc : (slP i b).cells = [.string (nmP i), .int .i64 5, .int .i64 q, .bool false, .int .i64 0, .int .i64 (i : Int), .string ⟨#[]⟩, .slice none 0 0] := by rw [hq]; rfl
          have hcs := HCS.out
          have hlen : (chP bits ow).slots.length = bits.length := chP_len bits ow
          rw [hlen] at hcs
          obtain ⟨g3, rfl, hg3, hr3⟩ := row_at hcs hsc hbr
          rw [hfc] at hr3
          have hwA7 : Below wA.heap.size wA w7 := HBB.out.trans (HL7.out.base.mono (by have := HZB.out; omega))
          have hss := HBU.out.slots
          rw [List.take_of_length_le (by rw [slL_len]; exact Nat.le_refl _)] at hss
          obtain ⟨gs, rfl, hgs, hrs⟩ := row_at hss hsl (hwA7.trans (hbr.mono hwA7.size))
          rw [hpc] at hrs
          have r0 := hr3 0 (by omega) _ rfl
          rw [Nat.add_zero] at r0
          have r1 := hr3 1 (by omega) _ rfl
          have r2 := hr3 2 (by omega) _ rfl
          have r3 := hr3 3 (by omega) _ rfl
          have r4 := hr3 4 (by omega) _ rfl
          have r5 := hr3 5 (by omega) _ rfl
          have r6 := hr3 6 (by omega) _ rfl
          have r7 := hr3 7 (by omega) _ rfl
          have p8 : wr.cell? ⟨w6.heap.size, 8, none⟩ = some (.slice (some ⟨g3, 0, none⟩) bits.length c3) := cell_of_row wr _ 8 _ _ _ ((hbr.block _ (by have := HZ7.out; omega)).trans HG7.out)
          obtain ⟨wx, hwx⟩ : ∃ wx, wx = wr.alloc (.cells #[.string (nmP i), .int .i64 f, .int .i64 q, .bool true, .int .i64 0, .int .i64 0, .string ⟨#[]⟩, .slice none 0 0] 35) := ⟨_, rfl⟩
          have hbx : Below wr.heap.size wr wx := by rw [hwx]; exact (Below.refl _ _).alloc (Nat.le_refl _) _
          have hxz : wx.heap.size = wr.heap.size + 1 := by rw [hwx]; simp
          have hgx : wx.heap[wr.heap.size]? = some (.cells #[.string (nmP i), .int .i64 f, .int .i64 q, .bool true, .int .i64 0, .int .i64 0, .string ⟨#[]⟩, .slice none 0 0] 35 (0, 0)) := by rw [hwx]; exact heap_alloc_new wr _
          have hwAz := hwA7.size
          have hwz1 : w1.heap.size < wA.heap.size := (Array.getElem?_eq_some_iff.1 HBU.out.blk).1
          have HKS := Lib.hid (show ∀ W, Below wx.heap.size wx W → (W.cell? ⟨wr.heap.size, 0, none⟩ = some (.string (nmP i)) ∧ W.cell? ⟨wr.heap.size, 1, none⟩ = some (.int .i64 f) ∧ W.cell? ⟨wr.heap.size, 2, none⟩ = some (.int .i64 q) ∧ W.cell? ⟨wr.heap.size, 3, none⟩ = some (.bool true) ∧ W.cell? ⟨w1.heap.size, 8, none⟩ = some (.slice (some ⟨gs, 0, none⟩) bits.length cs) ∧ W.cell? ⟨gs, i * 8, none⟩ = some (.string (nmP i)) ∧ W.cell? ⟨gs, i * 8 + 2, none⟩ = some (.int .i64 q)) from fun W hW => by
            have hg := (hW.block wr.heap.size (by omega)).trans hgx
            have hAW : Below wA.heap.size wA W := hwA7.trans ((hbr.trans ((hbx.trans (hW.mono hbx.size)).mono hrz)).mono hwA7.size)
            have hk := fun j hj u hu => (World.cell?_of_block (w := wr) (w' := W) (a := ⟨gs, i * 8 + j, none⟩) ((hW.block gs (by omega)).trans (hbx.block gs (by omega)))).trans (hrs j hj u hu)
            exact ⟨cell_of_row W _ 0 _ _ _ hg, cell_of_row W _ 1 _ _ _ hg, cell_of_row W _ 2 _ _ _ hg, cell_of_row W _ 3 _ _ _ hg, cell_of_row W _ 8 _ _ _ ((hAW.block _ hwz1).trans HBU.out.blk), hk 0 (by omega) _ rfl, hk 2 (by omega) _ rfl⟩)
          obtain ⟨x0, x1, x2, x3, x8, y0, y2⟩ := HKS.out wx (Below.refl _ wx)
          have K0 := HKS.out wx.drew ((Below.refl _ wx).drew)
          have HWX := Lib.hid hwx
          have HBW := Lib.hid (hbr.trans (hbx.mono hrz))
          clear hbi hsl hsc hq hf hfc hpc hcs hlen hr3 hwA7 hss hrs hbx hxz hgx hwx hbr hq0 hq8
          rcases hbit with ⟨hbit, rfl⟩ | ⟨hbit, rfl⟩
          · go_upto_region 25 with fail
            rw [← HWX.out]
            clear r0 r1 r2 r3 r4 r5 r6 r7 p8
            go_upto_region 28 with fail
            clear x0 x1 x2 x3 x8 y0 y2
            go_region_held3 (fun W => W.cell? ⟨wr.heap.size, 0, none⟩ = some (.string (nmP i)) ∧ W.cell? ⟨wr.heap.size, 1, none⟩ = some (.int .i64 f) ∧ W.cell? ⟨wr.heap.size, 2, none⟩ = some (.int .i64 q) ∧ W.cell? ⟨wr.heap.size, 3, none⟩ = some (.bool true) ∧ W.cell? ⟨w1.heap.size, 8, none⟩ = some (.slice (some ⟨gs, 0, none⟩) bits.length cs) ∧ W.cell? ⟨gs, i * 8, none⟩ = some (.string (nmP i)) ∧ W.cell? ⟨gs, i * 8 + 2, none⟩ = some (.int .i64 q))
              (first | (with_reducible assumption) | (with_reducible exact K0))
              (fail)
            go_wp2_with fail
            go_roundg j
            case measure => omega
            case rel => exact ⟨i + 1, by go_num, by omega, HBW.out.drew⟩
          · go_upto_region 25 with fail
            rw [← HWX.out]
            clear r0 r1 r2 r3 r4 r5 r6 r7 p8
            go_upto_region 28 with fail
            clear x0 x1 x2 x3 x8 y0 y2
            go_region_held3 (fun W => W.cell? ⟨wr.heap.size, 0, none⟩ = some (.string (nmP i)) ∧ W.cell? ⟨wr.heap.size, 1, none⟩ = some (.int .i64 5) ∧ W.cell? ⟨wr.heap.size, 2, none⟩ = some (.int .i64 q) ∧ W.cell? ⟨wr.heap.size, 3, none⟩ = some (.bool true) ∧ W.cell? ⟨w1.heap.size, 8, none⟩ = some (.slice (some ⟨gs, 0, none⟩) bits.length cs) ∧ W.cell? ⟨gs, i * 8, none⟩ = some (.string (nmP i)) ∧ W.cell? ⟨gs, i * 8 + 2, none⟩ = some (.int .i64 q))
              (first | (with_reducible assumption) | (with_reducible exact K0))
              (fail)
            go_wp2_with fail
            go_roundg j
            case measure => omega
            case rel => exact ⟨i + 1, by go_num, by omega, HBW.out.drew⟩
        · obtain rfl : i = bits.length := by omega
          rename World => wC
          have CCN := Lib.hid (childN_L (HL7.out.below hbr) how0 hn)
          have HBR := Lib.hid hbr
          clear hbr
          go_wp2_with fail
          refine CCN.out.mono ?_
          rintro e w8 ⟨rfl, hl8⟩
          have CGG := Lib.hid (childG_L hl8)
          clear hl8 CCN
          go_wp2_with fail
          refine CGG.out.mono ?_
          rintro e w9 ⟨A4, c4, A5, c5, rfl, hl9⟩
          obtain ⟨w10, hw10⟩ : ∃ w10, w10 = w9.alloc (.cells #[.int .i64 1, .int .i64 (-1), .int .i64 (chP bits ow).owner, .int .i64 (-1), .int .i64 0, .int .i64 0, .string ⟨#[]⟩, .slice A4 0 c4, .slice A5 0 c5, .slice none 0 0] 29) := ⟨_, rfl⟩
          have hb10 : Below w9.heap.size w9 w10 := by rw [hw10]; exact (Below.refl _ _).alloc (Nat.le_refl _) _
          have hg10 : w10.heap[w9.heap.size]? = some (.cells #[.int .i64 1, .int .i64 (-1), .int .i64 (chP bits ow).owner, .int .i64 (-1), .int .i64 0, .int .i64 0, .string ⟨#[]⟩, .slice A4 0 c4, .slice A5 0 c5, .slice none 0 0] 29 (0, 0)) := by rw [hw10]; exact heap_alloc_new w9 _
          have p8 := cell_of_row w10 _ 8 _ _ _ hg10
          have hbase := hl9.base
          have hs9 := hbase.size
          have HFIN := Lib.hid (show Below w.heap.size w w10 from
            (HB1.out.trans ((HBU.out.below.trans ((HBB.out.trans ((hbase.trans (hb10.mono hs9)).mono (by have := HZB.out; omega))).mono (by omega))).mono HB1.out.size)))
          have HW10 := Lib.hid hw10
          clear hl9 hb10 hg10 hw10 hbase CGG
          go_upto_region 33 with fail
          rw [← HW10.out]
          go_wp2_with fail
          go_ret
          exact ⟨rfl, HFIN.out⟩
end Go.Proofs.YtnphgcbknfmapaaGreatDoor
namespace Go.Proofs.YtnphgcbknfmapaaGreatDoor
open Go.RowKit Go.Lib
set_option linter.unusedVariables false

theorem objsSlots_c (bits : List Int) (A1 : Option Addr) (c1 : Nat) (ow0 : Int) (w : World) (hb : ArgI w A1 bits) (how : I64 ow0) :
    Calls Tryz.prog 3 #[.slice A1 bits.length c1, .int .i64 ow0] w fun e w' => e = .returned (.bool true) ∧ Below w.heap.size w w' := by
  by_cases h : bits.length ≤ 12
  · exact slots_few bits A1 c1 ow0 w h hb how
  · exact slots_many bits A1 c1 ow0 w h
end Go.Proofs.YtnphgcbknfmapaaGreatDoor
