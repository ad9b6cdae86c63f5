/- Contracts of the functions that the statement reaches, and the plain mathematics beneath: several texts joined. -/
import Derived.Test.YtnphgcbknfmapaaGreatDoorWquAD
namespace Go.Proofs.YtnphgcbknfmapaaGreatDoor
open Go.RowKit Go.Lib
set_option linter.unusedVariables false

/-- As Tab, with the number told in the table a letter of its own. -/
structure TabG (w : World) (B a m : Nat) (T : List OM) (c mx : Int) : Prop where
  tab : w.heap[a]? = some (.cells #[.map (some m), .int .i64 c] 84 (0, 0))
  map : w.ownsMap Tryz.prog 3 ptrR m T.length (.map (datT T))
  objs : ∀ x ∈ T, ObjAt w B x
  sep : (a :: m :: blkT T).Nodup
  base : ∀ b ∈ a :: m :: blkT T, B ≤ b
  sort : SortO (obT T)
  few : T.length ≤ 512
  mxr : -1 ≤ mx ∧ mx < 1073741824
  rng : ∀ x ∈ T, 0 ≤ x.o.id ∧ x.o.id ≤ mx

theorem TabG.lt {w : World} {B a m : Nat} {T : List OM} {c mx : Int} (h : TabG w B a m T c mx) : ∀ b ∈ a :: m :: blkT T, b < w.heap.size := by
  intro b hb
  rcases List.mem_cons.1 hb with rfl | hb
  · exact (Array.getElem?_eq_some_iff.1 h.tab).1
  rcases List.mem_cons.1 hb with rfl | hb
  · exact h.map.lt
  obtain ⟨x, hx, hb⟩ := List.mem_flatMap.1 hb
  exact (h.objs x hx).lt b hb
theorem TabG.keep {w w' : World} {B a m : Nat} {T : List OM} {c mx : Int} (h : TabG w B a m T c mx) (hk : ∀ b ∈ a :: m :: blkT T, w'.heap[b]? = w.heap[b]?) : TabG w' B a m T c mx :=
  ⟨(hk a (List.mem_cons_self ..)).trans h.tab, ownsMap_same h.map (hk m (List.mem_cons_of_mem _ (List.mem_cons_self ..))), fun x hx => (h.objs x hx).keep fun b hb => hk b (List.mem_cons_of_mem _ (List.mem_cons_of_mem _ (List.mem_flatMap.2 ⟨x, hx, hb⟩))), h.sep, h.base, h.sort, h.few, h.mxr, h.rng⟩
theorem TabG.below {w w' : World} {B a m : Nat} {T : List OM} {c mx : Int} (h : TabG w B a m T c mx) (hb : Below w.heap.size w w') : TabG w' B a m T c mx :=
  h.keep fun b hk => hb.block b (h.lt b hk)
theorem TabG.c0 {w : World} {B a m : Nat} {T : List OM} {c mx : Int} (h : TabG w B a m T c mx) : w.cell? ⟨a, 0, none⟩ = some (.map (some m)) := cell_of_row w a 0 _ _ _ h.tab
theorem TabG.c1 {w : World} {B a m : Nat} {T : List OM} {c mx : Int} (h : TabG w B a m T c mx) : w.cell? ⟨a, 1, none⟩ = some (.int .i64 c) := cell_of_row w a 1 _ _ _ h.tab
theorem TabG.fr {w : World} {B a m : Nat} {T : List OM} {c mx : Int} (h : TabG w B a m T c mx) (j : Nat) : w.frozen? ⟨a, j, none⟩ = false := frozen_of_row w a j _ _ h.tab
theorem TabG.neg {w : World} {B a m : Nat} {T : List OM} {c mx : Int} (h : TabG w B a m T c mx) : findT T (-1) = none := by
  cases hf : findT T (-1) with
  | none => rfl
  | some x =>
    obtain ⟨hx, e⟩ := findT_some hf
    have := h.rng x hx
    omega
theorem TabG.look {w : World} {B a m : Nat} {T : List OM} {c mx : Int} (h : TabG w B a m T c mx) {o : Int} (ho : I64 o) : (Instr.lookup 82 (.map (some m)) (.int .i64 o) false).run Tryz.prog w = .ok (ptrT T o) w := by
  obtain ⟨v, ps, hrun, hv⟩ := h.map.lookup tkeyed tmap (tzero w) (zd := .lit (.int .i64 (-1))) (zp := []) rfl (tkey_of ho)
  rw [hrun]
  rw [datT_at] at hv
  unfold ptrT
  cases hf : findT T o with
  | none =>
    rw [hf] at hv
    rcases ptrR_inv hv with ⟨_, rfl⟩ | ⟨g, e, rfl⟩
    · rfl
    · simp at e
  | some x =>
    rw [hf] at hv
    rcases ptrR_inv hv with ⟨e, rfl⟩ | ⟨g, e, rfl⟩
    · simp at e
    · simp at e
      show _ = Result.ok (Value.pointer (some ⟨x.g, 0, none⟩)) w
      have e' : x.g = g := by omega
      rw [e']
theorem TabG.len {w : World} {B a m : Nat} {T : List OM} {c mx : Int} (h : TabG w B a m T c mx) (ty : TypeId) : (Builtin.len_ #[82] ty #[.map (some m)]).run Tryz.prog w = .ok (.int .i64 (T.length : Int)) w := by
  have := h.map.len (ty := ty) tmap
  rw [datT_size] at this
  exact this
theorem TabG.cellX {w W : World} {B a m : Nat} {T : List OM} {c mx : Int} (h : TabG w B a m T c mx) (hb : Below w.heap.size w W) {x : OM} (hx : x ∈ T) (j : Nat) : W.cell? ⟨x.g, j, none⟩ = x.cells[j]? :=
  ((h.below hb).objs x hx).cell j
theorem TabG.rowD {w : World} {B a m : Nat} {T : List OM} {c mx : Int} (h : TabG w B a m T c mx) {x : OM} (hx : x ∈ T) : w.ownsRow B 9 1 x.dv x.o.defs.length (x.o.defs.map Value.string) := (h.objs x hx).defs

set_option maxRecDepth 100000 in
set_option maxHeartbeats 2000000 in
theorem above_g {w : World} {B a m : Nat} {T : List OM} {c mx o : Int} (h : TabG w B a m T c mx) (ho : I64 o) (hpi : ParI T) :
    Calls Tryz.prog 61 #[.pointer (some ⟨a, 0, none⟩), .int .i64 o] w fun e w' => ∃ v, e = .returned v ∧ w'.ownsRow w.heap.size 3 1 v (aboveO (obT T) o).length (intsO (aboveO (obT T) o)) ∧ Below w.heap.size w w' := by
  obtain ⟨i0, hi0, hz0, hz1, hz2⟩ := info_parts oint_info
  have hTl : (obT T).length = T.length := by simp [obT]
  obtain ⟨R, hR⟩ : ∃ R, R = aboveO (obT T) o := ⟨_, rfl⟩
  rw [← hR]
  unfold aboveO at hR
  rw [hTl] at hR
  have c0 := h.c0
  have hl := h.look ho
  have hfew := h.few
  have H := Lib.hid h
  have HRR := Lib.hid hR
  have HPI := Lib.hid hpi
  clear h hR hpi hTl
  go_enter Tryz.func61, Tryz.ntmps61
  go_wp2_with fail
  go_loopg [5, 6] (T.length + 1) (fun kk ov xv wr => ∃ (V : Value) (acc : List Int) (p : Int), V = ov ∧ xv = ptrT T p ∧ I64 p ∧ acc.length + kk = T.length + 1 ∧ wr.ownsRow w.heap.size 3 1 V acc.length (intsO acc) ∧ Below w.heap.size w wr ∧ Hid (R = acc ++ abvO (obT T) kk p))
  case atStart => exact ⟨.slice none 0 0, [], o, rfl, rfl, ho, by simp, World.ownsRow_nil _ _ _ _, Below.refl _ _, by rw [HRR.out]; exact (List.nil_append _).symm⟩
  case round =>
    obtain ⟨V, acc, p, rfl, rfl, hp, hlen, hrow, hbr, hacc⟩ := hrel
    have hrz := hbr.size
    have ht := H.out.below hbr
    have c0 := ht.c0
    have hln := ht.len 3
    obtain ⟨Av, cv, rfl⟩ : ∃ A C, V = .slice A acc.length C := by obtain ⟨A, C, e, _⟩ := own_formO hrow; exact ⟨A, C, e⟩
    rcases ptr_cases T p with ⟨hf, hpe⟩ | ⟨x, hf, hpe⟩
    · rw [hpe]
      have HROW := Lib.hid hrow
      have HBR := Lib.hid hbr
      have HF := Lib.hid hf
      have HA := Lib.hid hacc
      clear hrow hbr hf hpe ht hln hacc
      go_wp2_with fail
      go_ret
      refine ⟨_, rfl, ?_, HBR.out⟩
      rw [HA.out.out, abv_none (getO_none' HF.out), List.append_nil]
      exact HROW.out
    · rw [hpe]
      by_cases hk : acc.length ≤ T.length
      · obtain ⟨j, rfl⟩ : ∃ j, gk = j + 1 := ⟨gk - 1, by omega⟩
        have hxm := (findT_some hf).1
        have hpx := HPI.out x hxm
        have hl := ht.look hpx
        have h0 : wr.cell? ⟨x.g, 0, none⟩ = some (.int .i64 x.o.id) := H.out.cellX hbr hxm 0
        have h1 : wr.cell? ⟨x.g, 1, none⟩ = some (.int .i64 x.o.parent) := H.out.cellX hbr hxm 1
        have hgx : x.g < w.heap.size := H.out.lt x.g (List.mem_cons_of_mem _ (List.mem_cons_of_mem _ (List.mem_flatMap.2 ⟨x, hxm, OM.mem_blocks.2 (.inl rfl)⟩)))
        have hgx' : x.g < wr.heap.size := by omega
        have hacc' := hacc.out
        rw [abvO, getO_some' hf] at hacc'
        have HA := Lib.hid hacc'
        have HROW := Lib.hid hrow
        have HBR := Lib.hid hbr
        clear hrow hbr hf hpe hacc hacc' ht
        go_wp2_with (at_builtin; refine wpList_append_own _ rfl (.tmp 34) (.tmp 39) 22 rfl w.heap.size 3 i0 (.int .i64 0) 1 8 Tryz.underlying22 hi0 hz0 hz1 hz2 rfl (by decide) (.slice Av acc.length cv) acc.length (intsO acc) rfl (own_keepO HROW.out ((Below.refl _ _).alloc (Nat.le_refl _) _)) ⟨wr.heap.size, 0, none⟩ 1 1 [.int .i64 x.o.id] rfl rfl ?c1 ?c2 ?c3 ?c4 ?c5 ?c6
                     case c1 => exact cell_one_new _ _ _
                     case c2 => intro u hu; simp at hu; subst hu; rfl
                     case c3 => unfold maxLen; omega
                     case c4 => omega
                     case c5 => simp; omega
                     intro v' w11 hown' hgrow _
                     have hb11 := Below.grown (HBR.out.alloc HBR.out.size _) hgrow (by simp; omega) (fun k hk => (HROW.out.lt k hk).1)
                     have HB11 := Lib.hid hb11
                     have HO11 := Lib.hid hown'
                     have ht := H.out.below hb11
                     have c0 := ht.c0
                     have hl := ht.look hpx
                     have h1 : w11.cell? ⟨x.g, 1, none⟩ = some (.int .i64 x.o.parent) := H.out.cellX hb11 hxm 1
                     clear hown' hgrow hb11 ht)
        have hb12 : Below w.heap.size w w11.drew := HB11.out.drew
        have K1 : (w11.drew.cell? ⟨a, 0, none⟩ = some (.map (some m)) ∧ w11.drew.cell? ⟨x.g, 1, none⟩ = some (.int .i64 x.o.parent) ∧ (Instr.lookup 82 (.map (some m)) (.int .i64 x.o.parent) false).run Tryz.prog w11.drew = .ok (ptrT T x.o.parent) w11.drew) := ⟨c0, h1, (H.out.below hb12).look hpx⟩
        go_region_held3 (fun W => W.cell? ⟨a, 0, none⟩ = some (.map (some m)) ∧ W.cell? ⟨x.g, 1, none⟩ = some (.int .i64 x.o.parent) ∧ (Instr.lookup 82 (.map (some m)) (.int .i64 x.o.parent) false).run Tryz.prog W = .ok (ptrT T x.o.parent) W)
          (first | (with_reducible exact K1) | exact ⟨c0, h1, hl⟩)
          (fail)
        go_wp2_with fail
        go_roundg j
        case measure => omega
        case rel => exact ⟨v', acc ++ [x.o.id], x.o.parent, rfl, rfl, hpx, by simp; omega, by rw [intsO_app, List.length_append]; exact HO11.out, hb12, by rw [HA.out]; exact (List.append_assoc acc [x.o.id] _).symm⟩
      · have HROW := Lib.hid hrow
        have HBR := Lib.hid hbr
        have HA := Lib.hid hacc
        obtain rfl : gk = 0 := by omega
        clear hrow hbr hf hpe ht hacc
        go_wp2_with fail
        go_ret
        refine ⟨_, rfl, ?_, HBR.out⟩
        rw [HA.out.out, abvO, List.append_nil]
        exact HROW.out

end Go.Proofs.YtnphgcbknfmapaaGreatDoor
namespace Go.Proofs.YtnphgcbknfmapaaGreatDoor
open Go.RowKit Go.Lib
set_option linter.unusedVariables false

/-- What a choice of the next one answers of each object. -/
def AskN (w : World) (T : List OM) (g : Nat) (next : OB → Int) : Prop :=
  ∀ (W : World) (x : OM), Below w.heap.size w W → x ∈ T → Calls Tryz.prog g #[.pointer (some ⟨x.g, 0, none⟩)] W fun e w' => e = .returned (.int .i64 (next x.o)) ∧ W = w'
theorem nextP {w : World} {B a m : Nat} {T : List OM} {c mx : Int} (h : TabG w B a m T c mx) : AskN w T 88 OB.parent := by
  intro W x hb hx
  have h1 : W.cell? ⟨x.g, 1, none⟩ = some (.int .i64 x.o.parent) := h.cellX hb hx 1
  clear hb h
  go_enter Tryz.func88, Tryz.ntmps88
  go_wp2_with fail
  go_ret
  exact ⟨rfl, rfl⟩
theorem nextL {w : World} {B a m : Nat} {T : List OM} {c mx : Int} (h : TabG w B a m T c mx) : AskN w T 89 OB.place := by
  intro W x hb hx
  have h1 : W.cell? ⟨x.g, 3, none⟩ = some (.int .i64 x.o.place) := h.cellX hb hx 3
  clear hb h
  go_enter Tryz.func89, Tryz.ntmps89
  go_wp2_with fail
  go_ret
  exact ⟨rfl, rfl⟩

theorem oT_len (T : List OM) : (obT T).length = T.length := by simp [obT]
set_option maxRecDepth 100000 in
set_option maxHeartbeats 2000000 in
theorem ends_c {w : World} {B a m : Nat} {T : List OM} {c mx o : Int} (h : TabG w B a m T c mx) (g : Nat) (next : OB → Int) (eg : ∀ args w, (callFunc g args).run Tryz.prog w = .ok (.enter g args) w) (hp : AskN w T g next)
    (ho : I64 o) {x : OM} (hx : findT T o = some x) (hac : AcyP (obT T) next) (hni : ∀ y ∈ T, I64 (next y.o)) (hn : next x.o = -1 ∨ hasO (obT T) (next x.o) = true) :
    Calls Tryz.prog 87 #[.pointer (some ⟨a, 0, none⟩), .int .i64 o, .func (.func g) #[] #[]] w fun e w' => e = .returned (.bool true) ∧ w = w' := by
  have c0 := h.c0
  have hl := h.look ho
  rw [ptrT_some hx] at hl
  have hln := h.len 3
  have hxm := (findT_some hx).1
  have CP := Lib.hid (hp w x (Below.refl _ _) hxm)
  have HP := Lib.hid hp
  have hl2 := h.look (hni x hxm)
  have hlen := run_len hac ((obT T).length + 1) o
  have HLEN := Lib.hid (show (rowO (obT T) next o).length ≤ T.length by rw [← oT_len]; exact hlen)
  have HAC := Lib.hid hac
  have HNI := Lib.hid hni
  have H := Lib.hid h
  have hfew := h.few
  clear h hx hac hni hp hlen
  go_enter Tryz.func87, Tryz.ntmps87
  go_wp2_with fail
  refine CP.out.mono ?_
  rintro e w1 ⟨rfl, rfl⟩
  have hq : (next x.o = -1) ∨ ∃ y, ¬ next x.o = -1 ∧ findT T (next x.o) = some y := by
    by_cases e : next x.o = -1
    · exact .inl e
    · rcases hn with h1 | h1
      · exact .inl h1
      · cases hf : findT T (next x.o) with
        | none => rw [findT_none hf] at h1; cases h1
        | some y => exact .inr ⟨y, e, rfl⟩
  clear hn
  rcases hq with hq | ⟨y, hq, hy⟩
  · go_wp2_with fail
    go_loopg [1, 34] (T.length + 1) (fun kk pv iv wr => ∃ (i : Nat) (p : Int), pv = .int .i64 p ∧ iv = .int .i64 (i : Int) ∧ i + kk = T.length + 1 ∧ I64 p ∧ w = wr ∧ Hid (i + (rowO (obT T) next p).length ≤ T.length))
    case atStart => exact ⟨0, o, rfl, rfl, by omega, ho, rfl, Lib.hid (by have := HLEN.out; omega)⟩
    case round =>
      obtain ⟨i, p, rfl, rfl, hik, hp, rfl, hrl⟩ := hrel
      have hrl' := hrl.out
      have hlp := H.out.look hp
      obtain ⟨j, rfl⟩ : ∃ j, gk = j + 1 := ⟨gk - 1, by omega⟩
      rcases ptr_cases T p with ⟨hf, hpe⟩ | ⟨z, hf, hpe⟩
      · rw [hpe] at hlp
        clear hrl hrl' hf hpe
        go_wp2_with fail
        go_ret
        exact ⟨rfl, rfl⟩
      · rw [hpe] at hlp
        have hzm := (findT_some hf).1
        have CZ := Lib.hid (HP.out w z (Below.refl _ _) hzm)
        have hr2 := row_eq HAC.out (getO_some' hf)
        rw [hr2, List.length_cons] at hrl'
        have HR2 := Lib.hid (show i + 1 + (rowO (obT T) next (next z.o)).length ≤ T.length by omega)
        have hzi := HNI.out z hzm
        clear hrl hrl' hf hpe hr2
        go_wp2_with fail
        refine CZ.out.mono ?_
        rintro e w2 ⟨rfl, rfl⟩
        go_wp2_with fail
        go_roundg j
        case measure => omega
        case rel => exact ⟨i + 1, next z.o, rfl, by go_num, by omega, hzi, rfl, HR2⟩
  · rw [ptrT_some hy] at hl2
    go_wp2_with fail
    go_loopg [1, 34] (T.length + 1) (fun kk pv iv wr => ∃ (i : Nat) (p : Int), pv = .int .i64 p ∧ iv = .int .i64 (i : Int) ∧ i + kk = T.length + 1 ∧ I64 p ∧ w = wr ∧ Hid (i + (rowO (obT T) next p).length ≤ T.length))
    case atStart => exact ⟨0, o, rfl, rfl, by omega, ho, rfl, Lib.hid (by have := HLEN.out; omega)⟩
    case round =>
      obtain ⟨i, p, rfl, rfl, hik, hp, rfl, hrl⟩ := hrel
      have hrl' := hrl.out
      have hlp := H.out.look hp
      obtain ⟨j, rfl⟩ : ∃ j, gk = j + 1 := ⟨gk - 1, by omega⟩
      rcases ptr_cases T p with ⟨hf, hpe⟩ | ⟨z, hf, hpe⟩
      · rw [hpe] at hlp
        clear hrl hrl' hf hpe
        go_wp2_with fail
        go_ret
        exact ⟨rfl, rfl⟩
      · rw [hpe] at hlp
        have hzm := (findT_some hf).1
        have CZ := Lib.hid (HP.out w z (Below.refl _ _) hzm)
        have hr2 := row_eq HAC.out (getO_some' hf)
        rw [hr2, List.length_cons] at hrl'
        have HR2 := Lib.hid (show i + 1 + (rowO (obT T) next (next z.o)).length ≤ T.length by omega)
        have hzi := HNI.out z hzm
        clear hrl hrl' hf hpe hr2
        go_wp2_with fail
        refine CZ.out.mono ?_
        rintro e w2 ⟨rfl, rfl⟩
        go_wp2_with fail
        go_roundg j
        case measure => omega
        case rel => exact ⟨i + 1, next z.o, rfl, by go_num, by omega, hzi, rfl, HR2⟩

theorem number_c (n : Int) (w : World) (h0 : -1 ≤ n) (h1 : n < 1073741824) : Calls Tryz.prog 86 #[.int .i64 n] w fun e w' => e = .returned (.bool true) ∧ w = w' := by
  go_enter Tryz.func86, Tryz.ntmps86
  go_wp2_with fail
  go_ret
  exact ⟨rfl, rfl⟩
end Go.Proofs.YtnphgcbknfmapaaGreatDoor
