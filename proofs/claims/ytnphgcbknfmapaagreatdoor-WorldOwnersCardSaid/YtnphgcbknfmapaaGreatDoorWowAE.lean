/- Contracts of the functions that the statement reaches, and the plain mathematics beneath: several texts joined. -/
import Derived.Laws.Cover1
import Derived.StillTailTactics
import Derived.Laws.Tables
import Derived.Laws.CopyOwn
import Derived.Laws.ResultCell
import Derived.Test.YtnphgcbknfmapaaGreatDoorWowAD
import Derived.Test.YtnphgcbknfmapaaGreatDoorWowAC
namespace Go.Proofs.YtnphgcbknfmapaaGreatDoor
open Go.RowKit Go.Lib
set_option linter.unusedVariables false

/-- As Tab, with the number told in the table a letter of its own. -/
structure TabG (w : World) (B a m : Nat) (T : List OM) (c mx : Int) : Prop where
  tab : w.heap[a]? = some (.cells #[.map (some m), .int .i64 c] 84 (0, 0))
  map : w.ownsMap Tryz.prog 3 ptrR m T.length (.map (datT T))
  objs : ∀ x ∈ T, ObjAt w B x
  sep : (a :: m :: blkT T).Nodup
  base : ∀ b ∈ a :: m :: blkT T, B ≤ b
  sort : SortO (obT T)
  few : T.length ≤ 512
  mxr : -1 ≤ mx ∧ mx < 1073741824
  rng : ∀ x ∈ T, 0 ≤ x.o.id ∧ x.o.id ≤ mx

theorem TabG.lt {w : World} {B a m : Nat} {T : List OM} {c mx : Int} (h : TabG w B a m T c mx) : ∀ b ∈ a :: m :: blkT T, b < w.heap.size := by
  intro b hb
  rcases List.mem_cons.1 hb with rfl | hb
  · exact (Array.getElem?_eq_some_iff.1 h.tab).1
  rcases List.mem_cons.1 hb with rfl | hb
  · exact h.map.lt
  obtain ⟨x, hx, hb⟩ := List.mem_flatMap.1 hb
  exact (h.objs x hx).lt b hb
theorem TabG.keep {w w' : World} {B a m : Nat} {T : List OM} {c mx : Int} (h : TabG w B a m T c mx) (hk : ∀ b ∈ a :: m :: blkT T, w'.heap[b]? = w.heap[b]?) : TabG w' B a m T c mx :=
  ⟨(hk a (List.mem_cons_self ..)).trans h.tab, ownsMap_same h.map (hk m (List.mem_cons_of_mem _ (List.mem_cons_self ..))), fun x hx => (h.objs x hx).keep fun b hb => hk b (List.mem_cons_of_mem _ (List.mem_cons_of_mem _ (List.mem_flatMap.2 ⟨x, hx, hb⟩))), h.sep, h.base, h.sort, h.few, h.mxr, h.rng⟩
theorem TabG.below {w w' : World} {B a m : Nat} {T : List OM} {c mx : Int} (h : TabG w B a m T c mx) (hb : Below w.heap.size w w') : TabG w' B a m T c mx :=
  h.keep fun b hk => hb.block b (h.lt b hk)
theorem TabG.c0 {w : World} {B a m : Nat} {T : List OM} {c mx : Int} (h : TabG w B a m T c mx) : w.cell? ⟨a, 0, none⟩ = some (.map (some m)) := cell_of_row w a 0 _ _ _ h.tab
theorem TabG.c1 {w : World} {B a m : Nat} {T : List OM} {c mx : Int} (h : TabG w B a m T c mx) : w.cell? ⟨a, 1, none⟩ = some (.int .i64 c) := cell_of_row w a 1 _ _ _ h.tab
theorem TabG.fr {w : World} {B a m : Nat} {T : List OM} {c mx : Int} (h : TabG w B a m T c mx) (j : Nat) : w.frozen? ⟨a, j, none⟩ = false := frozen_of_row w a j _ _ h.tab
theorem TabG.neg {w : World} {B a m : Nat} {T : List OM} {c mx : Int} (h : TabG w B a m T c mx) : findT T (-1) = none := by
  cases hf : findT T (-1) with
  | none => rfl
  | some x =>
    obtain ⟨hx, e⟩ := findT_some hf
    have := h.rng x hx
    omega
theorem TabG.look {w : World} {B a m : Nat} {T : List OM} {c mx : Int} (h : TabG w B a m T c mx) {o : Int} (ho : I64 o) : (Instr.lookup 82 (.map (some m)) (.int .i64 o) false).run Tryz.prog w = .ok (ptrT T o) w := by
  obtain ⟨v, ps, hrun, hv⟩ := h.map.lookup tkeyed tmap (tzero w) (zd := .lit (.int .i64 (-1))) (zp := []) rfl (tkey_of ho)
  rw [hrun]
  rw [datT_at] at hv
  unfold ptrT
  cases hf : findT T o with
  | none =>
    rw [hf] at hv
    rcases ptrR_inv hv with ⟨_, rfl⟩ | ⟨g, e, rfl⟩
    · rfl
    · simp at e
  | some x =>
    rw [hf] at hv
    rcases ptrR_inv hv with ⟨e, rfl⟩ | ⟨g, e, rfl⟩
    · simp at e
    · simp at e
      show _ = Result.ok (Value.pointer (some ⟨x.g, 0, none⟩)) w
      have e' : x.g = g := by omega
      rw [e']
theorem TabG.len {w : World} {B a m : Nat} {T : List OM} {c mx : Int} (h : TabG w B a m T c mx) (ty : TypeId) : (Builtin.len_ #[82] ty #[.map (some m)]).run Tryz.prog w = .ok (.int .i64 (T.length : Int)) w := by
  have := h.map.len (ty := ty) tmap
  rw [datT_size] at this
  exact this
theorem TabG.cellX {w W : World} {B a m : Nat} {T : List OM} {c mx : Int} (h : TabG w B a m T c mx) (hb : Below w.heap.size w W) {x : OM} (hx : x ∈ T) (j : Nat) : W.cell? ⟨x.g, j, none⟩ = x.cells[j]? :=
  ((h.below hb).objs x hx).cell j
theorem TabG.rowD {w : World} {B a m : Nat} {T : List OM} {c mx : Int} (h : TabG w B a m T c mx) {x : OM} (hx : x ∈ T) : w.ownsRow B 9 1 x.dv x.o.defs.length (x.o.defs.map Value.string) := (h.objs x hx).defs

set_option maxRecDepth 100000 in
set_option maxHeartbeats 2000000 in
theorem above_g {w : World} {B a m : Nat} {T : List OM} {c mx o : Int} (h : TabG w B a m T c mx) (ho : I64 o) (hpi : ParI T) :
    Calls Tryz.prog 61 #[.pointer (some ⟨a, 0, none⟩), .int .i64 o] w fun e w' => ∃ v, e = .returned v ∧ w'.ownsRow w.heap.size 3 1 v (aboveO (obT T) o).length (intsO (aboveO (obT T) o)) ∧ Below w.heap.size w w' := by
  obtain ⟨i0, hi0, hz0, hz1, hz2⟩ := info_parts oint_info
  have hTl : (obT T).length = T.length := by simp [obT]
  obtain ⟨R, hR⟩ : ∃ R, R = aboveO (obT T) o := ⟨_, rfl⟩
  rw [← hR]
  unfold aboveO at hR
  rw [hTl] at hR
  have c0 := h.c0
  have hl := h.look ho
  have hfew := h.few
  have H := Lib.hid h
  have HRR := Lib.hid hR
  have HPI := Lib.hid hpi
  clear h hR hpi hTl
  go_enter Tryz.func61, Tryz.ntmps61
  go_wp2_with fail
  go_loopg [5, 6] (T.length + 1) (fun kk ov xv wr => ∃ (V : Value) (acc : List Int) (p : Int), V = ov ∧ xv = ptrT T p ∧ I64 p ∧ acc.length + kk = T.length + 1 ∧ wr.ownsRow w.heap.size 3 1 V acc.length (intsO acc) ∧ Below w.heap.size w wr ∧ Hid (R = acc ++ abvO (obT T) kk p))
  case atStart => exact ⟨.slice none 0 0, [], o, rfl, rfl, ho, by simp, World.ownsRow_nil _ _ _ _, Below.refl _ _, by rw [HRR.out]; exact (List.nil_append _).symm⟩
  case round =>
    obtain ⟨V, acc, p, rfl, rfl, hp, hlen, hrow, hbr, hacc⟩ := hrel
    have hrz := hbr.size
    have ht := H.out.below hbr
    have c0 := ht.c0
    have hln := ht.len 3
    obtain ⟨Av, cv, rfl⟩ : ∃ A C, V = .slice A acc.length C := by obtain ⟨A, C, e, _⟩ := own_formO hrow; exact ⟨A, C, e⟩
    rcases ptr_cases T p with ⟨hf, hpe⟩ | ⟨x, hf, hpe⟩
    · rw [hpe]
      have HROW := Lib.hid hrow
      have HBR := Lib.hid hbr
      have HF := Lib.hid hf
      have HA := Lib.hid hacc
      clear hrow hbr hf hpe ht hln hacc
      go_wp2_with fail
      go_ret
      refine ⟨_, rfl, ?_, HBR.out⟩
      rw [HA.out.out, abv_none (getO_none' HF.out), List.append_nil]
      exact HROW.out
    · rw [hpe]
      by_cases hk : acc.length ≤ T.length
      · obtain ⟨j, rfl⟩ : ∃ j, gk = j + 1 := ⟨gk - 1, by omega⟩
        have hxm := (findT_some hf).1
        have hpx := HPI.out x hxm
        have hl := ht.look hpx
        have h0 : wr.cell? ⟨x.g, 0, none⟩ = some (.int .i64 x.o.id) := H.out.cellX hbr hxm 0
        have h1 : wr.cell? ⟨x.g, 1, none⟩ = some (.int .i64 x.o.parent) := H.out.cellX hbr hxm 1
        have hgx : x.g < w.heap.size := H.out.lt x.g (List.mem_cons_of_mem _ (List.mem_cons_of_mem _ (List.mem_flatMap.2 ⟨x, hxm, OM.mem_blocks.2 (.inl rfl)⟩)))
        have hgx' : x.g < wr.heap.size := by omega
        have hacc' := hacc.out
        rw [abvO, getO_some' hf] at hacc'
        have HA := Lib.hid hacc'
        have HROW := Lib.hid hrow
        have HBR := Lib.hid hbr
        clear hrow hbr hf hpe hacc hacc' ht
        go_wp2_with (at_builtin; refine wpList_append_own _ rfl (.tmp 34) (.tmp 39) 22 rfl w.heap.size 3 i0 (.int .i64 0) 1 8 Tryz.underlying22 hi0 hz0 hz1 hz2 rfl (by decide) (.slice Av acc.length cv) acc.length (intsO acc) rfl (own_keepO HROW.out ((Below.refl _ _).alloc (Nat.le_refl _) _)) ⟨wr.heap.size, 0, none⟩ 1 1 [.int .i64 x.o.id] rfl rfl ?c1 ?c2 ?c3 ?c4 ?c5 ?c6
                     case c1 => exact cell_one_new _ _ _
                     case c2 => intro u hu; simp at hu; subst hu; rfl
                     case c3 => unfold maxLen; omega
                     case c4 => omega
                     case c5 => simp; omega
                     intro v' w11 hown' hgrow _
                     have hb11 := Below.grown (HBR.out.alloc HBR.out.size _) hgrow (by simp; omega) (fun k hk => (HROW.out.lt k hk).1)
                     have HB11 := Lib.hid hb11
                     have HO11 := Lib.hid hown'
                     have ht := H.out.below hb11
                     have c0 := ht.c0
                     have hl := ht.look hpx
                     have h1 : w11.cell? ⟨x.g, 1, none⟩ = some (.int .i64 x.o.parent) := H.out.cellX hb11 hxm 1
                     clear hown' hgrow hb11 ht)
        have hb12 : Below w.heap.size w w11.drew := HB11.out.drew
        have K1 : (w11.drew.cell? ⟨a, 0, none⟩ = some (.map (some m)) ∧ w11.drew.cell? ⟨x.g, 1, none⟩ = some (.int .i64 x.o.parent) ∧ (Instr.lookup 82 (.map (some m)) (.int .i64 x.o.parent) false).run Tryz.prog w11.drew = .ok (ptrT T x.o.parent) w11.drew) := ⟨c0, h1, (H.out.below hb12).look hpx⟩
        go_region_held3 (fun W => W.cell? ⟨a, 0, none⟩ = some (.map (some m)) ∧ W.cell? ⟨x.g, 1, none⟩ = some (.int .i64 x.o.parent) ∧ (Instr.lookup 82 (.map (some m)) (.int .i64 x.o.parent) false).run Tryz.prog W = .ok (ptrT T x.o.parent) W)
          (first | (with_reducible exact K1) | exact ⟨c0, h1, hl⟩)
          (fail)
        go_wp2_with fail
        go_roundg j
        case measure => omega
        case rel => exact ⟨v', acc ++ [x.o.id], x.o.parent, rfl, rfl, hpx, by simp; omega, by rw [intsO_app, List.length_append]; exact HO11.out, hb12, by rw [HA.out]; exact (List.append_assoc acc [x.o.id] _).symm⟩
      · have HROW := Lib.hid hrow
        have HBR := Lib.hid hbr
        have HA := Lib.hid hacc
        obtain rfl : gk = 0 := by omega
        clear hrow hbr hf hpe ht hacc
        go_wp2_with fail
        go_ret
        refine ⟨_, rfl, ?_, HBR.out⟩
        rw [HA.out.out, abvO, List.append_nil]
        exact HROW.out

end Go.Proofs.YtnphgcbknfmapaaGreatDoor
namespace Go.Proofs.YtnphgcbknfmapaaGreatDoor
open Go.RowKit Go.Lib
set_option linter.unusedVariables false

/-- What a choice of the next one answers of each object. -/
def AskN (w : World) (T : List OM) (g : Nat) (next : OB → Int) : Prop :=
  ∀ (W : World) (x : OM), Below w.heap.size w W → x ∈ T → Calls Tryz.prog g #[.pointer (some ⟨x.g, 0, none⟩)] W fun e w' => e = .returned (.int .i64 (next x.o)) ∧ W = w'
theorem nextP {w : World} {B a m : Nat} {T : List OM} {c mx : Int} (h : TabG w B a m T c mx) : AskN w T 88 OB.parent := by
  intro W x hb hx
  have h1 : W.cell? ⟨x.g, 1, none⟩ = some (.int .i64 x.o.parent) := h.cellX hb hx 1
  clear hb h
  go_enter Tryz.func88, Tryz.ntmps88
  go_wp2_with fail
  go_ret
  exact ⟨rfl, rfl⟩
theorem nextL {w : World} {B a m : Nat} {T : List OM} {c mx : Int} (h : TabG w B a m T c mx) : AskN w T 89 OB.place := by
  intro W x hb hx
  have h1 : W.cell? ⟨x.g, 3, none⟩ = some (.int .i64 x.o.place) := h.cellX hb hx 3
  clear hb h
  go_enter Tryz.func89, Tryz.ntmps89
  go_wp2_with fail
  go_ret
  exact ⟨rfl, rfl⟩

theorem oT_len (T : List OM) : (obT T).length = T.length := by simp [obT]
set_option maxRecDepth 100000 in
set_option maxHeartbeats 2000000 in
theorem ends_c {w : World} {B a m : Nat} {T : List OM} {c mx o : Int} (h : TabG w B a m T c mx) (g : Nat) (next : OB → Int) (eg : ∀ args w, (callFunc g args).run Tryz.prog w = .ok (.enter g args) w) (hp : AskN w T g next)
    (ho : I64 o) {x : OM} (hx : findT T o = some x) (hac : AcyP (obT T) next) (hni : ∀ y ∈ T, I64 (next y.o)) (hn : next x.o = -1 ∨ hasO (obT T) (next x.o) = true) :
    Calls Tryz.prog 87 #[.pointer (some ⟨a, 0, none⟩), .int .i64 o, .func (.func g) #[] #[]] w fun e w' => e = .returned (.bool true) ∧ w = w' := by
  have c0 := h.c0
  have hl := h.look ho
  rw [ptrT_some hx] at hl
  have hln := h.len 3
  have hxm := (findT_some hx).1
  have CP := Lib.hid (hp w x (Below.refl _ _) hxm)
  have HP := Lib.hid hp
  have hl2 := h.look (hni x hxm)
  have hlen := run_len hac ((obT T).length + 1) o
  have HLEN := Lib.hid (show (rowO (obT T) next o).length ≤ T.length by rw [← oT_len]; exact hlen)
  have HAC := Lib.hid hac
  have HNI := Lib.hid hni
  have H := Lib.hid h
  have hfew := h.few
  clear h hx hac hni hp hlen
  go_enter Tryz.func87, Tryz.ntmps87
  go_wp2_with fail
  refine CP.out.mono ?_
  rintro e w1 ⟨rfl, rfl⟩
  have hq : (next x.o = -1) ∨ ∃ y, ¬ next x.o = -1 ∧ findT T (next x.o) = some y := by
    by_cases e : next x.o = -1
    · exact .inl e
    · rcases hn with h1 | h1
      · exact .inl h1
      · cases hf : findT T (next x.o) with
        | none => rw [findT_none hf] at h1; cases h1
        | some y => exact .inr ⟨y, e, rfl⟩
  clear hn
  rcases hq with hq | ⟨y, hq, hy⟩
  · go_wp2_with fail
    go_loopg [1, 34] (T.length + 1) (fun kk pv iv wr => ∃ (i : Nat) (p : Int), pv = .int .i64 p ∧ iv = .int .i64 (i : Int) ∧ i + kk = T.length + 1 ∧ I64 p ∧ w = wr ∧ Hid (i + (rowO (obT T) next p).length ≤ T.length))
    case atStart => exact ⟨0, o, rfl, rfl, by omega, ho, rfl, Lib.hid (by have := HLEN.out; omega)⟩
    case round =>
      obtain ⟨i, p, rfl, rfl, hik, hp, rfl, hrl⟩ := hrel
      have hrl' := hrl.out
      have hlp := H.out.look hp
      obtain ⟨j, rfl⟩ : ∃ j, gk = j + 1 := ⟨gk - 1, by omega⟩
      rcases ptr_cases T p with ⟨hf, hpe⟩ | ⟨z, hf, hpe⟩
      · rw [hpe] at hlp
        clear hrl hrl' hf hpe
        go_wp2_with fail
        go_ret
        exact ⟨rfl, rfl⟩
      · rw [hpe] at hlp
        have hzm := (findT_some hf).1
        have CZ := Lib.hid (HP.out w z (Below.refl _ _) hzm)
        have hr2 := row_eq HAC.out (getO_some' hf)
        rw [hr2, List.length_cons] at hrl'
        have HR2 := Lib.hid (show i + 1 + (rowO (obT T) next (next z.o)).length ≤ T.length by omega)
        have hzi := HNI.out z hzm
        clear hrl hrl' hf hpe hr2
        go_wp2_with fail
        refine CZ.out.mono ?_
        rintro e w2 ⟨rfl, rfl⟩
        go_wp2_with fail
        go_roundg j
        case measure => omega
        case rel => exact ⟨i + 1, next z.o, rfl, by go_num, by omega, hzi, rfl, HR2⟩
  · rw [ptrT_some hy] at hl2
    go_wp2_with fail
    go_loopg [1, 34] (T.length + 1) (fun kk pv iv wr => ∃ (i : Nat) (p : Int), pv = .int .i64 p ∧ iv = .int .i64 (i : Int) ∧ i + kk = T.length + 1 ∧ I64 p ∧ w = wr ∧ Hid (i + (rowO (obT T) next p).length ≤ T.length))
    case atStart => exact ⟨0, o, rfl, rfl, by omega, ho, rfl, Lib.hid (by have := HLEN.out; omega)⟩
    case round =>
      obtain ⟨i, p, rfl, rfl, hik, hp, rfl, hrl⟩ := hrel
      have hrl' := hrl.out
      have hlp := H.out.look hp
      obtain ⟨j, rfl⟩ : ∃ j, gk = j + 1 := ⟨gk - 1, by omega⟩
      rcases ptr_cases T p with ⟨hf, hpe⟩ | ⟨z, hf, hpe⟩
      · rw [hpe] at hlp
        clear hrl hrl' hf hpe
        go_wp2_with fail
        go_ret
        exact ⟨rfl, rfl⟩
      · rw [hpe] at hlp
        have hzm := (findT_some hf).1
        have CZ := Lib.hid (HP.out w z (Below.refl _ _) hzm)
        have hr2 := row_eq HAC.out (getO_some' hf)
        rw [hr2, List.length_cons] at hrl'
        have HR2 := Lib.hid (show i + 1 + (rowO (obT T) next (next z.o)).length ≤ T.length by omega)
        have hzi := HNI.out z hzm
        clear hrl hrl' hf hpe hr2
        go_wp2_with fail
        refine CZ.out.mono ?_
        rintro e w2 ⟨rfl, rfl⟩
        go_wp2_with fail
        go_roundg j
        case measure => omega
        case rel => exact ⟨i + 1, next z.o, rfl, by go_num, by omega, hzi, rfl, HR2⟩

theorem number_c (n : Int) (w : World) (h0 : -1 ≤ n) (h1 : n < 1073741824) : Calls Tryz.prog 86 #[.int .i64 n] w fun e w' => e = .returned (.bool true) ∧ w = w' := by
  go_enter Tryz.func86, Tryz.ntmps86
  go_wp2_with fail
  go_ret
  exact ⟨rfl, rfl⟩
end Go.Proofs.YtnphgcbknfmapaaGreatDoor
namespace Go.Proofs.YtnphgcbknfmapaaGreatDoor
open Go.RowKit Go.Lib
set_option linter.unusedVariables false

/-- The names of an object. -/
def dfO (l : List OB) (d : Int) : List ByteArray := match getO l d with
  | none => []
  | some x => x.defs
/-- The names up a row of objects. -/
def nmR (l : List OB) (r : List Int) : List ByteArray := r.flatMap (dfO l)
def nmO (l : List OB) (o : Int) : List ByteArray := nmR l (aboveO l o)
def strsO (l : List ByteArray) : List Value := l.map Value.string
theorem strsO_app (a b : List ByteArray) : strsO (a ++ b) = strsO a ++ strsO b := List.map_append
theorem strsO_one (l : List ByteArray) : ∀ u ∈ strsO l, u.oneCell' = true := by
  intro u hu
  obtain ⟨x, _, rfl⟩ := List.mem_map.1 hu
  rfl
theorem nmR_take {l : List OB} {r : List Int} {k : Nat} {d : Int} (h : r[k]? = some d) : nmR l (r.take (k + 1)) = nmR l (r.take k) ++ dfO l d := by
  unfold nmR
  rw [List.take_succ_eq_append_getElem (List.getElem?_eq_some_iff.1 h).1, List.flatMap_append]
  simp [(List.getElem?_eq_some_iff.1 h).2]
theorem nmR_le (l : List OB) (r : List Int) (k : Nat) : (nmR l (r.take k)).length ≤ (nmR l r).length := by
  have h : nmR l r = nmR l (r.take k) ++ nmR l (r.drop k) := by
    unfold nmR
    rw [← List.flatMap_append, List.take_append_drop]
  rw [h, List.length_append]
  omega
theorem dfO_some {l : List OB} {d : Int} {x : OB} (h : getO l d = some x) : dfO l d = x.defs := by unfold dfO; rw [h]
def lstsO (l : List ByteArray) : List (List UInt8) := l.map fun n => n.data.toList
open Go.Sort in
/-- The texts rise. -/
def RiseS (l : List ByteArray) : Prop := (lstsO l).mergeSort (fun x y => decide (x ≤ y)) = lstsO l
theorem lstsO_len (l : List ByteArray) : (lstsO l).length = l.length := by simp [lstsO]
theorem strsO_lists (l : List ByteArray) : strsO l = (lstsO l).map fun t => Value.string ⟨t.toArray⟩ := by
  unfold strsO lstsO
  rw [List.map_map]
  apply List.map_congr_left
  intro n _
  simp

set_option maxRecDepth 100000 in
set_option maxHeartbeats 2000000 in
theorem names_g {w : World} {B a m : Nat} {T : List OM} {c mx o : Int} (h : TabG w B a m T c mx) (ho : I64 o) (hpi : ParI T) (hsm : (nmO (obT T) o).length ≤ 100000) (hri : RiseS (nmO (obT T) o)) :
    Calls Tryz.prog 48 #[.pointer (some ⟨a, 0, none⟩), .int .i64 o] w fun e w' => ∃ v, e = .returned v ∧ w'.ownsRow w.heap.size 9 1 v (nmO (obT T) o).length (strsO (nmO (obT T) o)) ∧ Below w.heap.size w w' := by
  obtain ⟨i0, hi0, hz0, hz1, hz2⟩ := info_parts ostr_info
  have CA := Lib.hid (above_g h ho hpi)
  have HX := Lib.hid (fun x (hx : x ∈ aboveO (obT T) o) => mem_above hx)
  have H := Lib.hid h
  have hr0 := h.rng
  have HRG := Lib.hid hr0
  have hmx := h.mxr
  unfold nmO at hsm hri ⊢
  clear h ho hpi hr0
  generalize aboveO (obT T) o = l at CA HX hsm hri ⊢
  have HRI := Lib.hid hri
  clear hri
  go_enter Tryz.func48, Tryz.ntmps48
  go_wp2_with fail
  refine CA.out.mono ?_
  rintro e w1 ⟨v, rfl, hrow, hb1⟩
  obtain ⟨A, cA, rfl, hnc, hcm, hA, hcell⟩ := own_formO hrow
  unfold maxLen at hcm
  have HB1 := Lib.hid hb1
  have HCL := Lib.hid hcell
  have HR := Lib.hid hrow
  have hs1 := hb1.size
  clear hb1 hrow hcell
  go_wp2_with fail
  go_loopg [5, 12] l.length (fun kk ov iv wr => ∃ (k : Nat) (V : Value), V = ov ∧ iv = .int .i64 (k : Int) ∧ k + kk = l.length ∧ wr.ownsRow w1.heap.size 9 1 V (nmR (obT T) (l.take k)).length (strsO (nmR (obT T) (l.take k))) ∧ Below w1.heap.size w1 wr)
  case atStart => exact ⟨0, _, rfl, rfl, by omega, World.ownsRow_nil _ _ _ _, Below.refl _ _⟩
  case round =>
    obtain ⟨k, V, rfl, rfl, hik, hown, hbr⟩ := hrel
    have hrz := hbr.size
    by_cases hk : k < l.length
    · obtain ⟨j, rfl⟩ : ∃ j, gk = j + 1 := ⟨gk - 1, by omega⟩
      obtain ⟨x, hx⟩ : ∃ x, l[k]? = some x := ⟨l[k], List.getElem?_eq_some_iff.2 ⟨hk, rfl⟩⟩
      obtain ⟨g1, rfl, hc1⟩ := HCL.out k (.int .i64 x) (by simp [intsO, hx])
      have hg1 := HR.out.lt g1 rfl
      obtain ⟨y, hym, hfy⟩ := HX.out x (List.mem_of_getElem? hx)
      have hbw : Below w.heap.size w wr := HB1.out.trans (hbr.mono hs1)
      have ht := H.out.below hbw
      have c0 := ht.c0
      have hyx := (findT_some hfy).2
      have hry := HRG.out y hym
      have hl := ht.look (o := x) ⟨by omega, by omega⟩
      rw [ptrT_some hfy] at hl
      have hcr : wr.cell? ⟨g1, k, none⟩ = some (.int .i64 x) := (hbr.cell (p := ⟨g1, k, none⟩) hg1.2).trans hc1
      have h7 : wr.cell? ⟨y.g, 7, none⟩ = some y.dv := H.out.cellX hbw hym 7
      have hle := nmR_le (obT T) l (k + 1)
      rw [nmR_take hx, dfO_some (getO_some' hfy), List.length_append] at hle
      obtain ⟨Av, cv, rfl⟩ : ∃ A C, V = .slice A (nmR (obT T) (l.take k)).length C := by obtain ⟨A, C, e, _⟩ := own_formO hown; exact ⟨A, C, e⟩
      obtain ⟨Ad, cd, hdv⟩ : ∃ A C, y.dv = .slice A y.o.defs.length C := by obtain ⟨A, C, e, _⟩ := own_formO (ht.rowD hym); exact ⟨A, C, e⟩
      have hsrc := ht.rowD hym
      rw [hdv] at hsrc h7
      have HSRC := Lib.hid hsrc
      have HOWN := Lib.hid hown
      have HBR := Lib.hid hbr
      have HNX := Lib.hid (show nmR (obT T) (l.take (k + 1)) = nmR (obT T) (l.take k) ++ y.o.defs by rw [nmR_take hx, dfO_some (getO_some' hfy)])
      clear hbr hx hfy hbw ht hc1 hry hyx hown hsrc hdv
      go_wp2_with (at_builtin; refine wpList_append_rowO rfl (.tmp 16) (.tmp 25) 25 rfl w1.heap.size 9 i0 (.string ⟨#[]⟩) 1 16 Tryz.underlying25 hi0 hz0 hz1 hz2 rfl (by decide) (.slice Av (nmR (obT T) (l.take k)).length cv) (nmR (obT T) (l.take k)).length (strsO (nmR (obT T) (l.take k))) rfl HOWN.out (.slice Ad y.o.defs.length cd) B y.o.defs.length (strsO y.o.defs) rfl HSRC.out (strsO_one _) ?c1 ?c2 ?c3 ?_
                   case c1 => unfold maxLen; omega
                   case c2 => omega
                   case c3 => omega
                   intro v' w11 hown' hgrow
                   have HB11 := Lib.hid (Below.grown HBR.out hgrow (by omega) (fun k hk => (HOWN.out.lt k hk).1))
                   have HO11 := Lib.hid hown'
                   clear hown' hgrow)
      go_roundg j
      case measure => omega
      case rel => exact ⟨k + 1, v', rfl, by go_num, by omega, by rw [HNX.out, List.length_append, strsO_app]; exact HO11.out, HB11.out⟩
    · obtain rfl : k = l.length := by omega
      rw [List.take_length] at hown
      obtain ⟨Av, cv, rfl, hnv, hcv, hAv, _⟩ := own_formO hown
      have HBR := Lib.hid hbr
      clear hbr
      by_cases h0 : (nmR (obT T) l).length = 0
      · have HOWN := Lib.hid hown
        have HV := Lib.hid h0
        have CS := Lib.hid (show ∀ W, Calls Tryz.prog 66 #[.slice Av (nmR (obT T) l).length cv] W fun e w' => e = .returned (.tuple #[]) ∧ w' = W by intro W; rw [h0]; exact Tryz.slices_Sort_string_none Av cv W)
        clear hown h0 hAv
        go_wp2_with fail
        refine (CS.out _).mono ?_
        rintro e w2 ⟨rfl, rfl⟩
        go_wp2_with fail
        go_ret
        exact ⟨_, rfl, ownsRow_base HOWN.out hs1, HB1.out.trans (HBR.out.mono hs1)⟩
      · obtain ⟨g, rfl⟩ : ∃ g, Av = some ⟨g, 0, none⟩ := by
          rcases hown.2 with ⟨e1, _⟩ | ⟨g, cap, cur, e1, _⟩
          · injection e1 with _ e2 _; exact absurd e2 h0
          · injection e1 with e1 _ _; exact ⟨g, e1⟩
        have HOWN := Lib.hid hown
        have h2 := hown
        rw [strsO_lists] at h2
        have CS := Lib.hid (sort_rises (ss := lstsO (nmR (obT T) l)) (g := g) (cap := cv) (base := w1.heap.size) (w := wr) (by rw [lstsO_len]; exact h2) (by rw [lstsO_len]; omega) HRI.out)
        rw [lstsO_len] at CS
        clear hown h2 h0 hAv
        go_wp2_with fail
        refine CS.out.mono ?_
        rintro e w2 ⟨rfl, hb2⟩
        have HB2 := Lib.hid hb2
        clear hb2
        go_wp2_with fail
        go_ret
        exact ⟨_, rfl, ownsRow_base (own_keepO HOWN.out HB2.out) hs1, HB1.out.trans ((HBR.out.trans (HB2.out.mono hrz)).mono hs1)⟩
end Go.Proofs.YtnphgcbknfmapaaGreatDoor
namespace Go.Proofs.YtnphgcbknfmapaaGreatDoor
open Go.RowKit Go.Lib
set_option linter.unusedVariables false

theorem contS_c {W : World} {B : Nat} {v : Value} {l : List ByteArray} (h : W.ownsRow B 9 1 v l.length (strsO l)) (x : ByteArray) (hl : l.length ≤ 1000000) {r : Bool} (hr : containsS l x = r) :
    Calls Tryz.prog 52 #[v, .string x] W fun e w' => e = .returned (.bool r) ∧ W = w' := by
  subst hr
  obtain ⟨A, c, rfl, hnc, hcm, hA, hcell⟩ := own_formO h
  cases l with
  | nil =>
    refine (Tryz.slices_Contains_string_empty A c x W).mono ?_
    rintro e w1 ⟨rfl, rfl⟩
    exact ⟨rfl, rfl⟩
  | cons n r =>
    obtain ⟨g, rfl, _⟩ := hcell 0 (.string n) rfl
    refine (Tryz.slices_Contains_string g 0 (n :: r).length c (n :: r) x W (Nat.le_refl _) (by omega) ?_).mono ?_
    · intro j hj
      obtain ⟨g2, e, hc⟩ := hcell j (.string ((n :: r).getD j ByteArray.empty)) (by rw [strsO, List.getElem?_map, List.getD_eq_getElem?_getD, List.getElem?_eq_getElem hj]; rfl)
      injection e with e
      injection e with e _ _
      subst e
      rw [Nat.zero_add]
      exact hc
    · rintro e w1 ⟨rfl, rfl⟩
      rw [List.take_length]
      exact ⟨rfl, rfl⟩

set_option maxHeartbeats 1000000 in
theorem same_0 (w : World) : Calls Tryz.prog 113 #[.agg #[.int .i64 0, .int .i64 0, .string ⟨#[]⟩, .slice none 0 0], .agg #[.int .i64 0, .int .i64 0, .string ⟨#[]⟩, .slice none 0 0]] w fun e w' => e = .returned (.bool true) ∧ Below w.heap.size w w' := by
  have HB := Lib.hid (((Below.refl w.heap.size w).alloc (Nat.le_refl _) (.cells #[.int .i64 0, .int .i64 0, .string ⟨#[]⟩, .slice none 0 0] 33)).alloc (by simp) (.cells #[.int .i64 0, .int .i64 0, .string ⟨#[]⟩, .slice none 0 0] 33))
  go_enter Tryz.func113, Tryz.ntmps113
  go_wp2_with fail
  refine wp_loop_rounds 1 ?_
  rw [rounds_succ]
  go_wp2_with fail
  go_ret
  exact ⟨rfl, HB.out⟩

set_option maxRecDepth 100000 in
set_option maxHeartbeats 4000000 in
theorem defs_c {w : World} {B Bd a m : Nat} {T : List OM} {c mx : Int} (h : TabG w B a m T c mx) (x : OM) (hd : w.ownsRow Bd 9 1 x.dv x.o.defs.length (strsO x.o.defs)) (hpi : ParI T) (hp : I64 x.o.parent)
    (hdl : x.o.defs.length ≤ 64) (hsm : (nmO (obT T) x.o.parent).length ≤ 100000) (hri : RiseS (nmO (obT T) x.o.parent))
    (hnm : ∀ n ∈ x.o.defs, nmB n.data.toList = true ∧ n.size ≤ 32 ∧ biB n = false ∧ containsS (nmO (obT T) x.o.parent) n = false)
    (hup : ∀ (i : Nat) (p q : ByteArray), x.o.defs[i]? = some p → x.o.defs[i + 1]? = some q → Op.bytesLess q.toList p.toList = false ∧ (q.toList == p.toList) = false) :
    Calls Tryz.prog 90 #[.pointer (some ⟨a, 0, none⟩), .agg x.cells] w fun e w' => e = .returned (.bool true) ∧ Below w.heap.size w w' := by
  obtain ⟨w0, hw0⟩ : ∃ w0, w0 = w.alloc (.cells x.cells 29) := ⟨_, rfl⟩
  have hb0 : Below w.heap.size w w0 := by rw [hw0]; exact (Below.refl _ _).alloc (Nat.le_refl _) _
  have hg0 : w0.heap[w.heap.size]? = some (.cells x.cells 29 (0, 0)) := by rw [hw0]; exact heap_alloc_new w _
  have hz0 : w0.heap.size = w.heap.size + 1 := by rw [hw0]; simp
  have CN := Lib.hid (names_g (h.below hb0) hp hpi hsm hri)
  obtain ⟨⟨id, parent, owner, place, flags, quota, name, defs, slots⟩, gx, dv0, sv0⟩ := x
  obtain ⟨A, cd, hdv, hnc, hcm, hA, hcell⟩ := own_formO (own_keepO hd hb0)
  simp only at hdv hd hdl hsm hri hnm hup hnc hcell CN hp ⊢
  subst hdv
  have HB0 := Lib.hid hb0
  have HG0 := Lib.hid hg0
  have HZ0 := Lib.hid hz0
  have HCL := Lib.hid hcell
  have HLT := Lib.hid (fun g (e : A = some ⟨g, 0, none⟩) => (own_keepO hd hb0).lt g (by rw [e]; rfl))
  have HNM := Lib.hid hnm
  have HUP := Lib.hid hup
  have HW0 := Lib.hid hw0
  unfold OM.cells at hw0
  simp only at hw0
  have HW := Lib.hid hw0
  obtain ⟨N, hN⟩ : ∃ N, N = nmO (obT T) parent := ⟨_, rfl⟩
  rw [← hN] at CN hsm HNM
  clear h hd hpi hri hnm hup hb0 hg0 hz0 hcell hw0 hA hN hp
  unfold OM.cells
  simp only
  go_enter Tryz.func90, Tryz.ntmps90
  go_wp2_with fail
  rw [← HW.out]
  refine CN.out.mono ?_
  rintro e w1 ⟨v, rfl, hrow, hb1⟩
  obtain ⟨A2, c2, rfl, _⟩ := own_formO hrow
  have hs1 := hb1.size
  have q7 : w1.cell? ⟨w.heap.size, 7, none⟩ = some (.slice A defs.length cd) := cell_of_row w1 _ 7 _ _ _ ((hb1.block _ (by rw [HZ0.out]; omega)).trans HG0.out)
  have HB1 := Lib.hid hb1
  have HROW := Lib.hid hrow
  clear hb1 hrow
  go_wp2_with fail
  go_loopg [19] defs.length (fun kk iv wr => ∃ (i : Nat), iv = .int .i64 (i : Int) ∧ i + kk = defs.length ∧ Below w1.heap.size w1 wr)
  case atStart => exact ⟨0, rfl, by omega, Below.refl _ _⟩
  case round =>
    obtain ⟨i, rfl, hik, hbr⟩ := hrel
    have hrz := hbr.size
    by_cases hi : i < defs.length
    · obtain ⟨j, rfl⟩ : ∃ j, gk = j + 1 := ⟨gk - 1, by omega⟩
      obtain ⟨n, hn⟩ : ∃ n, defs[i]? = some n := ⟨defs[i], List.getElem?_eq_some_iff.2 ⟨hi, rfl⟩⟩
      obtain ⟨g1, rfl, hc1⟩ := HCL.out i (.string n) (by simp [strsO, hn])
      have hg1 := HLT.out g1 rfl
      have hb1r := HB1.out.trans (hbr.mono hs1)
      have hcr : ∀ W, Below wr.heap.size wr W → ∀ (k : Nat) (q : ByteArray), defs[k]? = some q → W.cell? ⟨g1, k, none⟩ = some (.string q) := by
        intro W hW k q hq
        obtain ⟨g2, e2, hc2⟩ := HCL.out k (.string q) (by simp [strsO, hq])
        injection e2 with e2
        injection e2 with e2 _ _
        subst e2
        exact ((hb1r.trans (hW.mono hb1r.size)).cell (p := ⟨g1, k, none⟩) hg1.2).trans hc2
      have r0 := hcr wr (Below.refl _ _) i n hn
      have hq7 : ∀ W, Below wr.heap.size wr W → W.cell? ⟨w.heap.size, 7, none⟩ = some (.slice (some ⟨g1, 0, none⟩) defs.length cd) := fun W hW =>
        cell_of_row W _ 7 _ _ _ (((hb1r.trans (hW.mono hb1r.size)).block _ (by rw [HZ0.out]; omega)).trans HG0.out)
      obtain ⟨hnm1, hnm2, hnm3, hnm4⟩ := HNM.out n (List.mem_of_getElem? hn)
      have CNM := Lib.hid (fun W => name_any n W (by omega))
      rw [hnm1] at CNM
      have CBI := Lib.hid (fun W => obuiltin_c n W)
      rw [hnm3] at CBI
      have CCO := Lib.hid (fun W (hW : Below wr.heap.size wr W) => contS_c (own_keepO HROW.out (hbr.trans (hW.mono hrz))) n (by omega) hnm4)
      have HCR := Lib.hid hcr
      have HQ7 := Lib.hid hq7
      have HBR := Lib.hid hbr
      have HN := Lib.hid hn
      clear hc1 hb1r hcr hq7 hnm1 hnm3 hnm4 hbr hn
      go_wp2_with fail
      refine (CNM.out _).mono ?_
      rintro e w2 ⟨rfl, rfl⟩
      go_wp2_with fail
      refine (CBI.out _).mono ?_
      rintro e w2 ⟨rfl, hb2⟩
      have q7 := HQ7.out w2 hb2
      have HB2 := Lib.hid hb2
      clear hb2
      by_cases h0 : i = 0
      · subst h0
        go_wp2_with fail
        refine (CCO.out _ HB2.out).mono ?_
        rintro e w3 ⟨rfl, rfl⟩
        go_wp2_with fail
        go_roundg j
        case measure => omega
        case rel => exact ⟨1, rfl, by omega, HBR.out.trans (HB2.out.mono hrz)⟩
      · obtain ⟨p, rfl⟩ : ∃ p, i = p + 1 := ⟨i - 1, by omega⟩
        obtain ⟨u, hu⟩ : ∃ u, defs[p]? = some u := ⟨defs[p], List.getElem?_eq_some_iff.2 ⟨by omega, rfl⟩⟩
        have r1 := HCR.out w2 HB2.out p u hu
        obtain ⟨hu1, hu2⟩ := HUP.out p u n hu HN.out
        clear hu
        go_wp2_with fail
        refine (CCO.out _ HB2.out).mono ?_
        rintro e w3 ⟨rfl, rfl⟩
        go_wp2_with fail
        go_roundg j
        case measure => omega
        case rel => exact ⟨p + 2, by go_num, by omega, HBR.out.trans (HB2.out.mono hrz)⟩
    · obtain rfl : i = defs.length := by omega
      have HBR := Lib.hid hbr
      clear hbr
      go_wp2_with fail
      go_ret
      exact ⟨rfl, HB0.out.trans ((HB1.out.trans (HBR.out.mono hs1)).mono HB0.out.size)⟩
end Go.Proofs.YtnphgcbknfmapaaGreatDoor
namespace Go.Proofs.YtnphgcbknfmapaaGreatDoor
open Go.RowKit Go.Lib
set_option linter.unusedVariables false

/-- An object that is new, without properties, where it lies. -/
def newM (mx p ow : Int) (g : Nat) : OM := ⟨newO mx p ow [], g, .slice none 0 0, .slice none 0 0⟩
theorem Tab.grow {w w' : World} {B a m : Nat} {T : List OM} {mx p ow : Int} (h : Tab w B a m T mx) (g : Nat) (hg : w.heap.size ≤ g)
    (htab : w'.heap[a]? = some (.cells #[.map (some m), .int .i64 (mx + 1)] 84 (0, 0)))
    (hmap : w'.ownsMap Tryz.prog 3 ptrR m (T.length + 1) ((DataW.map (datT T)).put (.int .i64 (mx + 1)) (.lit (.int .i64 (g : Int)))))
    (hnew : w'.heap[g]? = some (.cells (newM mx p ow g).cells 29 (0, 0)))
    (hold : ∀ b ∈ blkT T, w'.heap[b]? = w.heap[b]?) (hf : T.length < 512) (hm : mx + 1 < 1073741824) : Tab w' B a m (T ++ [newM mx p ow g]) (mx + 1) := by
  have hlt := h.lt
  have hB := h.base a (List.mem_cons_self ..)
  have hla := hlt a (List.mem_cons_self ..)
  have hmx := h.mxr
  have hid : (newM mx p ow g).o.id = mx + 1 := rfl
  have hbk : blkT (T ++ [newM mx p ow g]) = blkT T ++ [g] := by simp [blkT, OM.blocks, newM, Value.ownBlock]
  have hlast : ∀ y ∈ T, y.o.id < (newM mx p ow g).o.id := fun y hy => by have := h.rng y hy; rw [hid]; omega
  refine ⟨htab, ?_, ?_, ?_, ?_, ?_, by simp; omega, by omega, ?_⟩
  · have e := datT_put T (newM mx p ow g) hlast
    rw [hid] at e
    rw [show (T ++ [newM mx p ow g]).length = T.length + 1 from by simp, ← e]
    exact hmap
  · intro x hx
    rcases List.mem_append.1 hx with hx | hx
    · exact (h.objs x hx).keep fun b hb => hold b (List.mem_flatMap.2 ⟨x, hx, hb⟩)
    · rw [List.mem_singleton] at hx
      subst hx
      exact ⟨hnew, World.ownsRow_nil _ _ _ _, World.ownsRow_nil _ _ _ _⟩
  · rw [hbk]
    have hs := h.sep
    rw [show a :: m :: (blkT T ++ [g]) = (a :: m :: blkT T) ++ [g] from rfl, List.nodup_append]
    refine ⟨hs, by simp, ?_⟩
    intro x hx y hy e
    rw [List.mem_singleton] at hy
    have := hlt x hx
    omega
  · rw [hbk]
    intro b hb
    rw [show a :: m :: (blkT T ++ [g]) = (a :: m :: blkT T) ++ [g] from rfl] at hb
    rcases List.mem_append.1 hb with hb | hb
    · exact h.base b hb
    · rw [List.mem_singleton] at hb
      omega
  · unfold SortO obT
    rw [List.map_append, List.pairwise_append]
    refine ⟨h.sort, by simp, ?_⟩
    intro x hx y hy
    obtain ⟨z, hz, rfl⟩ := List.mem_map.1 hx
    simp only [List.map_cons, List.map_nil, List.mem_singleton] at hy
    subst hy
    exact hlast z hz
  · intro x hx
    rcases List.mem_append.1 hx with hx | hx
    · have := h.rng x hx; omega
    · rw [List.mem_singleton] at hx
      subst hx
      rw [hid]
      omega
end Go.Proofs.YtnphgcbknfmapaaGreatDoor
namespace Go.Proofs.YtnphgcbknfmapaaGreatDoor
open Go.RowKit Go.Lib
set_option linter.unusedVariables false

def Falls (rk : Int → Nat) (l : List OB) : Prop := ∀ x ∈ l, ∀ y ∈ l, x.parent = y.id → rk y.id < rk x.id
theorem Falls.setP {rk : Int → Nat} {l : List OB} (h : Falls rk l) {c p : Int} (hp : (∀ x ∈ l, x.id ≠ p) ∨ rk p < rk c) : Falls rk (updO l c (setP p)) := by
  intro x hx y hy e
  obtain ⟨u, hu, hux⟩ := mem_updO hx
  obtain ⟨v, hv, hvy⟩ := mem_updO hy
  have hvid : y.id = v.id := by rcases hvy with ⟨_, rfl⟩ | ⟨_, rfl⟩ <;> rfl
  rw [hvid] at e ⊢
  rcases hux with ⟨huc, rfl⟩ | ⟨huc, rfl⟩
  · have e' : p = v.id := e
    show rk v.id < rk u.id
    rcases hp with hp | hp
    · exact absurd e'.symm (hp v hv)
    · rw [← e', huc]; exact hp
  · exact h x hu v hv e
theorem Falls.row {rk : Int → Nat} {l : List OB} (h : Falls rk l) {c p : Int} (hp : (∀ x ∈ l, x.id ≠ p) ∨ rk p < rk c) : c ∉ rowO l OB.parent p := by
  rcases hp with hp | hp
  · rw [row_none (getO_none.2 hp)]
    simp
  · intro hc
    have := ((run_falls h (l.length + 1) p).2 c hc).1
    omega
theorem ids_none {l : List OB} {p : Int} (h : ∀ x ∈ l, x.id ≠ p) (c : Int) (f : OB → OB) (hf : ∀ x, (f x).id = x.id) : ∀ x ∈ updO l c f, x.id ≠ p := by
  intro x hx
  obtain ⟨u, hu, ⟨_, rfl⟩ | ⟨_, rfl⟩⟩ := mem_updO hx
  · rw [hf]; exact h u hu
  · exact h x hu
theorem foldl_snoc_take {α : Type} (g : α → Int → α) (a : α) {r : List Int} {k : Nat} {x : Int} (h : r[k]? = some x) : (r.take (k + 1)).foldl g a = g ((r.take k).foldl g a) x := by
  rw [List.take_add_one, h]
  simp

theorem blkT_filter {T : List OM} (q : OM → Bool) : (blkT (T.filter q)).Sublist (blkT T) := by
  unfold blkT
  induction T with
  | nil => simp
  | cons x r ih =>
    rw [List.filter_cons, List.flatMap_cons]
    cases q x with
    | true => simp only [if_true, List.flatMap_cons]; exact (List.Sublist.refl _).append ih
    | false => exact ih.trans (List.sublist_append_right _ _)
theorem Tab.drop {w w' : World} {B a m n : Nat} {T : List OM} {mx : Int} (h : Tab w B a m T mx) (o : Int) (hmap : w'.ownsMap Tryz.prog 3 ptrR m n ((DataW.map (datT T)).del (.int .i64 o))) (hold : ∀ b, b < w.heap.size → b ≠ m → w'.heap[b]? = w.heap[b]?) : Tab w' B a m (T.filter fun x => !(x.o.id == o)) mx := by
  have hs := h.sep
  have hlt := h.lt
  have hs' := hs
  rw [List.nodup_cons, List.nodup_cons] at hs'
  have hsub := blkT_filter (T := T) (fun x => !(x.o.id == o))
  have hmem : ∀ b ∈ a :: m :: blkT (T.filter fun x => !(x.o.id == o)), b ∈ a :: m :: blkT T := fun b hb => by
    rcases List.mem_cons.1 hb with rfl | hb
    · exact List.mem_cons_self ..
    rcases List.mem_cons.1 hb with rfl | hb
    · exact List.mem_cons_of_mem _ (List.mem_cons_self ..)
    exact List.mem_cons_of_mem _ (List.mem_cons_of_mem _ (hsub.subset hb))
  refine ⟨?_, ?_, ?_, ?_, fun b hb => h.base b (hmem b hb), ?_, Nat.le_trans (List.length_filter_le _ _) h.few, h.mxr, fun x hx => h.rng x (List.mem_filter.1 hx).1⟩
  · rw [hold a (hlt a (List.mem_cons_self ..)) (fun e => hs'.1 (by rw [e]; exact List.mem_cons_self ..))]
    exact h.tab
  · rw [datT_del] at hmap
    have := ownsMap_size hmap
    rw [datT_size] at this
    exact this
  · intro x hx
    have hxm := (List.mem_filter.1 hx).1
    refine (h.objs x hxm).keep fun b hb => ?_
    have hbm : b ∈ blkT T := List.mem_flatMap.2 ⟨x, hxm, hb⟩
    exact hold b (hlt b (List.mem_cons_of_mem _ (List.mem_cons_of_mem _ hbm))) (fun e => hs'.2.1 (by rw [← e]; exact hbm))
  · exact List.Nodup.sublist ((List.Sublist.refl [a, m]).append hsub) hs
  · unfold SortO obT
    exact List.Pairwise.sublist ((List.filter_sublist).map OM.o) h.sort
end Go.Proofs.YtnphgcbknfmapaaGreatDoor
namespace Go.Proofs.YtnphgcbknfmapaaGreatDoor
open Go.RowKit Go.Lib
set_option linter.unusedVariables false

/-- What holds while the children are given another parent. -/
structure RcP (w wr : World) (B a m : Nat) (T Tk : List OM) (mx : Int) (rk : Int → Nat) (o : Int) (x0 : OM) (k : Nat) : Prop where
  stp : Stp w wr B a m T Tk mx mx
  eq : obT Tk = ((kidsO (obT T) o).take k).foldl (fun l c => updO l c (setP x0.o.parent)) (obT T)
  at_ : findT Tk o = some x0
  fal : Falls rk (obT Tk)
  par : (∀ x ∈ obT Tk, x.id ≠ x0.o.parent) ∨ rk x0.o.parent < rk o
  ids : idsO (obT Tk) = idsO (obT T)
theorem RcP.step {w wr w2 : World} {B a m : Nat} {T Tk : List OM} {mx : Int} {rk : Int → Nat} {o : Int} {x0 : OM} {k : Nat} {c : Int} (h : RcP w wr B a m T Tk mx rk o x0 k) (hc : (kidsO (obT T) o)[k]? = some c) (hrc : rk o < rk c)
    (hpp : x0.o.parent = -1 ∨ hasO (obT Tk) x0.o.parent = true) (hT : Tab w2 B a m (updT Tk c (setP x0.o.parent)) mx) (hch : Chg (fun b => b ∈ blkT Tk) wr w2) : RcP w w2 B a m T (updT Tk c (setP x0.o.parent)) mx rk o x0 (k + 1) := by
  have hlt : (∀ x ∈ obT Tk, x.id ≠ x0.o.parent) ∨ rk x0.o.parent < rk c := h.par.imp id fun h1 => Nat.lt_trans h1 hrc
  have hne : c ≠ o := fun e => by rw [e] at hrc; exact Nat.lt_irrefl _ hrc
  refine ⟨h.stp.trans (Stp.under h.stp.tb (Below.refl _ _) hT hch hpp (h.fal.row hlt)), ?_, ?_, ?_, ?_, ?_⟩
  · rw [obT_upd, h.eq, foldl_snoc_take _ _ hc]
  · rw [findT_upd Tk c (setP x0.o.parent) (fun _ => rfl), h.at_]
    have := (findT_some h.at_).2
    have e : (x0.o.id == c) = false := by rw [this]; simpa using Ne.symm hne
    simp only [Option.map_some, e]
    rfl
  · rw [obT_upd]
    exact h.fal.setP hlt
  · rw [obT_upd]
    exact h.par.imp (fun h1 => ids_none h1 c (setP x0.o.parent) (fun _ => rfl)) id
  · rw [obT_upd, updO_ids _ _ (setP x0.o.parent) (fun _ => rfl), h.ids]
/-- What holds while what was within is put nowhere. -/
structure RcL (w wr : World) (B a m : Nat) (T T1 Tk : List OM) (mx : Int) (o : Int) (k : Nat) : Prop where
  stp : Stp w wr B a m T Tk mx mx
  eq : obT Tk = ((contO (obT T1) o).take k).foldl (fun l c => updO l c (setL (-1))) (obT T1)
  ids : idsO (obT Tk) = idsO (obT T)
theorem RcL.step {w wr : World} {B a m : Nat} {T T1 Tk : List OM} {mx : Int} {o : Int} {k : Nat} {c : Int} (h : RcL w wr B a m T T1 Tk mx o k) (hc : (contO (obT T1) o)[k]? = some c) {x : OM} (hx : findT Tk c = some x) :
    RcL w (wr.setCell ⟨x.g, 3, none⟩ (.int .i64 (-1))) B a m T T1 (updT Tk c (setL (-1))) mx o (k + 1) := by
  have hxm := (findT_some hx).1
  have ht := h.stp.tb
  refine ⟨h.stp.trans ⟨⟨ht.tab.store hx 3 (.int .i64 (-1)) (setL (-1)) (fun _ => rfl) rfl rfl rfl, ?_, ht.bare.upd c _⟩, Chg.set _ (List.mem_cons_of_mem _ (List.mem_cons_of_mem _ (blk_in hxm))) _, ?_⟩, ?_, ?_⟩
  · rw [obT_upd]
    exact ht.ok.move (.inl rfl) (by rw [row_none (by rw [getO_obT, ht.tab.neg]; rfl)]; simp)
  · intro b hb
    rw [blkT_upd] at hb
    exact .inl hb
  · rw [obT_upd, h.eq, foldl_snoc_take _ _ hc]
  · rw [obT_upd, updO_ids _ _ (setL (-1)) (fun _ => rfl), h.ids]
end Go.Proofs.YtnphgcbknfmapaaGreatDoor
namespace Go.Proofs.YtnphgcbknfmapaaGreatDoor
open Go.RowKit Go.Lib
set_option linter.unusedVariables false

end Go.Proofs.YtnphgcbknfmapaaGreatDoor
namespace Go.Proofs.YtnphgcbknfmapaaGreatDoor
open Go.RowKit Go.Lib
set_option linter.unusedVariables false

end Go.Proofs.YtnphgcbknfmapaaGreatDoor
namespace Go.Proofs.YtnphgcbknfmapaaGreatDoor
open Go.RowKit Go.Lib
set_option linter.unusedVariables false

theorem Stp.below {w w' : World} {B a m : Nat} {T T' : List OM} {mx mx' : Int} (k : Stp w w' B a m T T' mx mx') (h : TB w B a m T mx) (hB : B ≤ w.heap.size) : Below B w w' := k.chg.below hB fun i hi => h.tab.base i hi
theorem oret_int {k : IntKind} {a b : Int} (h : a = b) : Ending.returned (.int k a) = .returned (.int k b) := by rw [h]
theorem otmod (n : Int) (b : Int) (hb : 0 < b) : (Int.tmod n b < 0 → n % b = Int.tmod n b + b) ∧ (¬ Int.tmod n b < 0 → n % b = Int.tmod n b) ∧ -b < Int.tmod n b ∧ Int.tmod n b < b := by
  have h0 : n % b = (Int.tmod n b) % b := by
    conv => lhs; rw [← Int.tmod_add_mul_tdiv n b]
    rw [Int.add_mul_emod_self_left]
  have ht1 : Int.tmod n b < b := Int.tmod_lt_of_pos n (by omega)
  have ht0 : -b < Int.tmod n b := by
    by_cases h : 0 ≤ n
    · have := Int.tmod_nonneg b h; omega
    · have h1 := Int.tmod_lt_of_pos (-n) hb
      rw [Int.neg_tmod] at h1; omega
  refine ⟨fun h => ?_, fun h => ?_, ht0, ht1⟩
  · rw [h0, ← Int.add_emod_right, Int.emod_eq_of_lt (by omega) (by omega)]
  · rw [h0, Int.emod_eq_of_lt (by omega) (by omega)]
theorem onumber_c (n b : Int) (w : World) (hn : I64 n) (h0 : 0 < b) (h1 : b ≤ 1000000) :
    Calls Tryz.prog 10 #[.int .i64 n, .int .i64 b] w fun e w' => e = .returned (.int .i64 (n % b)) ∧ w = w' := by
  obtain ⟨hn1, hn2⟩ := hn
  obtain ⟨he1, he2, ht0, ht1⟩ := otmod n b h0
  have hbz : (b == 0) = false := by simp; omega
  obtain ⟨r, hr⟩ : ∃ r, r = n % b := ⟨_, rfl⟩
  rw [← hr] at he1 he2 ⊢
  clear hr
  by_cases hneg : Int.tmod n b < 0
  · have hd : decide (Int.tmod n b < 0) = true := decide_eq_true hneg
    have HE := Lib.hid (he1 hneg)
    clear he1 he2
    go_enter Tryz.func10, Tryz.ntmps10
    go_wp2_with fail
    go_ret
    exact ⟨oret_int HE.out.symm, rfl⟩
  · have hd : decide (Int.tmod n b < 0) = false := decide_eq_false hneg
    have HE := Lib.hid (he2 hneg)
    clear he1 he2
    go_enter Tryz.func10, Tryz.ntmps10
    go_wp2_with fail
    go_ret
    exact ⟨oret_int HE.out.symm, rfl⟩
/-- A row of numbers that was handed in. -/
def ArgI (W : World) (A : Option Addr) (l : List Int) : Prop := (∀ x ∈ l, I64 x) ∧ (l = [] ∨ ∃ b o, A = some ⟨b, o, none⟩ ∧ b < W.heap.size ∧ ∀ (j : Nat) (x : Int), l[j]? = some x → W.cell? ⟨b, o + j, none⟩ = some (.int .i64 x))
theorem ArgI.at_ {W w : World} {A : Option Addr} {l : List Int} (h : ArgI W A l) (hb : Below W.heap.size W w) {j : Nat} {x : Int} (hj : l[j]? = some x) : I64 x ∧ ∃ b o, A = some ⟨b, o, none⟩ ∧ w.cell? ⟨b, o + j, none⟩ = some (.int .i64 x) := by
  obtain ⟨h1, h2⟩ := h
  refine ⟨h1 x (List.mem_of_getElem? hj), ?_⟩
  rcases h2 with rfl | ⟨b, o, rfl, hlt, hc⟩
  · simp at hj
  · exact ⟨b, o, rfl, (hb.cell (p := ⟨b, o + j, none⟩) hlt).trans (hc j x hj)⟩
end Go.Proofs.YtnphgcbknfmapaaGreatDoor
