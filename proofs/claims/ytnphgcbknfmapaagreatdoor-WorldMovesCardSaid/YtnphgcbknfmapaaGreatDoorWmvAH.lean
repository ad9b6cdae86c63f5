/- Contracts of the functions that the statement reaches, and the plain mathematics beneath: several texts joined. -/
import Derived.Test.YtnphgcbknfmapaaGreatDoorWmvAD
namespace Go.Proofs.YtnphgcbknfmapaaGreatDoor
open Go.RowKit Go.Lib
set_option linter.unusedVariables false

/-- What a choice of the next one answers of each object. -/
def AskN (w : World) (T : List OM) (g : Nat) (next : OB → Int) : Prop :=
  ∀ (W : World) (x : OM), Below w.heap.size w W → x ∈ T → Calls Tryz.prog g #[.pointer (some ⟨x.g, 0, none⟩)] W fun e w' => e = .returned (.int .i64 (next x.o)) ∧ W = w'
theorem nextP {w : World} {B a m : Nat} {T : List OM} {c mx : Int} (h : TabG w B a m T c mx) : AskN w T 88 OB.parent := by
  intro W x hb hx
  have h1 : W.cell? ⟨x.g, 1, none⟩ = some (.int .i64 x.o.parent) := h.cellX hb hx 1
  clear hb h
  go_enter Tryz.func88, Tryz.ntmps88
  go_wp2_with fail
  go_ret
  exact ⟨rfl, rfl⟩
theorem nextL {w : World} {B a m : Nat} {T : List OM} {c mx : Int} (h : TabG w B a m T c mx) : AskN w T 89 OB.place := by
  intro W x hb hx
  have h1 : W.cell? ⟨x.g, 3, none⟩ = some (.int .i64 x.o.place) := h.cellX hb hx 3
  clear hb h
  go_enter Tryz.func89, Tryz.ntmps89
  go_wp2_with fail
  go_ret
  exact ⟨rfl, rfl⟩

theorem oT_len (T : List OM) : (obT T).length = T.length := by simp [obT]
set_option maxRecDepth 100000 in
set_option maxHeartbeats 2000000 in
theorem ends_c {w : World} {B a m : Nat} {T : List OM} {c mx o : Int} (h : TabG w B a m T c mx) (g : Nat) (next : OB → Int) (eg : ∀ args w, (callFunc g args).run Tryz.prog w = .ok (.enter g args) w) (hp : AskN w T g next)
    (ho : I64 o) {x : OM} (hx : findT T o = some x) (hac : AcyP (obT T) next) (hni : ∀ y ∈ T, I64 (next y.o)) (hn : next x.o = -1 ∨ hasO (obT T) (next x.o) = true) :
    Calls Tryz.prog 87 #[.pointer (some ⟨a, 0, none⟩), .int .i64 o, .func (.func g) #[] #[]] w fun e w' => e = .returned (.bool true) ∧ w = w' := by
  have c0 := h.c0
  have hl := h.look ho
  rw [ptrT_some hx] at hl
  have hln := h.len 3
  have hxm := (findT_some hx).1
  have CP := Lib.hid (hp w x (Below.refl _ _) hxm)
  have HP := Lib.hid hp
  have hl2 := h.look (hni x hxm)
  have hlen := run_len hac ((obT T).length + 1) o
  have HLEN := Lib.hid (show (rowO (obT T) next o).length ≤ T.length by rw [← oT_len]; exact hlen)
  have HAC := Lib.hid hac
  have HNI := Lib.hid hni
  have H := Lib.hid h
  have hfew := h.few
  clear h hx hac hni hp hlen
  go_enter Tryz.func87, Tryz.ntmps87
  go_wp2_with fail
  refine CP.out.mono ?_
  rintro e w1 ⟨rfl, rfl⟩
  have hq : (next x.o = -1) ∨ ∃ y, ¬ next x.o = -1 ∧ findT T (next x.o) = some y := by
    by_cases e : next x.o = -1
    · exact .inl e
    · rcases hn with h1 | h1
      · exact .inl h1
      · cases hf : findT T (next x.o) with
        | none => rw [findT_none hf] at h1; cases h1
        | some y => exact .inr ⟨y, e, rfl⟩
  clear hn
  rcases hq with hq | ⟨y, hq, hy⟩
  · go_wp2_with fail
    go_loopg [1, 34] (T.length + 1) (fun kk pv iv wr => ∃ (i : Nat) (p : Int), pv = .int .i64 p ∧ iv = .int .i64 (i : Int) ∧ i + kk = T.length + 1 ∧ I64 p ∧ w = wr ∧ Hid (i + (rowO (obT T) next p).length ≤ T.length))
    case atStart => exact ⟨0, o, rfl, rfl, by omega, ho, rfl, Lib.hid (by have := HLEN.out; omega)⟩
    case round =>
      obtain ⟨i, p, rfl, rfl, hik, hp, rfl, hrl⟩ := hrel
      have hrl' := hrl.out
      have hlp := H.out.look hp
      obtain ⟨j, rfl⟩ : ∃ j, gk = j + 1 := ⟨gk - 1, by omega⟩
      rcases ptr_cases T p with ⟨hf, hpe⟩ | ⟨z, hf, hpe⟩
      · rw [hpe] at hlp
        clear hrl hrl' hf hpe
        go_wp2_with fail
        go_ret
        exact ⟨rfl, rfl⟩
      · rw [hpe] at hlp
        have hzm := (findT_some hf).1
        have CZ := Lib.hid (HP.out w z (Below.refl _ _) hzm)
        have hr2 := row_eq HAC.out (getO_some' hf)
        rw [hr2, List.length_cons] at hrl'
        have HR2 := Lib.hid (show i + 1 + (rowO (obT T) next (next z.o)).length ≤ T.length by omega)
        have hzi := HNI.out z hzm
        clear hrl hrl' hf hpe hr2
        go_wp2_with fail
        refine CZ.out.mono ?_
        rintro e w2 ⟨rfl, rfl⟩
        go_wp2_with fail
        go_roundg j
        case measure => omega
        case rel => exact ⟨i + 1, next z.o, rfl, by go_num, by omega, hzi, rfl, HR2⟩
  · rw [ptrT_some hy] at hl2
    go_wp2_with fail
    go_loopg [1, 34] (T.length + 1) (fun kk pv iv wr => ∃ (i : Nat) (p : Int), pv = .int .i64 p ∧ iv = .int .i64 (i : Int) ∧ i + kk = T.length + 1 ∧ I64 p ∧ w = wr ∧ Hid (i + (rowO (obT T) next p).length ≤ T.length))
    case atStart => exact ⟨0, o, rfl, rfl, by omega, ho, rfl, Lib.hid (by have := HLEN.out; omega)⟩
    case round =>
      obtain ⟨i, p, rfl, rfl, hik, hp, rfl, hrl⟩ := hrel
      have hrl' := hrl.out
      have hlp := H.out.look hp
      obtain ⟨j, rfl⟩ : ∃ j, gk = j + 1 := ⟨gk - 1, by omega⟩
      rcases ptr_cases T p with ⟨hf, hpe⟩ | ⟨z, hf, hpe⟩
      · rw [hpe] at hlp
        clear hrl hrl' hf hpe
        go_wp2_with fail
        go_ret
        exact ⟨rfl, rfl⟩
      · rw [hpe] at hlp
        have hzm := (findT_some hf).1
        have CZ := Lib.hid (HP.out w z (Below.refl _ _) hzm)
        have hr2 := row_eq HAC.out (getO_some' hf)
        rw [hr2, List.length_cons] at hrl'
        have HR2 := Lib.hid (show i + 1 + (rowO (obT T) next (next z.o)).length ≤ T.length by omega)
        have hzi := HNI.out z hzm
        clear hrl hrl' hf hpe hr2
        go_wp2_with fail
        refine CZ.out.mono ?_
        rintro e w2 ⟨rfl, rfl⟩
        go_wp2_with fail
        go_roundg j
        case measure => omega
        case rel => exact ⟨i + 1, next z.o, rfl, by go_num, by omega, hzi, rfl, HR2⟩

theorem number_c (n : Int) (w : World) (h0 : -1 ≤ n) (h1 : n < 1073741824) : Calls Tryz.prog 86 #[.int .i64 n] w fun e w' => e = .returned (.bool true) ∧ w = w' := by
  go_enter Tryz.func86, Tryz.ntmps86
  go_wp2_with fail
  go_ret
  exact ⟨rfl, rfl⟩
end Go.Proofs.YtnphgcbknfmapaaGreatDoor
