/- Contracts of the functions that the statement reaches, and the plain mathematics beneath: several texts joined. -/
import Derived.Laws.ResultCell
import Derived.Lib.SmallJoins
import Derived.Lib.AppendIntMem
import Derived.Lib.ReplaceLaws
import Derived.Lib.Join
import Derived.Deep.RegionLaw
import Derived.Deep.AppendLies
import Derived.Shelf.GgClosure.Gives
import Derived.Test.YtggngahmafbihaaGreatDoorRows
import Derived.Stop.LaidErr
import Derived.Lib.LaidTab
import Derived.ProofKit
import Derived.Test.YtggngahmafbihaaGreatDoorPbiAE
import Derived.Test.YtggngahmafbihaaGreatDoorShelf
import Derived.Test.YtggngahmafbihaaGreatDoorPbiAA
namespace Go.Proofs.YtggngahmafbihaaGreatDoor
open Go.RowKit Go.Lib
set_option linter.unusedVariables false

/-- A struct of four cells and an error handed back. -/
theorem ret_cell4_tmp {fn : Func} {p u : Tmp} {Q : Ending → World → Prop} {act : Act} {w : World} (h : fn.results = #[.cell p 28, .tmp u]) (g : Nat) (hp : act.tmps.getD p undef = .pointer (some ⟨g, 0, none⟩)) (hd : act.defers = [])
    {a b c d : Value} (hS : StB w g a b c d) (hQ : Q (.returned (.tuple #[.agg #[a, b, c, d], act.tmps.getD u undef])) w) : bodyPost Tryz.prog fn Q .ret act w := by
  refine bodyPost_ret (v := .tuple #[.agg #[a, b, c, d], act.tmps.getD u undef]) ?_ hd hQ
  have c0 := hS.c0
  have c1 := hS.c1
  have c2 := hS.c2
  have c3 := hS.c3
  have hp' : (act.tmps[p]?).getD undef = .pointer (some ⟨g, 0, none⟩) := by simpa using hp
  simp [results, h, hp', go_sem, c0, c1, c2, c3]

/-- What the reader makes of a text. -/
def rdV (s : ByteArray) : Nat × Bool × VL := valSp s (2 * s.size + 2) 0
/-- It stops at a sign. -/
def rdBad (s : ByteArray) : Prop := ¬ ((rdV s).2.1 = true ∧ s.size ≤ (rdV s).1)

/-- What a call of Read shows. -/
def RdOut (ea : Nat → Addr) (s : ByteArray) (w : World) (e : Ending) (w' : World) : Prop :=
  Below w.heap.size w w' ∧
  ((rdBad s ∧ ∃ A, w.heap.size ≤ A ∧ w'.heap[A]? = some (.cells #[.int .i64 (rdV s).1, errV ea 111] 73 (0, 0)) ∧
      e = .returned (.tuple #[.agg #[.int .i64 0, .int .i64 0, .string ⟨#[]⟩, .slice none 0 0], .iface 70 (.pointer (some ⟨A, 0, none⟩))])) ∨
   (¬ rdBad s ∧ ∃ (k n : Int) (t : ByteArray) (sub : VL), (rdV s).2.2 = val1 k n t sub ∧
      (((walk1 k n t sub 1 4096).1 ≠ 0 ∧ e = .returned (.tuple #[.agg #[.int .i64 0, .int .i64 0, .string ⟨#[]⟩, .slice none 0 0], errV ea (walk1 k n t sub 1 4096).1])) ∨
       ((walk1 k n t sub 1 4096).1 = 0 ∧ ∃ (sa : Option Addr) (sc : Nat), sub.len ≤ sc ∧ RpL w' (fun b => w.heap.size ≤ b ∧ b < w'.heap.size) sub sa ∧
          e = .returned (.tuple #[.agg #[.int .i64 k, .int .i64 n, .string t, .slice sa sub.len sc], .nilIface])))))

theorem RdAt.new (W : World) (s : ByteArray) (i : Nat) (ok : Bool) : RdAt (W.alloc (.cells #[.string s, .int .i64 i, .bool ok] 181)) W.heap.size s i ok := by unfold RdAt World.alloc; simp

theorem RdBad.a {w w5 : World} (hb : Below w.heap.size w w5) (hz : w.heap.size < w5.heap.size) {a b c d : Value} (H : StB w5 w.heap.size a b c d) (o : Obj) (a' b' c' d' : Value) :
    let W' := (((((w5.setCell ⟨w.heap.size, 0, none⟩ a').setCell ⟨w.heap.size, 1, none⟩ b').setCell ⟨w.heap.size, 2, none⟩ c').setCell ⟨w.heap.size, 3, none⟩ d').alloc o).drew
    StB W' w.heap.size a' b' c' d' ∧ Below w.heap.size w W' ∧ W'.heap[w5.heap.size]? = some o := by
  refine ⟨(H.set4 a' b' c' d').alloc o, ?_, ?_⟩
  · refine Below.drew (Below.alloc (Below.setCell (Below.setCell (Below.setCell (Below.setCell hb ?_ _) ?_ _) ?_ _) ?_ _) ?_ _)
    · exact Nat.le_refl _
    · exact Nat.le_refl _
    · exact Nat.le_refl _
    · exact Nat.le_refl _
    · rw [size_set4]; omega
  · have h : ∀ W : World, (W.alloc o).drew.heap[W.heap.size]? = some o := fun W => by
      show (W.alloc o).heap[W.heap.size]? = some o
      unfold World.alloc; simp
    have := h ((((w5.setCell ⟨w.heap.size, 0, none⟩ a').setCell ⟨w.heap.size, 1, none⟩ b').setCell ⟨w.heap.size, 2, none⟩ c').setCell ⟨w.heap.size, 3, none⟩ d')
    rw [size_set4] at this; exact this
theorem RdBad.b {w w5 : World} (hb : Below w.heap.size w w5) (hz : w.heap.size < w5.heap.size) {a b c d : Value} (H : StB w5 w.heap.size a b c d) (o : Obj) (a' b' c' d' : Value) :
    let W' := (((((w5.alloc o).setCell ⟨w.heap.size, 0, none⟩ a').setCell ⟨w.heap.size, 1, none⟩ b').setCell ⟨w.heap.size, 2, none⟩ c').setCell ⟨w.heap.size, 3, none⟩ d').drew
    StB W' w.heap.size a' b' c' d' ∧ Below w.heap.size w W' ∧ W'.heap[w5.heap.size]? = some o := by
  refine ⟨(H.alloc o).set4 a' b' c' d', ?_, ?_⟩
  · refine Below.drew (Below.setCell (Below.setCell (Below.setCell (Below.setCell (Below.alloc hb (by omega) _) ?_ _) ?_ _) ?_ _) ?_ _)
    · exact Nat.le_refl _
    · exact Nat.le_refl _
    · exact Nat.le_refl _
    · exact Nat.le_refl _
  · show ((((((w5.alloc o).setCell ⟨w.heap.size, 0, none⟩ a').setCell ⟨w.heap.size, 1, none⟩ b').setCell ⟨w.heap.size, 2, none⟩ c').setCell ⟨w.heap.size, 3, none⟩ d').heap[w5.heap.size]?) = _
    rw [heap_set4 _ _ _ _ _ _ _ (by omega)]; unfold World.alloc; simp
theorem RdOut.bad {ea : Nat → Addr} {s : ByteArray} {w W' : World} {at_ A : Nat} {ok : Bool} {v : VL} (hq : (at_, ok, v) = rdV s) (hbad : ¬ (ok = true ∧ s.size ≤ at_)) (hb : Below w.heap.size w W') (hA : w.heap.size ≤ A)
    (h : W'.heap[A]? = some (.cells #[.int .i64 at_, .iface 270 (.pointer (some (ea 111)))] 73 (0, 0))) :
    RdOut ea s w (.returned (.tuple #[.agg #[.int .i64 0, .int .i64 0, .string ⟨#[]⟩, .slice none 0 0], .iface 70 (.pointer (some ⟨A, 0, none⟩))])) W' := by
  refine ⟨hb, .inl ⟨by unfold rdBad; rw [← hq]; exact hbad, A, hA, ?_, rfl⟩⟩
  rw [← hq]; exact h

theorem StB.below {w w' : World} {g : Nat} {a b c d : Value} {B : Nat} (h : StB w g a b c d) (hb : Below B w w') (hB : g < B) : StB w' g a b c d := (hb.block g hB).trans h
theorem below_set4 {w w' : World} {B : Nat} (h : Below B w w') {g : Nat} (hg : B ≤ g) (a b c d : Value) :
    Below B w ((((w'.setCell ⟨g, 0, none⟩ a).setCell ⟨g, 1, none⟩ b).setCell ⟨g, 2, none⟩ c).setCell ⟨g, 3, none⟩ d) :=
  Below.setCell (Below.setCell (Below.setCell (Below.setCell h hg _) hg _) hg _) hg _
theorem below_le' {B B' : Nat} {w w' : World} (h : Below B w w') (hb : B' ≤ B) : Below B' w w' := ⟨h.os, h.tape, h.output, h.size, fun k hk => h.block k (by omega)⟩

set_option maxRecDepth 100000 in
set_option maxHeartbeats 4000000 in
theorem read_c (s : ByteArray) (ea : Nat → Addr) (w : World) (he : ErrsAt w ea) (hs : s.size ≤ 1000000000) :
    Calls Tryz.prog 123 #[.string s] w (RdOut ea s w) := by
  have hroom := he.room
  obtain ⟨q, hq⟩ : ∃ q, q = rdV s := ⟨_, rfl⟩
  obtain ⟨wa, hwa⟩ : ∃ wa, wa = (w.alloc (.cells #[.int .i64 0, .int .i64 0, .string ⟨#[]⟩, .slice none 0 0] 28)).alloc (.cells #[.string s, .int .i64 0, .bool true] 181) := ⟨_, rfl⟩
  have hB2 : StB wa w.heap.size (.int .i64 0) (.int .i64 0) (.string ⟨#[]⟩) (.slice none 0 0) := by rw [hwa]; exact (StB.new w _ _ _ _).alloc _
  have hb : Below w.heap.size w wa := by rw [hwa]; exact ((Below.refl _ _).alloc (Nat.le_refl _) _).alloc (by simp) _
  have hwz : wa.heap.size = w.heap.size + 2 := by rw [hwa]; simp
  have hR : RdAt wa (w.heap.size + 1) s 0 true := by
    rw [hwa]; have h := RdAt.new (w.alloc (.cells #[.int .i64 0, .int .i64 0, .string ⟨#[]⟩, .slice none 0 0] 28)) s 0 true
    rw [World.size_alloc] at h; exact h
  have V := Lib.hid (value_c (2 * s.size + 2) (w.heap.size + 1) s 0 wa hR hs (by omega) (by omega))
  rw [show valSp s (2 * s.size + 2) 0 = q from hq.symm] at V
  have HB := Lib.hid hb
  have HW := Lib.hid hwa
  have HZ := Lib.hid hwz
  have H2 := Lib.hid hB2
  have HE := Lib.hid he
  have HQ := Lib.hid hq
  obtain ⟨at_, ok, v⟩ := q
  clear hb hwz hB2 hR hwa hq
  go_enter Tryz.func123, Tryz.ntmps123
  go_wp2_with fail
  rw [← HW.out]
  refine V.out.mono ?_
  rintro e w2 ⟨vk, vn, vt, va, vl, vc, rfl, hr2, hval⟩
  clear V HW
  have hg := hr2.grown
  have hz2 : w.heap.size + 2 ≤ w2.heap.size := by have := hg.size; have := HZ.out; omega
  have hr5 := hr2.alloc (.cells #[.int .i64 vk, .int .i64 vn, .string vt, .slice va vl vc] 28)
  have hV5 := StB.new w2 (.int .i64 vk) (.int .i64 vn) (.string vt) (.slice va vl vc)
  have h25 : StB _ w.heap.size _ _ _ _ := (H2.out.only hg (by intro e; injection e with e; omega)).alloc (.cells #[.int .i64 vk, .int .i64 vn, .string vt, .slice va vl vc] 28)
  have r1 := hr5.at_.c1; have r2 := hr5.at_.c2
  have HR5 := Lib.hid hr5
  have HV5 := Lib.hid hV5
  have H25 := Lib.hid h25
  have HVAL := Lib.hid hval
  clear hval hr5 hV5 h25 hr2 hg
  have hb5 : Below w.heap.size w (w2.alloc (.cells #[.int .i64 vk, .int .i64 vn, .string vt, .slice va vl vc] 28)) := by
    have hg5 := HR5.out.grown
    exact HB.out.trans ⟨hg5.os, hg5.tape, hg5.output, hg5.size, fun b hb => hg5.block b (by have := HZ.out; omega) (fun e => by injection e with e; omega)⟩
  have he5 := (HE.out.below hb5 (by omega)).syn
  have HE5 := Lib.hid (HE.out.below hb5 (by omega))
  have HB5 := Lib.hid hb5
  have k0 := H25.out.c0; have k1 := H25.out.c1; have k2 := H25.out.c2; have k3 := H25.out.c3
  have f0 := H25.out.fr 0; have f1 := H25.out.fr 1; have f2 := H25.out.fr 2; have f3 := H25.out.fr 3
  clear hb5
  have hz5 : w.heap.size < (w2.alloc (.cells #[.int .i64 vk, .int .i64 vn, .string vt, .slice va vl vc] 28)).heap.size := by simp only [World.size_alloc]; omega
  by_cases hbad : ok = true ∧ s.size ≤ at_
  · obtain ⟨rfl, hge⟩ := hbad
    obtain ⟨sub, hv, rfl, hsc, hrep⟩ := HVAL.out rfl
    clear HVAL
    replace hv : v = val1 vk vn vt sub := hv
    have hfit : v.fit := by have := valSp_fit s (by omega) (2 * s.size + 2) 0 (by omega); rw [show valSp s (2 * s.size + 2) 0 = (at_, true, v) from HQ.out.symm] at this; exact this
    rw [hv] at hfit
    have hd2 : decide (at_ < s.size) = false := by simp; exact hge
    have hd : decide ((at_ : Int) < (s.size : Int)) = false := by simp; exact hge
    have hrep5 : RpL (w2.alloc (.cells #[.int .i64 vk, .int .i64 vn, .string vt, .slice va sub.len vc] 28)) (fun b => wa.heap.size ≤ b ∧ b < w2.heap.size) sub va :=
      hrep.keep (fun b hb => Below.heap_alloc w2 _ b hb.2) (fun b hb => hb)
    obtain ⟨w5, hw5⟩ : ∃ w5, w5 = w2.alloc (.cells #[.int .i64 vk, .int .i64 vn, .string vt, .slice va sub.len vc] 28) := ⟨_, rfl⟩
    have HS5 := Lib.hid (show w2.heap.size < w5.heap.size by rw [hw5]; simp)
    rw [← hw5] at HV5 H25 HB5 HE5 hrep5 hz5
    have HW5 := Lib.hid hw5
    have VC := Lib.hid (valid_c vk vn vt sub va vc ea w5 HE5.out hfit.1 hfit.2.1 hfit.2.2.1 hsc (hrep5.keep (fun b _ => rfl) (fun b hb => by have := hb.2; have := HS5.out; omega)))
    have HREP := Lib.hid hrep5
    have HSC := Lib.hid hsc
    have HNB := Lib.hid (show ¬ rdBad s by intro h; apply h; rw [← HQ.out]; exact ⟨rfl, hge⟩)
    have HVV := Lib.hid (show (rdV s).2.2 = val1 vk vn vt sub by rw [← HQ.out]; exact hv)
    have v0 := HV5.out.c0; have v1 := HV5.out.c1; have v2 := HV5.out.c2; have v3 := HV5.out.c3
    rw [hw5] at v0 v1 v2 v3
    clear hw5 hrep hrep5 hsc hv hfit hge
    go_wp2_with fail
    rw [← HW5.out]
    refine VC.out.mono ?_
    rintro e w6 ⟨rfl, hb6⟩
    have HB6 := Lib.hid hb6
    have HV6 := Lib.hid (HV5.out.below hb6 (by have := HS5.out; omega))
    have H26 := Lib.hid (H25.out.below hb6 (by have := HS5.out; omega))
    clear hb6 v0 v1 v2 v3 k0 k1 k2 k3 f0 f1 f2 f3 r1 r2 he5 HW5 VC
    have v0 := HV6.out.c0; have v1 := HV6.out.c1; have v2 := HV6.out.c2; have v3 := HV6.out.c3
    have k0 := H26.out.c0; have k1 := H26.out.c1; have k2 := H26.out.c2; have k3 := H26.out.c3
    have f0 := H26.out.fr 0; have f1 := H26.out.fr 1; have f2 := H26.out.fr 2; have f3 := H26.out.fr 3
    by_cases hc : (walk1 vk vn vt sub 1 4096).1 = 0
    · have HC := Lib.hid hc
      rw [hc, show errV ea 0 = Value.nilIface from rfl]
      clear hc
      go_wp2_with fail
      refine ret_cell4_tmp Tryz.results123 w.heap.size rfl rfl (H26.out.set4 _ _ _ _) ?_
      refine ⟨below_set4 (HB5.out.trans (below_le' HB6.out (by omega))) (Nat.le_refl _) _ _ _ _, .inr ⟨HNB.out, vk, vn, vt, sub, HVV.out, .inr ⟨HC.out, va, vc, HSC.out, ?_, rfl⟩⟩⟩
      exact HREP.out.keep (fun b hb => by rw [heap_set4 _ _ _ _ _ _ _ (by have := hb.1; have := HZ.out; omega)]; exact HB6.out.block b (by have := hb.2; have := HS5.out; omega))
        (fun b hb => ⟨by have := hb.1; have := HZ.out; omega, by rw [size_set4]; have := HB6.out.size; have := hb.2; have := HS5.out; omega⟩)
    · have HC := Lib.hid hc
      have HERR := Lib.hid (show errV ea (walk1 vk vn vt sub 1 4096).1 = .iface 270 (.pointer (some (ea (walk1 vk vn vt sub 1 4096).1))) by unfold errV; rw [if_neg hc])
      clear hc
      rw [HERR.out]
      go_wp2_with fail
      refine ret_cell4_tmp Tryz.results123 w.heap.size rfl rfl (H26.out.set4 _ _ _ _) ?_
      exact ⟨below_set4 (HB5.out.trans (below_le' HB6.out (by omega))) (Nat.le_refl _) _ _ _ _, .inr ⟨HNB.out, vk, vn, vt, sub, HVV.out, .inl ⟨HC.out, by rw [HERR.out]; rfl⟩⟩⟩
  have HBAD := Lib.hid hbad
  have H26 := Lib.hid (H25.out.alloc (.cells #[.int .i64 at_, .iface 270 (.pointer (some (ea 111)))] 73))
  have m0 := H26.out.c0; have m1 := H26.out.c1; have m2 := H26.out.c2; have m3 := H26.out.c3
  have n0 := H26.out.fr 0; have n1 := H26.out.fr 1; have n2 := H26.out.fr 2; have n3 := H26.out.fr 3
  cases ok with
  | false =>
    clear hbad
    go_wp2_with fail
    go_region
    · go_wp2_with fail
      have hA := RdBad.b HB5.out hz5 H25.out (.cells #[.int .i64 at_, .iface 270 (.pointer (some (ea 111)))] 73) (.int .i64 0) (.int .i64 0) (.string ⟨#[]⟩) (.slice none 0 0)
      have hA3 := hA.2.2
      rw [World.size_alloc] at hA3
      refine ret_cell4_tmp Tryz.results123 w.heap.size rfl rfl hA.1 ?_
      exact RdOut.bad HQ.out HBAD.out hA.2.1 (by omega) hA3
    · go_wp2_with fail
      have hA := RdBad.a HB5.out hz5 H25.out (.cells #[.int .i64 at_, .iface 270 (.pointer (some (ea 111)))] 73) (.int .i64 0) (.int .i64 0) (.string ⟨#[]⟩) (.slice none 0 0)
      have hA3 := hA.2.2
      rw [World.size_alloc] at hA3
      refine ret_cell4_tmp Tryz.results123 w.heap.size rfl rfl hA.1 ?_
      exact RdOut.bad HQ.out HBAD.out hA.2.1 (by omega) hA3
  | true =>
    have hlt : at_ < s.size := by
      rcases Nat.lt_or_ge at_ s.size with h | h
      · exact h
      · exact absurd ⟨rfl, h⟩ hbad
    have hd : decide ((at_ : Int) < (s.size : Int)) = true := by simp; exact hlt
    clear hbad
    go_wp2_with fail
    go_region
    · go_wp2_with fail
      have hA := RdBad.b HB5.out hz5 H25.out (.cells #[.int .i64 at_, .iface 270 (.pointer (some (ea 111)))] 73) (.int .i64 0) (.int .i64 0) (.string ⟨#[]⟩) (.slice none 0 0)
      have hA3 := hA.2.2
      rw [World.size_alloc] at hA3
      refine ret_cell4_tmp Tryz.results123 w.heap.size rfl rfl hA.1 ?_
      exact RdOut.bad HQ.out (fun h => HBAD.out ⟨trivial, h.2⟩) hA.2.1 (by omega) hA3
    · go_wp2_with fail
      have hA := RdBad.a HB5.out hz5 H25.out (.cells #[.int .i64 at_, .iface 270 (.pointer (some (ea 111)))] 73) (.int .i64 0) (.int .i64 0) (.string ⟨#[]⟩) (.slice none 0 0)
      have hA3 := hA.2.2
      rw [World.size_alloc] at hA3
      refine ret_cell4_tmp Tryz.results123 w.heap.size rfl rfl hA.1 ?_
      exact RdOut.bad HQ.out (fun h => HBAD.out ⟨trivial, h.2⟩) hA.2.1 (by omega) hA3
end Go.Proofs.YtggngahmafbihaaGreatDoor
namespace Go.Proofs.YtggngahmafbihaaGreatDoor
open Go.RowKit Go.Lib
set_option linter.unusedVariables false

end Go.Proofs.YtggngahmafbihaaGreatDoor
namespace Go.Proofs.YtggngahmafbihaaGreatDoor
open Go.RowKit Go.Lib
set_option linter.unusedVariables false

/-- The code of a name. -/
def codeOf (s : ByteArray) : Int := idxOfS nmL s
set_option maxHeartbeats 1000000 in
theorem code_l (s : ByteArray) (w : World) :
    Calls Tryz.prog 122 #[.string s] w fun e w' => e = .returned (.tuple #[.int .i64 (if codeOf s < 0 then 0 else codeOf s), .bool (decide (0 ≤ codeOf s))]) ∧ Below w.heap.size w w' := by
  have NC := Lib.hid (names_c w)
  have hb : Below w.heap.size w (w.alloc (.cells (nmL.map Value.string).toArray 9)) := (Below.refl _ _).alloc (Nat.le_refl _) _
  have IC := Lib.hid (Tryz.slices_Index_string w.heap.size 0 15 15 nmL s (w.alloc (.cells (nmL.map Value.string).toArray 9)) (by rw [nmL_len]; exact Nat.le_refl _) (by decide)
    (fun j hj => by rw [Nat.zero_add]; exact names_cell w j (by rw [nmL_len] at hj; exact hj) 0))
  rw [show nmL.take 15 = nmL from rfl, show idxOfS nmL s = codeOf s from rfl] at IC
  have HB := Lib.hid hb
  clear hb
  by_cases hc : codeOf s < 0
  · rw [if_pos hc, show decide (0 ≤ codeOf s) = false by simp; omega]
    go_enter Tryz.func122, Tryz.ntmps122
    go_wp2_with fail
    refine NC.out.mono ?_
    rintro e w2 ⟨rfl, rfl⟩
    go_wp2_with fail
    refine IC.out.mono ?_
    rintro e w2 ⟨rfl, rfl⟩
    go_wp2_with fail
    go_returns
    exact ⟨rfl, HB.out⟩
  · rw [if_neg hc, show decide (0 ≤ codeOf s) = true by simp; omega]
    have hd : decide (codeOf s < 0) = false := by simp; omega
    go_enter Tryz.func122, Tryz.ntmps122
    go_wp2_with fail
    refine NC.out.mono ?_
    rintro e w2 ⟨rfl, rfl⟩
    go_wp2_with fail
    refine IC.out.mono ?_
    rintro e w2 ⟨rfl, rfl⟩
    go_wp2_with fail
    go_returns
    exact ⟨rfl, HB.out⟩

theorem str_ne {a b : ByteArray} (h : ¬ a = b) : (a.toList == b.toList) = false := by
  rw [Lib.toList_data, Lib.toList_data, beq_eq_false_iff_ne]
  intro e
  apply h
  rcases a with ⟨⟨a⟩⟩; rcases b with ⟨⟨b⟩⟩
  exact congrArg (fun l => (⟨⟨l⟩⟩ : ByteArray)) e
end Go.Proofs.YtggngahmafbihaaGreatDoor
namespace Go.Proofs.YtggngahmafbihaaGreatDoor
open Go.RowKit Go.Lib
set_option linter.unusedVariables false

/-- What strconv's package-level variables hold. -/
structure StrcAt (w : World) : Prop where
  syn : ∃ te pe, w.cell? ⟨21, 0, none⟩ = some (.iface te pe)
  rng : ∃ te pe, w.cell? ⟨22, 0, none⟩ = some (.iface te pe)
  tab : TabIs Tryz.prog w "internal/strconv.uint64pow10" .u64 pow10Tab
  room : 24 < w.heap.size
theorem StrcAt.below {w w' : World} {B : Nat} (h : StrcAt w) (hb : Below B w w') (hB : w.heap.size ≤ B) : StrcAt w' := by
  have hk : ∀ p : Addr, p.block < w.heap.size → w'.cell? p = w.cell? p := fun p hp => World.cell?_of_block (w := w) (hb.block p.block (by omega))
  have hr := h.room
  obtain ⟨t1, p1, h1⟩ := h.syn
  obtain ⟨t2, p2, h2⟩ := h.rng
  exact ⟨⟨t1, p1, (hk ⟨21, 0, none⟩ (Nat.lt_trans (by decide) hr)).trans h1⟩, ⟨t2, p2, (hk ⟨22, 0, none⟩ (Nat.lt_trans (by decide) hr)).trans h2⟩, Joins.tab_stays (g := 20) rfl h.tab hb hB, by have := hb.size; omega⟩

end Go.Proofs.YtggngahmafbihaaGreatDoor
namespace Go.Proofs.YtggngahmafbihaaGreatDoor
open Go.RowKit Go.Lib
set_option linter.unusedVariables false

end Go.Proofs.YtggngahmafbihaaGreatDoor
namespace Go.Proofs.YtggngahmafbihaaGreatDoor
open Go.RowKit Go.Lib
set_option linter.unusedVariables false

theorem digB_isDg (c : UInt8) : digB c = isDg c := by
  cases h : isDg c with
  | true => have := isDg_iff.1 h; unfold digB; exact decide_eq_true this
  | false => unfold digB; refine decide_eq_false fun e => ?_; rw [isDg_iff.2 e] at h; cases h
theorem pk_drop {s : ByteArray} {i : Nat} {c : UInt8} {r : List UInt8} (h : s.data.toList.drop i = c :: r) : pk s i = c ∧ s.data.toList.drop (i + 1) = r := by
  constructor
  · unfold pk
    rw [List.getD_eq_getElem?_getD, ← List.head?_drop, h]; rfl
  · rw [← List.drop_drop, h]; rfl
end Go.Proofs.YtggngahmafbihaaGreatDoor
namespace Go.Proofs.YtggngahmafbihaaGreatDoor
open Go.RowKit Go.Lib
set_option linter.unusedVariables false

/-- A text with its signs. -/
def escL : List UInt8 → List UInt8
  | [] => []
  | x :: r => if x = 34 ∨ x = 92 then 92 :: x :: escL r else x :: escL r
def quoL (l : List UInt8) : List UInt8 := 34 :: (escL l ++ [34])

/-- All numbers are of 64 bits. -/
def VL.i64 : VL → Prop
  | .nil => True
  | .cons _ n _ sub rest => -9223372036854775808 ≤ n ∧ n ≤ 9223372036854775807 ∧ sub.i64 ∧ rest.i64
end Go.Proofs.YtggngahmafbihaaGreatDoor
namespace Go.Proofs.YtggngahmafbihaaGreatDoor
open Go.RowKit Go.Lib
set_option linter.unusedVariables false

end Go.Proofs.YtggngahmafbihaaGreatDoor
namespace Go.Proofs.YtggngahmafbihaaGreatDoor
open Go.RowKit Go.Lib
set_option linter.unusedVariables false

theorem bytes_empty {t : ByteArray} (h : t.data.toList = []) : t = ByteArray.empty := by
  rcases t with ⟨⟨l⟩⟩
  cases l with
  | nil => rfl
  | cons a r => cases h
end Go.Proofs.YtggngahmafbihaaGreatDoor
namespace Go.Proofs.YtggngahmafbihaaGreatDoor
open Go.RowKit Go.Lib
set_option linter.unusedVariables false

theorem drop_pk {s : ByteArray} {i : Nat} (h : i < s.size) : s.data.toList.drop i = pk s i :: s.data.toList.drop (i + 1) := by
  have hl : i < s.data.toList.length := by rw [Array.length_toList]; exact h
  rw [List.drop_eq_getElem_cons hl]
  unfold pk
  rw [List.getD_eq_getElem?_getD, List.getElem?_eq_getElem hl]; rfl

theorem strLoop_inv (s : ByteArray) : ∀ (f i : Nat) (acc : List UInt8) (j : Nat) (l' : List UInt8), strLoop s f i acc = (j, true, l') → ∃ l, l' = acc ++ l ∧ prB l = true ∧ s.data.toList.drop i = escL l ++ s.data.toList.drop j
  | 0, i, acc, j, l', h => by
    unfold strLoop at h
    simp only [Prod.mk.injEq, true_and] at h
    obtain ⟨rfl, rfl⟩ := h
    exact ⟨[], by simp, rfl, rfl⟩
  | f + 1, i, acc, j, l', h => by
    by_cases h34 : pk s i = 34
    · rw [strLoop_end _ _ _ _ h34] at h
      simp only [Prod.mk.injEq, true_and] at h
      obtain ⟨rfl, rfl⟩ := h
      exact ⟨[], by simp, rfl, rfl⟩
    by_cases h92 : pk s i = 92
    · by_cases hy : pk s (i + 1) = 34 ∨ pk s (i + 1) = 92
      · rw [strLoop_esc _ _ _ _ h92 hy] at h
        obtain ⟨l, h1, h2, h3⟩ := strLoop_inv s f (i + 2) _ j l' h
        have hi : i < s.size := pk_lt (by rw [h92]; decide)
        have hi2 : i + 1 < s.size := pk_lt (by rcases hy with e | e <;> rw [e] <;> decide)
        refine ⟨pk s (i + 1) :: l, by rw [h1, List.append_assoc]; rfl, ?_, ?_⟩
        · unfold prB at h2 ⊢
          rw [List.all_cons, h2, Bool.and_true]
          rcases hy with e | e <;> rw [e] <;> decide
        · rw [drop_pk hi, drop_pk hi2, h92, h3, escL, if_pos hy]; rfl
      · rw [strLoop_esc_bad _ _ _ _ h92 hy] at h; simp at h
    cases hp : prC (pk s i) with
    | false => rw [strLoop_bad _ _ _ _ h34 h92 hp] at h; simp at h
    | true =>
      rw [strLoop_next _ _ _ _ h34 h92 hp] at h
      obtain ⟨l, h1, h2, h3⟩ := strLoop_inv s f (i + 1) _ j l' h
      have hi : i < s.size := pk_lt (fun e => by rw [e] at hp; exact absurd hp (by decide))
      refine ⟨pk s i :: l, by rw [h1, List.append_assoc]; rfl, ?_, ?_⟩
      · unfold prB at h2 ⊢
        rw [List.all_cons, h2, Bool.and_true]; exact hp
      · rw [drop_pk hi, h3, escL, if_neg (by rintro (e | e); exact h34 e; exact h92 e)]; rfl
theorem strSp_inv {s : ByteArray} {i j : Nat} {l : List UInt8} (hi : i < s.size) (h34 : pk s i = 34) (h : strSp s i = (j, true, l)) : s.data.toList.drop i = quoL l ++ s.data.toList.drop j ∧ prB l = true := by
  unfold strSp at h
  obtain ⟨q, hq⟩ : ∃ q, q = strLoop s (s.size + 1) (i + 1) [] := ⟨_, rfl⟩
  have hpl := (strLoop_place s (s.size + 1) (i + 1) [] (by omega)).2.2 (by omega) (by omega)
  rw [← hq] at h hpl
  obtain ⟨j', ok, l'⟩ := q
  simp only [Prod.mk.injEq] at h
  obtain ⟨h1, rfl, rfl⟩ := h
  rw [if_pos rfl] at h1
  subst h1
  have hend := hpl rfl
  obtain ⟨l2, h2, h3, h4⟩ := strLoop_inv s _ _ _ j' l' hq.symm
  rw [List.nil_append] at h2
  subst h2
  have hj : j' < s.size := pk_lt (by rw [hend]; decide)
  refine ⟨?_, h3⟩
  rw [drop_pk hi, h34, h4, drop_pk hj, hend, quoL]
  simp

end Go.Proofs.YtggngahmafbihaaGreatDoor
namespace Go.Proofs.YtggngahmafbihaaGreatDoor
open Go.RowKit Go.Lib
set_option linter.unusedVariables false

def smB (c : UInt8) : Bool := decide (97 ≤ c.toNat ∧ c.toNat ≤ 122) || c == 95
def gtB (c : UInt8) : Bool := decide (65 ≤ c.toNat ∧ c.toNat ≤ 90)
/-- How many bytes from a place on are of a sort; with fuel. -/
def runN (s : ByteArray) (p : UInt8 → Bool) : Nat → Nat → Nat
  | 0, _ => 0
  | f + 1, i => if i < s.size ∧ p (pk s i) = true then runN s p f (i + 1) + 1 else 0
def run (s : ByteArray) (p : UInt8 → Bool) (i : Nat) : Nat := runN s p (s.size + 1) i
theorem runN_le (s : ByteArray) (p : UInt8 → Bool) : ∀ (f i : Nat), i ≤ s.size → i + runN s p f i ≤ s.size
  | 0, i, h => h
  | f + 1, i, h => by
    unfold runN
    split
    · rename_i hc
      have := runN_le s p f (i + 1) (by omega)
      omega
    · exact h

/-- What one word is: an error, or a word of so many bytes. -/
inductive WR where
  | bad (c : Nat)
  | word (n : Nat) (t : Tok)

/-- The keys, and the signs, rising. -/
def keysL : List ByteArray := [⟨#[97, 110, 121]⟩, ⟨#[98, 114, 101, 97, 107]⟩, ⟨#[99, 111, 110, 116, 105, 110, 117, 101]⟩, ⟨#[101, 108, 115, 101]⟩, ⟨#[101, 108, 115, 101, 105, 102]⟩, ⟨#[101, 110, 100, 102, 111, 114]⟩, ⟨#[101, 110, 100, 102, 111, 114, 107]⟩, ⟨#[101, 110, 100, 105, 102]⟩, ⟨#[101, 110, 100, 116, 114, 121]⟩, ⟨#[101, 110, 100, 119, 104, 105, 108, 101]⟩, ⟨#[101, 120, 99, 101, 112, 116]⟩, ⟨#[102, 105, 110, 97, 108, 108, 121]⟩, ⟨#[102, 111, 114]⟩, ⟨#[102, 111, 114, 107]⟩, ⟨#[105, 102]⟩, ⟨#[105, 110]⟩, ⟨#[114, 101, 116, 117, 114, 110]⟩, ⟨#[116, 114, 121]⟩, ⟨#[119, 104, 105, 108, 101]⟩]
def signsL : List ByteArray := [⟨#[33]⟩, ⟨#[33, 61]⟩, ⟨#[36]⟩, ⟨#[37]⟩, ⟨#[38, 38]⟩, ⟨#[39]⟩, ⟨#[40]⟩, ⟨#[41]⟩, ⟨#[42]⟩, ⟨#[43]⟩, ⟨#[44]⟩, ⟨#[45]⟩, ⟨#[46]⟩, ⟨#[46, 46]⟩, ⟨#[47]⟩, ⟨#[58]⟩, ⟨#[59]⟩, ⟨#[60]⟩, ⟨#[60, 61]⟩, ⟨#[61]⟩, ⟨#[61, 61]⟩, ⟨#[61, 62]⟩, ⟨#[62]⟩, ⟨#[62, 61]⟩, ⟨#[63]⟩, ⟨#[64]⟩, ⟨#[91]⟩, ⟨#[93]⟩, ⟨#[96]⟩, ⟨#[123]⟩, ⟨#[124]⟩, ⟨#[124, 124]⟩, ⟨#[125]⟩]

/-- A number from a place on: the number and its digits, or an error. -/
def dgsSp (s : ByteArray) (i : Nat) : Nat ⊕ (Int × Nat) :=
  let n := run s digB i
  if n = 0 ∨ (1 < n ∧ pk s i = 48) ∨ (i + n < s.size ∧ (smB (pk s (i + n)) = true ∨ gtB (pk s (i + n)) = true)) then .inl 111
  else if 9223372036854775807 < dval 0 (s.extract i (i + n)).data.toList then .inl 105
  else .inr (dval 0 (s.extract i (i + n)).data.toList, n)

/-- Where a text in quotes ends: behind its second quote; none: it does not on its line. -/
def quoEnd (s : ByteArray) : Nat → Nat → Option Nat
  | 0, _ => none
  | f + 1, i =>
    if i < s.size ∧ prC (pk s i) = true then
      if pk s i = 34 then some (i + 1)
      else if pk s i = 92 then quoEnd s f (i + 2)
      else quoEnd s f (i + 1)
    else none
/-- A text in quotes, whole, as a value; or why it is none. -/
def strW (sub : ByteArray) : Nat ⊕ ByteArray :=
  let r := strSp sub 0
  if r.2.1 = true ∧ sub.size ≤ r.1 then (if 4096 ≤ r.2.2.length then .inl 105 else .inr ⟨r.2.2.toArray⟩) else .inl 111
/-- The longest sign that stands at a place. -/
def signAt (s : ByteArray) (i : Nat) : List ByteArray → ByteArray → ByteArray
  | [], b => b
  | x :: l, b => signAt s i l (if b.size < x.size ∧ x.data.toList.isPrefixOf (s.data.toList.drop i) = true then x else b)
/-- One word, that is no space and no end of a line. -/
def wordR (s : ByteArray) (i : Nat) (line : Int) : WR :=
  let c := pk s i
  if smB c = true then
    let n := run s (fun c => smB c || digB c) i
    if 32 < n ∨ (i + n < s.size ∧ gtB (pk s (i + n)) = true) then .bad 111
    else .word n ⟨if keysL.contains (s.extract i (i + n)) then 2 else 1, line, s.extract i (i + n), 0, 0, ⟨#[]⟩⟩
  else if digB c = true then
    match dgsSp s i with
    | .inl e => .bad e
    | .inr (v, n) => .word n ⟨3, line, ⟨#[]⟩, 0, v, ⟨#[]⟩⟩
  else if gtB c = true then
    let n := run s (fun c => gtB c || c == 95) i
    let k := codeOf (s.extract i (i + n))
    if k < 0 ∨ (i + n < s.size ∧ (smB (pk s (i + n)) = true ∨ digB (pk s (i + n)) = true)) then .bad 111
    else .word n ⟨3, line, ⟨#[]⟩, 3, k, ⟨#[]⟩⟩
  else if c = 35 then
    let neg := pk s (i + 1) == 45
    let j := if neg then i + 2 else i + 1
    match dgsSp s j with
    | .inl e => .bad e
    | .inr (v, n) =>
      if neg = true ∧ v = 0 then .bad 111
      else
        let v := if neg then -v else v
        if v < -2147483648 ∨ 2147483647 < v then .bad 105 else .word (j + n - i) ⟨3, line, ⟨#[]⟩, 1, v, ⟨#[]⟩⟩
  else if c = 34 then
    match quoEnd s (s.size + 1) (i + 1) with
    | none => .bad 111
    | some j =>
      match strW (s.extract i j) with
      | .inl e => .bad e
      | .inr t => .word (j - i) ⟨3, line, ⟨#[]⟩, 2, 0, t⟩
  else
    let b := signAt s i signsL ⟨#[]⟩
    if b.size = 0 then .bad 111 else .word b.size ⟨4, line, b, 0, 0, ⟨#[]⟩⟩
/-- All words of a text, from a place and a line on; or the error and its line. -/
def allSp (s : ByteArray) : Nat → Nat → Int → List Tok → (Nat × Int) ⊕ List Tok
  | 0, _, _, out => .inr out
  | f + 1, i, line, out =>
    if i < s.size then
      if pk s i = 10 then allSp s f (i + 1) (line + 1) out
      else if pk s i = 32 then allSp s f (i + 1) line out
      else match wordR s i line with
        | .bad c => .inl (c, line)
        | .word n t => allSp s f (i + n) line (out ++ [t])
    else .inr out
def allW (s : ByteArray) : (Nat × Int) ⊕ List Tok := allSp s (s.size + 1) 0 1 []
end Go.Proofs.YtggngahmafbihaaGreatDoor
namespace Go.Proofs.YtggngahmafbihaaGreatDoor
open Go.RowKit Go.Lib
set_option linter.unusedVariables false

/-- A word as it lies in memory: seven cells; of the last one's row only its length is known. -/
abbrev TokM := Tok × (Option Addr × Nat)
def tk7 (p : TokM) : List Value := [.int .i64 p.1.kind, .int .i64 p.1.line, .string p.1.s, .int .i64 p.1.k, .int .i64 p.1.n, .string p.1.t, .slice p.2.1 0 p.2.2]
def tkCells : List TokM → List Value
  | [] => []
  | p :: l => tk7 p ++ tkCells l
theorem tkCells_app : ∀ (a b : List TokM), tkCells (a ++ b) = tkCells a ++ tkCells b
  | [], b => rfl
  | p :: a, b => by rw [List.cons_append, tkCells, tkCells, tkCells_app a b, List.append_assoc]
/-- lex's reader at block R. -/
def LxAt (w : World) (R : Nat) (s : ByteArray) (i : Nat) (line : Int) (v : Value) : Prop :=
  w.heap[R]? = some (.cells #[.string s, .int .i64 i, .int .i64 line, v] 83 (0, 0))
section
variable {w w' : World} {R : Nat} {s : ByteArray} {i : Nat} {line : Int} {v : Value}
theorem LxAt.lt (h : LxAt w R s i line v) : R < w.heap.size := by
  rcases Nat.lt_or_ge R w.heap.size with hlt | hge
  · exact hlt
  · unfold LxAt at h; rw [Array.getElem?_eq_none hge] at h; cases h
theorem LxAt.c0 (h : LxAt w R s i line v) : w.cell? ⟨R, 0, none⟩ = some (.string s) := cell_of_row w R 0 _ _ _ h
theorem LxAt.c1 (h : LxAt w R s i line v) : w.cell? ⟨R, 1, none⟩ = some (.int .i64 i) := cell_of_row w R 1 _ _ _ h
theorem LxAt.c2 (h : LxAt w R s i line v) : w.cell? ⟨R, 2, none⟩ = some (.int .i64 line) := cell_of_row w R 2 _ _ _ h
theorem LxAt.c3 (h : LxAt w R s i line v) : w.cell? ⟨R, 3, none⟩ = some v := cell_of_row w R 3 _ _ _ h
theorem LxAt.fr (h : LxAt w R s i line v) (k : Nat) : w.frozen? ⟨R, k, none⟩ = false := by unfold LxAt at h; simp [World.frozen?, h]
theorem LxAt.drewN (h : LxAt w R s i line v) (n : Nat) : LxAt (w.drewN n) R s i line v := h
theorem LxAt.drew (h : LxAt w R s i line v) : LxAt w.drew R s i line v := h
theorem LxAt.alloc (h : LxAt w R s i line v) (o : Obj) : LxAt (w.alloc o) R s i line v := (Below.heap_alloc w o R h.lt).trans h
theorem LxAt.set1 (h : LxAt w R s i line v) (j : Nat) : LxAt (w.setCell ⟨R, 1, none⟩ (.int .i64 j)) R s j line v := by
  unfold LxAt at h ⊢; simp [World.setCell, Array.getElem?_modify, h]
theorem LxAt.set2 (h : LxAt w R s i line v) (j : Int) : LxAt (w.setCell ⟨R, 2, none⟩ (.int .i64 j)) R s i j v := by
  unfold LxAt at h ⊢; simp [World.setCell, Array.getElem?_modify, h]
theorem LxAt.set3 (h : LxAt w R s i line v) (u : Value) : LxAt (w.setCell ⟨R, 3, none⟩ u) R s i line u := by
  unfold LxAt at h ⊢; simp [World.setCell, Array.getElem?_modify, h]
theorem LxAt.far (h : LxAt w R s i line v) {p : Addr} (hp : R ≠ p.block) (u : Value) : LxAt (w.setCell p u) R s i line v := (Below.heap_setCell w p u R hp).trans h
theorem LxAt.below {B : Nat} (h : LxAt w R s i line v) (hb : Below B w w') (hB : R < B) : LxAt w' R s i line v := (hb.block R hB).trans h
theorem LxAt.only (h : LxAt w R s i line v) {row : Option Nat} (hg : w.grownBy w' row) (hr : some R ≠ row) : LxAt w' R s i line v := (hg.block R h.lt hr).trans h
end

/-- Where lex's reader stands, and what it has read. -/
def LxSt (w : World) (R : Nat) (s : ByteArray) (i : Nat) (line : Int) (l : List Tok) : Prop :=
  ∃ (v : Value) (L : List TokM), LxAt w R s i line v ∧ w.ownsRow (R + 1) 55 7 v L.length (tkCells L) ∧ L.map (·.1) = l ∧ L.length ≤ i ∧ i ≤ s.size
theorem LxSt.below_self {w w' : World} {R : Nat} {s : ByteArray} {i : Nat} {line : Int} {l : List Tok} (h : LxSt w R s i line l) (hg : Below w.heap.size w w') : LxSt w' R s i line l := by
  obtain ⟨v, L, a, b, c, d, e⟩ := h
  refine ⟨v, L, a.below hg a.lt, b.kept (only_below hg none) ?_, c, d, e⟩
  cases v.ownBlock with
  | none => exact .inl rfl
  | some k => exact .inr (by simp)
theorem LxSt.drew {w : World} {R : Nat} {s : ByteArray} {i : Nat} {line : Int} {l : List Tok} (h : LxSt w R s i line l) : LxSt w.drew R s i line l := h.below_self (Below.drew (Below.refl _ _))
theorem LxSt.drewN {w : World} {R : Nat} {s : ByteArray} {i : Nat} {line : Int} {l : List Tok} (h : LxSt w R s i line l) (n : Nat) : LxSt (w.drewN n) R s i line l := h.below_self ⟨rfl, rfl, rfl, Nat.le_refl _, fun _ _ => rfl⟩
theorem LxSt.lt {w : World} {R : Nat} {s : ByteArray} {i : Nat} {line : Int} {l : List Tok} (h : LxSt w R s i line l) : R < w.heap.size := by obtain ⟨v, L, a, _⟩ := h; exact a.lt
/-- The place moves on. -/
theorem LxSt.move {w : World} {R : Nat} {s : ByteArray} {i : Nat} {line : Int} {l : List Tok} (h : LxSt w R s i line l) (j : Nat) (hj : i ≤ j) (hs : j ≤ s.size) : LxSt (w.setCell ⟨R, 1, none⟩ (.int .i64 j)) R s j line l := by
  obtain ⟨v, L, a, b, c, d, e⟩ := h
  refine ⟨v, L, a.set1 j, ownsRow_setCell_below b (by show R < R + 1; omega) _, c, by omega, hs⟩
theorem LxSt.newline {w : World} {R : Nat} {s : ByteArray} {i : Nat} {line : Int} {l : List Tok} (h : LxSt w R s i line l) (j : Int) : LxSt (w.setCell ⟨R, 2, none⟩ (.int .i64 j)) R s i j l := by
  obtain ⟨v, L, a, b, c, d, e⟩ := h
  exact ⟨v, L, a.set2 j, ownsRow_setCell_below b (by show R < R + 1; omega) _, c, d, e⟩

set_option maxHeartbeats 400000 in
theorem small_c (c : UInt8) (w : World) : Calls Tryz.prog 73 #[.int .u8 c.toNat] w fun e w' => e = .returned (.bool (smB c)) ∧ w = w' := by
  have h95 : (((c.toNat : Int) == 95) = true ∧ c = 95) ∨ (((c.toNat : Int) == 95) = false ∧ (c == 95) = false) := by
    by_cases e : c = 95
    · subst e; exact .inl ⟨by decide, rfl⟩
    · refine .inr ⟨?_, by simpa using e⟩
      rw [beq_eq_false_iff_ne]; intro h; exact e (UInt8.toNat_inj.1 (by show c.toNat = 95; omega))
  by_cases h1 : 97 ≤ (c.toNat : Int)
  · by_cases h2 : (c.toNat : Int) ≤ 122
    · have hh := Lib.hid (show smB c = true by unfold smB; rw [Bool.or_eq_true, decide_eq_true_eq]; exact .inl ⟨by omega, by omega⟩)
      clear h95
      go_enter Tryz.func73, Tryz.ntmps73
      go_wp2
      go_ret
      exact ⟨ret_bool hh.out.symm, rfl⟩
    · have h2' : 122 < (c.toNat : Int) := by omega
      have hd : ((c.toNat : Int) == 95) = false := by rw [beq_eq_false_iff_ne]; omega
      have hh := Lib.hid (show smB c = false by
        unfold smB; rw [Bool.or_eq_false_iff, decide_eq_false_iff_not]
        refine ⟨by omega, ?_⟩
        rw [beq_eq_false_iff_ne]; rintro rfl; exact absurd h2' (by decide))
      clear h95
      go_enter Tryz.func73, Tryz.ntmps73
      go_wp2
      go_ret
      exact ⟨ret_bool hh.out.symm, rfl⟩
  · have h1' : (c.toNat : Int) < 97 := by omega
    rcases h95 with ⟨hd, rfl⟩ | ⟨hd, he⟩
    · clear h1 h1' hd
      go_enter Tryz.func73, Tryz.ntmps73
      go_wp2
      go_ret
      exact ⟨rfl, rfl⟩
    · have hh := Lib.hid (show smB c = false by
        unfold smB; rw [Bool.or_eq_false_iff, decide_eq_false_iff_not]
        exact ⟨by omega, he⟩)
      clear he
      go_enter Tryz.func73, Tryz.ntmps73
      go_wp2
      go_ret
      exact ⟨ret_bool hh.out.symm, rfl⟩

set_option maxHeartbeats 400000 in
theorem great_c (c : UInt8) (w : World) : Calls Tryz.prog 77 #[.int .u8 c.toNat] w fun e w' => e = .returned (.bool (gtB c)) ∧ w = w' := by
  by_cases h1 : 65 ≤ (c.toNat : Int)
  · by_cases h2 : (c.toNat : Int) ≤ 90
    · have hh := Lib.hid (show gtB c = true from decide_eq_true (by omega))
      go_enter Tryz.func77, Tryz.ntmps77
      go_wp2
      go_ret
      exact ⟨ret_bool hh.out.symm, rfl⟩
    · have hh := Lib.hid (show gtB c = false from decide_eq_false (by omega))
      have h2' : 90 < (c.toNat : Int) := by omega
      go_enter Tryz.func77, Tryz.ntmps77
      go_wp2
      go_ret
      exact ⟨ret_bool hh.out.symm, rfl⟩
  · have hh := Lib.hid (show gtB c = false from decide_eq_false (by omega))
    have h1' : (c.toNat : Int) < 65 := by omega
    go_enter Tryz.func77, Tryz.ntmps77
    go_wp2
    go_ret
    exact ⟨ret_bool hh.out.symm, rfl⟩

set_option maxHeartbeats 400000 in
theorem ldigit_c (c : UInt8) (w : World) : Calls Tryz.prog 75 #[.int .u8 c.toNat] w fun e w' => e = .returned (.bool (digB c)) ∧ w = w' := by
  by_cases h1 : 48 ≤ (c.toNat : Int)
  · by_cases h2 : (c.toNat : Int) ≤ 57
    · have hh := Lib.hid (show digB c = true from decide_eq_true (by omega))
      go_enter Tryz.func75, Tryz.ntmps75
      go_wp2
      go_ret
      exact ⟨ret_bool hh.out.symm, rfl⟩
    · have hh := Lib.hid (show digB c = false from decide_eq_false (by omega))
      have h2' : 57 < (c.toNat : Int) := by omega
      go_enter Tryz.func75, Tryz.ntmps75
      go_wp2
      go_ret
      exact ⟨ret_bool hh.out.symm, rfl⟩
  · have hh := Lib.hid (show digB c = false from decide_eq_false (by omega))
    have h1' : (c.toNat : Int) < 48 := by omega
    go_enter Tryz.func75, Tryz.ntmps75
    go_wp2
    go_ret
    exact ⟨ret_bool hh.out.symm, rfl⟩

/-- What a function that is handed to run is to answer. -/
def IsP (g : Nat) (p : UInt8 → Bool) : Prop := ∀ (c : UInt8) (W : World), Calls Tryz.prog g #[.int .u8 c.toNat] W fun e w' => e = .returned (.bool (p c)) ∧ W = w'
theorem digit_is : IsP 75 digB := ldigit_c
theorem name_is : IsP 115 (fun c => smB c || digB c) := by
  intro c w
  cases hs : smB c with
  | true =>
    have S := Lib.hid (small_c c w)
    rw [hs] at S
    have HH := Lib.hid (show (smB c || digB c) = true by rw [hs]; rfl)
    clear hs
    go_enter Tryz.func115, Tryz.ntmps115
    go_wp2_with fail
    refine S.out.mono ?_
    rintro e w' ⟨rfl, rfl⟩
    go_wp2_with fail
    go_ret
    exact ⟨ret_bool HH.out.symm, rfl⟩
  | false =>
    have S := Lib.hid (small_c c w)
    have D := Lib.hid (ldigit_c c w)
    rw [hs] at S
    have HH := Lib.hid (show (smB c || digB c) = digB c by rw [hs]; rfl)
    clear hs
    go_enter Tryz.func115, Tryz.ntmps115
    go_wp2_with fail
    refine S.out.mono ?_
    rintro e w' ⟨rfl, rfl⟩
    go_wp2_with fail
    refine D.out.mono ?_
    rintro e w' ⟨rfl, rfl⟩
    go_wp2_with fail
    go_ret
    exact ⟨ret_bool HH.out.symm, rfl⟩
theorem code_is : IsP 121 (fun c => gtB c || c == 95) := by
  intro c w
  cases hs : gtB c with
  | true =>
    have S := Lib.hid (great_c c w)
    rw [hs] at S
    have HH := Lib.hid (show (gtB c || c == 95) = true by rw [hs]; rfl)
    clear hs
    go_enter Tryz.func121, Tryz.ntmps121
    go_wp2_with fail
    refine S.out.mono ?_
    rintro e w' ⟨rfl, rfl⟩
    go_wp2_with fail
    go_ret
    exact ⟨ret_bool HH.out.symm, rfl⟩
  | false =>
    have S := Lib.hid (great_c c w)
    rw [hs] at S
    have HH := Lib.hid (show (gtB c || c == 95) = (c == 95) by rw [hs]; rfl)
    clear hs
    have h95 : ((c.toNat : Int) == 95) = (c == 95) := by
      rw [Bool.eq_iff_iff, beq_iff_eq, beq_iff_eq]
      constructor
      · intro h; exact UInt8.toNat_inj.1 (by show c.toNat = 95; omega)
      · rintro rfl; rfl
    have H := Lib.hid h95
    clear h95
    go_enter Tryz.func121, Tryz.ntmps121
    go_wp2_with fail
    refine S.out.mono ?_
    rintro e w' ⟨rfl, rfl⟩
    go_wp2_with fail
    go_ret
    exact ⟨ret_bool (H.out.trans HH.out.symm), rfl⟩
end Go.Proofs.YtggngahmafbihaaGreatDoor
namespace Go.Proofs.YtggngahmafbihaaGreatDoor
open Go.RowKit Go.Lib
set_option linter.unusedVariables false

theorem runN_step {s : ByteArray} {p : UInt8 → Bool} {f i : Nat} (h : i < s.size) (hp : p (pk s i) = true) : runN s p (f + 1) i = runN s p f (i + 1) + 1 := by
  rw [runN, if_pos ⟨h, hp⟩]
theorem runN_stop {s : ByteArray} {p : UInt8 → Bool} {f i : Nat} (h : i < s.size → p (pk s i) = false) : runN s p f i = 0 := by
  cases f with
  | zero => rfl
  | succ f =>
    rw [runN, if_neg]
    rintro ⟨a, b⟩
    rw [h a] at b; cases b

set_option maxRecDepth 100000 in
set_option maxHeartbeats 1000000 in
theorem run_c (g : Nat) (p : UInt8 → Bool) (eg : ∀ args w, (callFunc g args).run Tryz.prog w = .ok (.enter g args) w) (hp : IsP g p) (R : Nat) (s : ByteArray) (i0 : Nat) (line : Int) (v : Value) (i : Nat) (w : World) (h : LxAt w R s i0 line v) (hi : i ≤ s.size) (hs : s.size ≤ 1000000000) :
    Calls Tryz.prog 114 #[.pointer (some ⟨R, 0, none⟩), .int .i64 i, .func (.func g) #[] #[]] w fun e w' => e = .returned (.int .i64 (run s p i)) ∧ ∃ n, w' = w.drewN n := by
  have hc := h.c0
  obtain ⟨r, hr⟩ : ∃ r, r = run s p i := ⟨_, rfl⟩
  have HR := Lib.hid hr
  rw [← hr]
  clear hr h
  go_enter Tryz.func114, Tryz.ntmps114
  go_wp2_with fail
  go_loopg [7] (s.size + 1) (fun k nv wr => ∃ n : Nat, nv = .int .i64 (n : Int) ∧ i + n ≤ s.size ∧ n + k = s.size + 1 ∧ w = wr ∧ Hid (r = n + runN s p k (i + n)))
  case atStart => exact ⟨0, rfl, by omega, by omega, rfl, by rw [HR.out]; unfold run; rw [Nat.zero_add]; rfl⟩
  case round =>
    obtain ⟨n, rfl, hn, hk, rfl, hq⟩ := hrel
    by_cases hlt : i + n < s.size
    · obtain ⟨k, rfl⟩ : ∃ k, gk = k + 1 := ⟨gk - 1, by omega⟩
      have hpk := pk_in s (i + n) hlt
      have hlt' : ((i : Int) + (n : Int)) < (s.size : Int) := by omega
      cases hb : p (pk s (i + n)) with
      | true =>
        have HQ := Lib.hid (hq.out.trans (by rw [runN_step hlt hb]))
        have C := fun W => hp (pk s (i + n)) W
        rw [hb, hpk] at C
        have CC := Lib.hid C
        clear hq hb hpk C
        go_wp2_with fail
        refine (CC.out _).mono ?_
        rintro e w' ⟨rfl, rfl⟩
        go_wp2_with fail
        go_roundg k
        case measure => omega
        case rel => exact ⟨n + 1, by go_num, by omega, by omega, rfl, by rw [HQ.out, show i + (n + 1) = i + n + 1 from by omega]; show _ = _; omega⟩
      | false =>
        have HQ := Lib.hid (hq.out.trans (by rw [runN_stop (fun _ => hb)]))
        have C := fun W => hp (pk s (i + n)) W
        rw [hb, hpk] at C
        have CC := Lib.hid C
        clear hq hb hpk C
        go_wp2_with fail
        refine (CC.out _).mono ?_
        rintro e w' ⟨rfl, rfl⟩
        go_wp2_with fail
        go_ret
        exact ⟨ret_int (by rw [HQ.out]; rfl), 0, rfl⟩
    · have HQ := Lib.hid (hq.out.trans (by rw [runN_stop (fun h => absurd h hlt)]))
      clear hq
      have hge : (s.size : Int) ≤ (i : Int) + (n : Int) := by omega
      go_wp2_with fail
      go_ret
      exact ⟨ret_int (by rw [HQ.out]; rfl), 0, rfl⟩

theorem bad_c (R : Nat) (s : ByteArray) (i : Nat) (line : Int) (v : Value) (a : Addr) (w : World) (h : LxAt w R s i line v) :
    Calls Tryz.prog 116 #[.pointer (some ⟨R, 0, none⟩), .iface 270 (.pointer (some a))] w fun e w' => e = .returned (.iface 70 (.pointer (some ⟨w.heap.size, 0, none⟩))) ∧ w.alloc (.cells #[.int .i64 line, .iface 270 (.pointer (some a))] 73) = w' := by
  have hc := h.c2
  clear h
  go_enter Tryz.func116, Tryz.ntmps116
  go_wp2_with fail
  go_ret
  exact ⟨rfl, rfl⟩

theorem tok_info : (Tryz.prog.info? 55).map (fun i => (i.zero, i.size, i.bytes)) = some (some (.agg #[.int .i64 0, .int .i64 0, .string ⟨#[]⟩, .int .i64 0, .int .i64 0, .string ⟨#[]⟩, .slice none 0 0]), 7, 88) := by kernel_rfl
theorem news7 (w : World) (o : Obj) (a b c d e f g : Value) (T : Nat) : ∀ j u, [a, b, c, d, e, f, g][j]? = some u → ((w.alloc o).alloc (.cells #[a, b, c, d, e, f, g] T)).cell? ((⟨w.heap.size + 1, 0, none⟩ : Addr).add j) = some u :=
  World.news_of_block (cs := #[a, b, c, d, e, f, g]) (by have := heap_alloc_new (w.alloc o) (.cells #[a, b, c, d, e, f, g] T); rw [World.size_alloc] at this; exact this)
theorem one7 (a b c d : Int) (s t : ByteArray) (sa : Option Addr) (n sc : Nat) : ∀ u ∈ [Value.int .i64 a, .int .i64 b, .string s, .int .i64 c, .int .i64 d, .string t, .slice sa n sc], u.oneCell' = true := by
  intro u hu; simp at hu; rcases hu with rfl | rfl | rfl | rfl | rfl | rfl | rfl <;> rfl

theorem news7d (w : World) (o : Obj) (a b c d e f g : Value) (T : Nat) : ∀ j u, [a, b, c, d, e, f, g][j]? = some u → ((w.alloc o).alloc (.cells #[a, b, c, d, e, f, g] T)).drew.cell? ((⟨w.heap.size + 1, 0, none⟩ : Addr).add j) = some u := fun j u h => news7 w o a b c d e f g T j u h
theorem own2d {w : World} {base e size n : Nat} {v : Value} {xs : List Value} (h : w.ownsRow base e size v n xs) (o o' : Obj) : ((w.alloc o).alloc o').drew.ownsRow base e size v n xs := (h.alloc o).alloc o'
theorem LxAt.grown2 {w w1 : World} {R : Nat} {s : ByteArray} {i : Nat} {line : Int} {v : Value} {e size n : Nat} {xs : List Value} {o o' : Obj} (ha : LxAt w R s i line v) (hown : w.ownsRow (R + 1) e size v n xs)
    (hg : ((w.alloc o).alloc o').drew.grownBy w1 v.ownBlock) : LxAt w1 R s i line v :=
  LxAt.only (w := ((w.alloc o).alloc o').drew) ((ha.alloc o).alloc o') hg (fun e => by have := (hown.lt R e.symm).1; omega)
/-- What the append leaves, the place and the row laid down in the reader. -/
theorem put_end {w wa w1 : World} {R : Nat} {s : ByteArray} {i n : Nat} {line : Int} {v : Value} {l : List Tok} {L : List TokM} {t : Tok} {sa : Option Addr} {sc g cap : Nat}
    (ha : LxAt w R s i line v) (hl : L.map (·.1) = l) (hLi : L.length ≤ i) (h1 : 1 ≤ n) (hn : i + n ≤ s.size) (hown0 : w.ownsRow (R + 1) 55 7 v L.length (tkCells L)) (hwa : Below w.heap.size w wa)
    (hown : w1.ownsRow (R + 1) 55 7 (.slice (some ⟨g, 0, none⟩) (L.length + 1) cap) (L.length + 1) (tkCells L ++ [.int .i64 t.kind, .int .i64 line, .string t.s, .int .i64 t.k, .int .i64 t.n, .string t.t, .slice sa 0 sc]))
    (hgrow : wa.grownBy w1 v.ownBlock) :
    Below R w ((w1.setCell ⟨R, 3, none⟩ (.slice (some ⟨g, 0, none⟩) (L.length + 1) cap)).setCell ⟨R, 1, none⟩ (.int .i64 ((i + n : Nat) : Int))) ∧
    LxSt ((w1.setCell ⟨R, 3, none⟩ (.slice (some ⟨g, 0, none⟩) (L.length + 1) cap)).setCell ⟨R, 1, none⟩ (.int .i64 ((i + n : Nat) : Int))) R s (i + n) line (l ++ [{ t with line := line }]) := by
  have hb : ∀ k, v.ownBlock = some k → R + 1 ≤ k := fun k hk => (hown0.lt k hk).1
  have hR : some R ≠ v.ownBlock := fun e => by have := hb R e.symm; omega
  have hlt := ha.lt
  have h1' : LxAt w1 R s i line v := (ha.below hwa hlt).only hgrow hR
  refine ⟨?_, .slice (some ⟨g, 0, none⟩) (L.length + 1) cap, L ++ [({ t with line := line }, sa, sc)], (h1'.set3 _).set1 _, ?_, ?_, ?_, hn⟩
  · refine Below.setCell (Below.setCell (Below.grown (below_le' hwa (Nat.le_of_lt hlt)) hgrow ?_ (fun k hk => by have := hb k hk; omega)) (Nat.le_refl _) _) (Nat.le_refl _) _
    have := hwa.size; omega
  · rw [tkCells_app]
    have := ownsRow_setCell_below (ownsRow_setCell_below hown (a := ⟨R, 3, none⟩) (by show R < R + 1; omega) (.slice (some ⟨g, 0, none⟩) (L.length + 1) cap)) (a := ⟨R, 1, none⟩) (by show R < R + 1; omega) (.int .i64 ((i + n : Nat) : Int))
    rw [List.length_append]; exact this
  · rw [List.map_append, hl]; rfl
  · rw [List.length_append]; show L.length + 1 ≤ i + n; omega

set_option maxRecDepth 100000 in
set_option maxHeartbeats 1000000 in
theorem put_c (R : Nat) (s : ByteArray) (i : Nat) (line : Int) (l : List Tok) (w : World) (h : LxSt w R s i line l) (n : Nat) (h1 : 1 ≤ n) (hn : i + n ≤ s.size) (hs : s.size ≤ 1000000000) (t : Tok) (line0 : Int) (sa : Option Addr) (sc : Nat) :
    Calls Tryz.prog 119 #[.pointer (some ⟨R, 0, none⟩), .int .i64 n, .agg #[.int .i64 t.kind, .int .i64 line0, .string t.s, .int .i64 t.k, .int .i64 t.n, .string t.t, .slice sa 0 sc]] w fun e w' =>
      e = .returned (.tuple #[]) ∧ Below R w w' ∧ LxSt w' R s (i + n) line (l ++ [{ t with line := line }]) := by
  obtain ⟨v, L, ha, hown, hl, hLi, his⟩ := h
  obtain ⟨VA, VC, rfl⟩ := own_form hown
  have hc1 := ha.c1
  have hc2 := ha.c2
  have hc3 := ha.c3
  have hf1 := ha.fr 1
  have hf3 := ha.fr 3
  have hlt := ha.lt
  obtain ⟨i0, hi0, hz0, hz1, hz2⟩ := info_parts tok_info
  have HA := Lib.hid ha
  have HL := Lib.hid hl
  have HO := Lib.hid hown
  clear ha hl hown
  go_enter Tryz.func119, Tryz.ntmps119
  go_wp2_with fail
  go_region_law ((refine step_append_lies _ (by rfl) (.tmp 15) (.tmp 17) 50 (by rfl) (R + 1) 55 i0 _ 7 88 Tryz.underlying50 hi0 hz0 hz1 hz2 rfl (by decide) (.slice VA L.length VC) L.length (tkCells L) (by rfl) (own2d HO.out _ _) ⟨w.heap.size + 1, 0, none⟩ 1 1 [.int .i64 t.kind, .int .i64 line, .string t.s, .int .i64 t.k, .int .i64 t.n, .string t.t, .slice sa 0 sc] (by rfl) rfl (news7d _ _ _ _ _ _ _ _ _ _) (one7 _ _ _ _ _ _ _ _ _) (by decide) (by unfold maxLen; omega) (by omega) (by simp; omega) _ rfl ?_; intro g cap w1 hown' hgrow hat hlt1; have q3 := (HA.out.grown2 HO.out hgrow).c3; have q1 := (HA.out.grown2 HO.out hgrow).c1; have p3 := (HA.out.grown2 HO.out hgrow).fr 3; have p1 := (HA.out.grown2 HO.out hgrow).fr 1))
  all_goals
    go_wp2_with fail
    go_end0
    have PE := put_end HA.out HL.out hLi h1 hn HO.out (((Below.refl _ _).alloc (Nat.le_refl _) _).alloc (by simp) _).drew hown' hgrow
    rw [show ((i + n : Nat) : Int) = (i : Int) + (n : Int) from by omega] at PE
    exact ⟨rfl, PE.1, PE.2⟩
end Go.Proofs.YtggngahmafbihaaGreatDoor
namespace Go.Proofs.YtggngahmafbihaaGreatDoor
open Go.RowKit Go.Lib
set_option linter.unusedVariables false

theorem ba_ext0 {a b : ByteArray} (h : a.data.toList = b.data.toList) : a = b := by
  rcases a with ⟨⟨a⟩⟩; rcases b with ⟨⟨b⟩⟩
  simp only at h; rw [h]
end Go.Proofs.YtggngahmafbihaaGreatDoor
namespace Go.Proofs.YtggngahmafbihaaGreatDoor
open Go.RowKit Go.Lib
set_option linter.unusedVariables false

/-- The variable of the strings' search. -/
def MaxAt (w : World) : Prop := ∃ m : Int, w.cell? ⟨18, 0, none⟩ = some (.int .i64 m)
theorem MaxAt.below {w w' : World} {B : Nat} (h : MaxAt w) (hb : Below B w w') (hB : 24 ≤ B) : MaxAt w' := by
  obtain ⟨m, hm⟩ := h
  exact ⟨m, (World.cell?_of_block (w := w) (hb.block _ (Nat.lt_of_lt_of_le (by decide) hB))).trans hm⟩
/-- What a value's text asks of the world. -/
structure TxAt (w : World) : Prop where
  tab : TabIs Tryz.prog w "internal/strconv.uint64pow10" .u64 pow10Tab
  room : 24 < w.heap.size
  mx : MaxAt w
theorem TxAt.below {w w' : World} {B : Nat} (h : TxAt w) (hb : Below B w w') (hB : w.heap.size ≤ B) : TxAt w' :=
  ⟨Joins.tab_stays (g := 20) rfl h.tab hb hB, by have := hb.size; have := h.room; omega, h.mx.below hb (by have := h.room; omega)⟩
theorem own_below {W W' : World} {base e size n : Nat} {v : Value} {xs : List Value} (h : W.ownsRow base e size v n xs) (hb : Below W.heap.size W W') : W'.ownsRow base e size v n xs := by
  refine ⟨h.1, ?_⟩
  rcases h.2 with h0 | ⟨g, cap, cur, hv, hb1, hh, r⟩
  · exact .inl h0
  · have hlt : g < W.heap.size := by
      rcases Nat.lt_or_ge g W.heap.size with hlt | hge
      · exact hlt
      · rw [Array.getElem?_eq_none hge] at hh; cases hh
    exact .inr ⟨g, cap, cur, hv, hb1, (hb.block g hlt).trans hh, r⟩
end Go.Proofs.YtggngahmafbihaaGreatDoor
namespace Go.Proofs.YtggngahmafbihaaGreatDoor
open Go.RowKit Go.Lib
set_option linter.unusedVariables false

theorem grown_below {B : Nat} {w w1 w2 : World} {row : Option Nat} (h : Below B w w1) (hz : B ≤ w1.heap.size) (hg : w1.grownBy w2 row) (hr : ∀ k, row = some k → B ≤ k) : Below B w w2 :=
  ⟨hg.os.trans h.os, hg.tape.trans h.tape, hg.output.trans h.output, Nat.le_trans h.size hg.size,
   fun k hk => (hg.block k (by omega) (fun e => by have := hr k e.symm; omega)).trans (h.block k hk)⟩
end Go.Proofs.YtggngahmafbihaaGreatDoor
namespace Go.Proofs.YtggngahmafbihaaGreatDoor
open Go.RowKit Go.Lib
set_option linter.unusedVariables false

end Go.Proofs.YtggngahmafbihaaGreatDoor
namespace Go.Proofs.YtggngahmafbihaaGreatDoor
open Go.RowKit Go.Lib
set_option linter.unusedVariables false

end Go.Proofs.YtggngahmafbihaaGreatDoor
namespace Go.Proofs.YtggngahmafbihaaGreatDoor
open Go.RowKit Go.Lib
set_option linter.unusedVariables false

theorem star_err : "*" ++ "errors.errorString" = "*errors.errorString" := by decide
theorem row_err (u : TypeId) (h : Tryz.prog.typeName? 3 u = some "*errors.errorString") : u = 270 :=
  typeName_ptr_named (nm := "errors.errorString") (by rw [star_err]; kernel_rfl) (by kernel_rfl) (by decide) u (by rw [star_err]; exact h)
/-- A sentinel that heads the list: its variable's cell. -/
theorem sent_at {n : String} {text : List UInt8} {r : List (String × DataW Unit)} {W : World} (g : Nat) (h : laidMet Tryz.prog ((n, .iface "*errors.errorString" (.ptr (.agg [.lit (.string text)]))) :: r) W)
    (hg : Tryz.prog.globalNamed n = some g) (ht : (Tryz.prog.globals[g]?).map (·.type) = some 33) : ∃ a : Addr, W.cell? ⟨g, 0, none⟩ = some (.iface 270 (.pointer (some a))) := by
  obtain ⟨a, s, hv, _⟩ := laid_sentinel h hg ht Tryz.underlying33 row_err Tryz.underlying270 Tryz.underlying272 rfl rfl Tryz.underlying9 (by kernel_rfl) (by kernel_rfl)
  exact ⟨a, by simpa using World.var?_cell hg hv 0⟩
end Go.Proofs.YtggngahmafbihaaGreatDoor
