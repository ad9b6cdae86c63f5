/-
  The reference's Valid and Right: the walks.
-/
import Derived.Test.YtoemnccklakkeaaDoorOddW
namespace Go.Proofs.YtoemnccklakkeaaDoor
open Go.RowKit Go.Lib
set_option linter.unusedVariables false

set_option maxHeartbeats 1000000 in
theorem validR_c (k n : Int) (s : ByteArray) (sub : VL) (sa : Option Addr) (sc : Nat) (w : World) (hs : s.size ≤ 140737488351232) (hl : sub.len ≤ 140737488351232) (hf : sub.fit) (hsc : sub.len ≤ sc)
    (hr : RpL w (fun b => b < w.heap.size) sub sa) :
    Calls Tryd.prog 42 #[.agg #[.int .i64 k, .int .i64 n, .string s, .slice sa sub.len sc]] w fun e w' => e = .returned (.int .i64 (walk1 k n s sub 1 4096).1) ∧ Below w.heap.size w w' := by
  obtain ⟨wa, hwa⟩ : ∃ wa, wa = (w.alloc (.cells #[.int .i64 k, .int .i64 n, .string s, .slice sa sub.len sc] 31)).alloc (.cells #[.int .i64 0] 94) := ⟨_, rfl⟩
  have hb : Below w.heap.size w wa := by rw [hwa]; exact ((Below.refl _ _).alloc (Nat.le_refl _) _).alloc (by simp) _
  have hV : StB wa w.heap.size (.int .i64 k) (.int .i64 n) (.string s) (.slice sa sub.len sc) := by rw [hwa]; exact (StB.new w _ _ _ _).alloc _
  have hL : RwAt wa (w.heap.size + 1) (4096 - 4096) := by rw [hwa]; have := RwAt.new (w.alloc (.cells #[.int .i64 k, .int .i64 n, .string s, .slice sa sub.len sc] 31)) 0; simpa using this
  have hwz : wa.heap.size = w.heap.size + 2 := by rw [hwa]; simp
  have WC := Lib.hid (odd_c (sub.size + 1) k n s sub sa sc 1 4096 (w.heap.size + 1) wa (by omega) hL hs hl hf hsc
    (hr.keep (fun b hlt => hb.block b hlt) (fun b hlt => ⟨by omega, by omega⟩)) (by omega) (by omega) (by omega) (by omega))
  have v0 := hV.c0; have v1 := hV.c1; have v2 := hV.c2; have v3 := hV.c3
  have HB := Lib.hid hb
  have HWA := Lib.hid hwa
  have HWZ := Lib.hid hwz
  rw [hwa] at v0 v1 v2 v3
  clear hb hV hL hwa hwz hr
  go_enter Tryd.func42, Tryd.ntmps42
  go_wp2_with fail
  rw [← HWA.out]
  refine WC.out.mono ?_
  rintro e w5 ⟨rfl, _, hg5⟩
  have HG := Lib.hid hg5
  clear hg5 HWA v0 v1 v2 v3
  go_wp2_with fail
  go_ret
  exact ⟨rfl, HB.out.trans ⟨HG.out.os, HG.out.tape, HG.out.output, HG.out.size, fun b hb => HG.out.block b (by have := HWZ.out; omega) (fun e => by injection e with e; omega)⟩⟩

/-- Is a value right? -/
def rightB (k n : Int) (s : ByteArray) (sub : VL) : Bool := decide ((walk1 k n s sub 1 4096).1 = 0)
set_option maxHeartbeats 1000000 in
theorem right_c (k n : Int) (s : ByteArray) (sub : VL) (sa : Option Addr) (sc : Nat) (w : World) (hf : (val1 k n s sub).fit) (hsc : sub.len ≤ sc)
    (hr : RpL w (fun b => b < w.heap.size) sub sa) :
    Calls Tryd.prog 22 #[.agg #[.int .i64 k, .int .i64 n, .string s, .slice sa sub.len sc]] w fun e w' => e = .returned (.bool (rightB k n s sub)) ∧ Below w.heap.size w w' := by
  obtain ⟨wa, hwa⟩ : ∃ wa, wa = w.alloc (.cells #[.int .i64 k, .int .i64 n, .string s, .slice sa sub.len sc] 31) := ⟨_, rfl⟩
  have hb : Below w.heap.size w wa := by rw [hwa]; exact (Below.refl _ _).alloc (Nat.le_refl _) _
  have hwz : wa.heap.size = w.heap.size + 1 := by rw [hwa]; simp
  have hV : StB wa w.heap.size (.int .i64 k) (.int .i64 n) (.string s) (.slice sa sub.len sc) := by rw [hwa]; exact StB.new w _ _ _ _
  have WC := Lib.hid (validR_c k n s sub sa sc wa hf.1 hf.2.1 hf.2.2.1 hsc (hr.keep (fun b hlt => hb.block b hlt) (fun b hlt => by omega)))
  have v0 := hV.c0; have v1 := hV.c1; have v2 := hV.c2; have v3 := hV.c3
  obtain ⟨c, hc⟩ : ∃ c, c = (walk1 k n s sub 1 4096).1 := ⟨_, rfl⟩
  have HR := Lib.hid (show rightB k n s sub = decide (c = 0) by rw [hc]; rfl)
  rw [← hc] at WC
  rw [HR.out]
  have HB := Lib.hid hb
  have HWA := Lib.hid hwa
  have HWZ := Lib.hid hwz
  rw [hwa] at v0 v1 v2 v3
  clear hb hV hwa hwz hr hc
  have hcc : ((c : Int) == 0) = decide (c = 0) := by
    by_cases h : c = 0
    · subst h; rfl
    · rw [(bne_of (show (c : Int) ≠ 0 by omega)).2, decide_eq_false h]
  go_enter Tryd.func22, Tryd.ntmps22
  go_wp2_with fail
  rw [← HWA.out]
  refine WC.out.mono ?_
  rintro e w5 ⟨rfl, hb5⟩
  have HB5 := Lib.hid (HB.out.trans (below_le' hb5 (by have := HWZ.out; omega)))
  clear hb5
  go_wp2_with fail
  go_ret
  exact ⟨ret_bool rfl, HB5.out⟩
end Go.Proofs.YtoemnccklakkeaaDoor
