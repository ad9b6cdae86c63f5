/-
  The chapter's examples (first): they hold.
-/
import Derived.Test.YtoemnccklakkeaaDoorRdL
namespace Go.Proofs.YtoemnccklakkeaaDoor
open Go.RowKit Go.Lib
set_option linter.unusedVariables false

def cS : ByteArray := ⟨#[123, 49, 44, 32, 34, 97, 92, 34, 34, 44, 32, 35, 45, 49, 125]⟩
def cV : VL := .cons 0 1 ByteArray.empty .nil (.cons 2 0 ⟨#[97, 34]⟩ .nil (.cons 1 (-1) ByteArray.empty .nil .nil))
set_option maxRecDepth 100000 in
theorem cS_rd : rdV cS = (15, true, val1 4 0 ByteArray.empty cV) := by kernel_rfl
set_option maxRecDepth 100000 in
theorem cV_ok : (walk1 4 0 ByteArray.empty cV 1 4096).1 = 0 := by kernel_rfl

set_option maxRecDepth 100000 in
set_option maxHeartbeats 1000000 in
theorem first_c (ea : Nat → Addr) (w : World) (he : ErrsAt w ea) :
    Calls Tryd.prog 10 #[] w fun e w' => e = .returned (.bool true) ∧ Below w.heap.size w w' := by
  have RC := Lib.hid (read_c cS ea w he (by decide))
  rw [show cS = ⟨#[123, 49, 44, 32, 34, 97, 92, 34, 34, 44, 32, 35, 45, 49, 125]⟩ from rfl] at RC
  clear he
  go_enter Tryd.func10, Tryd.ntmps10
  go_wp2_with fail
  refine RC.out.mono ?_
  rintro e w2 ⟨hb2, hout⟩
  rw [show (⟨#[123, 49, 44, 32, 34, 97, 92, 34, 34, 44, 32, 35, 45, 49, 125]⟩ : ByteArray) = cS from rfl] at hout
  have hgood : ¬ rdBad cS := by unfold rdBad; rw [cS_rd]; exact fun h => h ⟨rfl, by decide⟩
  rcases hout with ⟨h, _⟩ | ⟨_, k, n, t, sub, hv, hout⟩
  · exact absurd h hgood
  rw [cS_rd] at hv
  injection hv with h1 h2 h3 h4 _
  subst h1; subst h2; subst h3; subst h4
  rcases hout with ⟨h, _⟩ | ⟨_, sa, sc, hsc, hrep, rfl⟩
  · exact absurd cV_ok h
  have HB2 := Lib.hid hb2
  clear RC hb2 hgood
  obtain ⟨b, o, sa1, sc1, rfl, hbS, c00, c01, c02, c03, _, _, b', o', sa2, sc2, hA, _, c10, c11, c12, c13, _, _, b2, o2, sa3, sc3, hA2, _, c20, c21, c22, c23, _⟩ := hrep
  injection hA with hA; injection hA with e1 e2; subst e1; subst e2
  injection hA2 with hA2; injection hA2 with e1 e2; subst e1; subst e2
  have hlen : cV.len = 3 := rfl
  rw [hlen] at hsc ⊢
  have hn : b ≠ w2.heap.size := by have := hbS.2; omega
  have g0 := Lib.hid (StB.new w2 (.int .i64 4) (.int .i64 0) (.string ByteArray.empty) (.slice (some ⟨b, o, none⟩) 3 sc))
  have hk : ∀ p : Addr, p.block = b → (w2.alloc (.cells #[.int .i64 4, .int .i64 0, .string ByteArray.empty, .slice (some ⟨b, o, none⟩) 3 sc] 31)).cell? p = w2.cell? p := fun p hp => World.cell?_of_block (w := w2) (Below.heap_alloc w2 _ p.block (by rw [hp]; exact hbS.2))
  have a0 := (hk ⟨b, o + 4 + 2, none⟩ rfl).trans c12
  have a1 := (hk ⟨b, o + 4 + 4 + 1, none⟩ rfl).trans c21
  rw [show o + 4 + 2 = o + 6 from rfl] at a0
  rw [show o + 4 + 4 + 1 = o + 9 from rfl] at a1
  have q3 := g0.out.c3
  clear c00 c01 c02 c03 c10 c11 c12 c13 c20 c21 c22 c23 hk
  go_wp2_with fail
  go_ret
  exact ⟨rfl, Below.alloc HB2.out HB2.out.size _⟩
end Go.Proofs.YtoemnccklakkeaaDoor
