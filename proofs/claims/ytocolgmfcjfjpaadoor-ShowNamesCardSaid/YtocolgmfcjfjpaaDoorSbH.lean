/- Contracts of the functions that the statement reaches, and the plain mathematics beneath: several texts joined. -/
import Derived.Test.YtocolgmfcjfjpaaDoorSbG
import Derived.Test.YtocolgmfcjfjpaaDoorSbA
import Derived.Test.YtocolgmfcjfjpaaDoorSbB
import Derived.Test.YtocolgmfcjfjpaaDoorSbF
import Derived.Test.YtocolgmfcjfjpaaDoorSbC
import Derived.Handy
import Derived.StillTailTactics
import Derived.Deep.RegionHeld3
import Derived.Test.YtocolgmfcjfjpaaDoorRows
import Derived.Stop.LaidErr
import Derived.Lib.LaidTab
import Derived.ProofKit
import Derived.Test.YtocolgmfcjfjpaaDoorTie
import Derived.Test.YtocolgmfcjfjpaaDoorCards
import Derived.SevenTiedAt
import Derived.LaidMore
import Derived.Stop.Joined
import Derived.HandedShaped
import Derived.OpenShut
import Derived.ShutString
import Derived.Lay
import Derived.Test.YtocolgmfcjfjpaaDoorSbD
import Derived.Test.YtocolgmfcjfjpaaDoorSbE
namespace Go.Proofs.YtocolgmfcjfjpaaDoor
open Go.RowKit Go.Lib
set_option linter.unusedVariables false

theorem rp1 {w : World} {S : Nat → Prop} {b : Nat} {op ln : Int} {s : ByteArray} {k n : Int} {t : ByteArray} {sub : NL} {sa : Option Addr} {sc : Nat}
    (h : w.heap[b]? = some (.cells #[.int .i64 op, .int .i64 ln, .string s, .int .i64 k, .int .i64 n, .string t, .slice none 0 0, .slice sa sub.len sc] 29 (0, 0))) (hS : S b) (hc : sub.len ≤ sc) (hr : RpN w S sub sa) :
    RpN w S (.cons op ln s k n t .nil sub .nil) (some ⟨b, 0, none⟩) :=
  ⟨b, 0, none, 0, sa, sc, rfl, hS, cell_of_row w b 0 _ _ _ h, cell_of_row w b 1 _ _ _ h, cell_of_row w b 2 _ _ _ h, cell_of_row w b 3 _ _ _ h, cell_of_row w b 4 _ _ _ h, cell_of_row w b 5 _ _ _ h, cell_of_row w b 6 _ _ _ h, Nat.le_refl _, trivial, cell_of_row w b 7 _ _ _ h, hc, hr, trivial⟩
theorem rp2 {w : World} {S : Nat → Prop} {b : Nat} {op ln : Int} {s : ByteArray} {k n : Int} {t : ByteArray} {sub : NL} {sa : Option Addr} {sc : Nat} {op' ln' : Int} {s' : ByteArray} {k' n' : Int} {t' : ByteArray} {sub' : NL} {sa' : Option Addr} {sc' : Nat}
    (h : w.heap[b]? = some (.cells #[.int .i64 op, .int .i64 ln, .string s, .int .i64 k, .int .i64 n, .string t, .slice none 0 0, .slice sa sub.len sc, .int .i64 op', .int .i64 ln', .string s', .int .i64 k', .int .i64 n', .string t', .slice none 0 0, .slice sa' sub'.len sc'] 29 (0, 0)))
    (hS : S b) (hc : sub.len ≤ sc) (hr : RpN w S sub sa) (hc' : sub'.len ≤ sc') (hr' : RpN w S sub' sa') :
    RpN w S (.cons op ln s k n t .nil sub (.cons op' ln' s' k' n' t' .nil sub' .nil)) (some ⟨b, 0, none⟩) :=
  ⟨b, 0, none, 0, sa, sc, rfl, hS, cell_of_row w b 0 _ _ _ h, cell_of_row w b 1 _ _ _ h, cell_of_row w b 2 _ _ _ h, cell_of_row w b 3 _ _ _ h, cell_of_row w b 4 _ _ _ h, cell_of_row w b 5 _ _ _ h, cell_of_row w b 6 _ _ _ h, Nat.le_refl _, trivial, cell_of_row w b 7 _ _ _ h, hc, hr,
    b, 8, none, 0, sa', sc', rfl, hS, cell_of_row w b 8 _ _ _ h, cell_of_row w b 9 _ _ _ h, cell_of_row w b 10 _ _ _ h, cell_of_row w b 11 _ _ _ h, cell_of_row w b 12 _ _ _ h, cell_of_row w b 13 _ _ _ h, cell_of_row w b 14 _ _ _ h, Nat.le_refl _, trivial, cell_of_row w b 15 _ _ _ h, hc', hr', trivial⟩

theorem first1_c (k : Int) (w : World) : Calls Tryd.prog 10 #[.int .i64 k] w fun e w' => e = .returned (.agg #[.int .i64 1, .int .i64 0, .string ⟨#[]⟩, .int .i64 0, .int .i64 k, .string ⟨#[]⟩, .slice none 0 0, .slice none 0 0]) ∧ w.alloc (.cells #[.int .i64 1, .int .i64 0, .string ⟨#[]⟩, .int .i64 0, .int .i64 k, .string ⟨#[]⟩, .slice none 0 0, .slice none 0 0] 29) = w' := by
  go_enter Tryd.func10, Tryd.ntmps10
  go_wp2
  go_returns
  exact ⟨rfl, rfl⟩

/-- The chapter's example: what lies under its one statement. -/
def exSub : NL := .cons 27 0 ⟨#[]⟩ 0 0 ⟨#[]⟩ .nil (.cons 2 0 ⟨#[120]⟩ 0 0 ⟨#[]⟩ .nil .nil (.cons 7 0 ⟨#[]⟩ 0 0 ⟨#[]⟩ .nil (.cons 5 0 ⟨#[]⟩ 0 0 ⟨#[]⟩ .nil (.cons 1 0 ⟨#[]⟩ 0 1 ⟨#[]⟩ .nil .nil (.cons 1 0 ⟨#[]⟩ 0 2 ⟨#[]⟩ .nil .nil .nil)) (.cons 1 0 ⟨#[]⟩ 0 3 ⟨#[]⟩ .nil .nil .nil)) .nil)) .nil
set_option maxRecDepth 100000 in
theorem exSub_right : rightN (node1 40 0 ⟨#[]⟩ 0 0 ⟨#[]⟩ .nil exSub) 7 = true := by decide +kernel
set_option maxRecDepth 100000 in
theorem exSub_right0 : rightN exSub 0 = true := by decide +kernel
set_option maxRecDepth 100000 in
theorem exSub_text : lineT 0 (((ntx exSub).getD 0 default).b ++ [59]) = [120, 32, 61, 32, 40, 49, 32, 43, 32, 50, 41, 32, 42, 32, 51, 59, 10] := by decide +kernel
theorem exSub_fit : exSub.fit := by simp [exSub, NL.fit, VL.fit, VL.len, NL.len, ByteArray.size]
theorem exSub_i64 : exSub.i64 := by simp [exSub, NL.i64, VL.i64, val1]

set_option maxRecDepth 100000 in
set_option maxHeartbeats 2000000 in
theorem first8_c (ea : Nat → Addr) (w : World) (hsh : ShAt w ea) : Calls Tryd.prog 4 #[] w fun e w' => e = .returned (.bool true) ∧ Below w.heap.size w w' := by
  obtain ⟨w1, e1⟩ : ∃ w1, w1 = w.alloc (.cells #[.int .i64 1, .int .i64 0, .string ⟨#[]⟩, .int .i64 0, .int .i64 1, .string ⟨#[]⟩, .slice none 0 0, .slice none 0 0] 29) := ⟨_, rfl⟩
  have z1 : w1.heap.size = w.heap.size + 1 := by rw [e1, World.size_alloc]
  obtain ⟨w2, e2⟩ : ∃ w2, w2 = w1.alloc (.cells #[.int .i64 1, .int .i64 0, .string ⟨#[]⟩, .int .i64 0, .int .i64 2, .string ⟨#[]⟩, .slice none 0 0, .slice none 0 0] 29) := ⟨_, rfl⟩
  have z2 : w2.heap.size = w.heap.size + 1 + 1 := by rw [e2, World.size_alloc, z1]
  obtain ⟨w3, e3⟩ : ∃ w3, w3 = w2.alloc (.cells #[.int .i64 1, .int .i64 0, .string ⟨#[]⟩, .int .i64 0, .int .i64 1, .string ⟨#[]⟩, .slice none 0 0, .slice none 0 0, .int .i64 1, .int .i64 0, .string ⟨#[]⟩, .int .i64 0, .int .i64 2, .string ⟨#[]⟩, .slice none 0 0, .slice none 0 0] 29) := ⟨_, rfl⟩
  have z3 : w3.heap.size = w.heap.size + 1 + 1 + 1 := by rw [e3, World.size_alloc, z2]
  obtain ⟨w4, e4⟩ : ∃ w4, w4 = w3.alloc (.cells #[.int .i64 1, .int .i64 0, .string ⟨#[]⟩, .int .i64 0, .int .i64 3, .string ⟨#[]⟩, .slice none 0 0, .slice none 0 0] 29) := ⟨_, rfl⟩
  have z4 : w4.heap.size = w.heap.size + 1 + 1 + 1 + 1 := by rw [e4, World.size_alloc, z3]
  obtain ⟨w5, e5⟩ : ∃ w5, w5 = w4.alloc (.cells #[.int .i64 5, .int .i64 0, .string ⟨#[]⟩, .int .i64 0, .int .i64 0, .string ⟨#[]⟩, .slice none 0 0, .slice (some ⟨w.heap.size + 1 + 1, 0, none⟩) 2 2, .int .i64 1, .int .i64 0, .string ⟨#[]⟩, .int .i64 0, .int .i64 3, .string ⟨#[]⟩, .slice none 0 0, .slice none 0 0] 29) := ⟨_, rfl⟩
  have z5 : w5.heap.size = w.heap.size + 1 + 1 + 1 + 1 + 1 := by rw [e5, World.size_alloc, z4]
  obtain ⟨w6, e6⟩ : ∃ w6, w6 = w5.alloc (.cells #[.int .i64 7, .int .i64 0, .string ⟨#[]⟩, .int .i64 0, .int .i64 0, .string ⟨#[]⟩, .slice none 0 0, .slice (some ⟨w.heap.size + 1 + 1 + 1 + 1, 0, none⟩) 2 2] 29) := ⟨_, rfl⟩
  have z6 : w6.heap.size = w.heap.size + 1 + 1 + 1 + 1 + 1 + 1 := by rw [e6, World.size_alloc, z5]
  obtain ⟨w7, e7⟩ : ∃ w7, w7 = w6.alloc (.cells #[.int .i64 2, .int .i64 0, .string ⟨#[120]⟩, .int .i64 0, .int .i64 0, .string ⟨#[]⟩, .slice none 0 0, .slice none 0 0, .int .i64 7, .int .i64 0, .string ⟨#[]⟩, .int .i64 0, .int .i64 0, .string ⟨#[]⟩, .slice none 0 0, .slice (some ⟨w.heap.size + 1 + 1 + 1 + 1, 0, none⟩) 2 2] 29) := ⟨_, rfl⟩
  have z7 : w7.heap.size = w.heap.size + 1 + 1 + 1 + 1 + 1 + 1 + 1 := by rw [e7, World.size_alloc, z6]
  obtain ⟨w8, e8⟩ : ∃ w8, w8 = w7.alloc (.cells #[.int .i64 27, .int .i64 0, .string ⟨#[]⟩, .int .i64 0, .int .i64 0, .string ⟨#[]⟩, .slice none 0 0, .slice (some ⟨w.heap.size + 1 + 1 + 1 + 1 + 1 + 1, 0, none⟩) 2 2] 29) := ⟨_, rfl⟩
  have z8 : w8.heap.size = w.heap.size + 1 + 1 + 1 + 1 + 1 + 1 + 1 + 1 := by rw [e8, World.size_alloc, z7]
  obtain ⟨w9, e9⟩ : ∃ w9, w9 = w8.alloc (.cells #[.int .i64 40, .int .i64 0, .string ⟨#[]⟩, .int .i64 0, .int .i64 0, .string ⟨#[]⟩, .slice none 0 0, .slice (some ⟨w.heap.size + 1 + 1 + 1 + 1 + 1 + 1 + 1, 0, none⟩) 1 1] 29) := ⟨_, rfl⟩
  have z9 : w9.heap.size = w.heap.size + 1 + 1 + 1 + 1 + 1 + 1 + 1 + 1 + 1 := by rw [e9, World.size_alloc, z8]
  have h2 : w9.heap[w.heap.size + 1 + 1]? = some (.cells #[.int .i64 1, .int .i64 0, .string ⟨#[]⟩, .int .i64 0, .int .i64 1, .string ⟨#[]⟩, .slice none 0 0, .slice none 0 0, .int .i64 1, .int .i64 0, .string ⟨#[]⟩, .int .i64 0, .int .i64 2, .string ⟨#[]⟩, .slice none 0 0, .slice none 0 0] 29 (0, 0)) := by rw [e9, Below.heap_alloc _ _ _ (by omega), e8, Below.heap_alloc _ _ _ (by omega), e7, Below.heap_alloc _ _ _ (by omega), e6, Below.heap_alloc _ _ _ (by omega), e5, Below.heap_alloc _ _ _ (by omega), e4, Below.heap_alloc _ _ _ (by omega), e3]; have h := heap_alloc_new w2 (.cells #[.int .i64 1, .int .i64 0, .string ⟨#[]⟩, .int .i64 0, .int .i64 1, .string ⟨#[]⟩, .slice none 0 0, .slice none 0 0, .int .i64 1, .int .i64 0, .string ⟨#[]⟩, .int .i64 0, .int .i64 2, .string ⟨#[]⟩, .slice none 0 0, .slice none 0 0] 29); rw [z2] at h; exact h
  have h4 : w9.heap[w.heap.size + 1 + 1 + 1 + 1]? = some (.cells #[.int .i64 5, .int .i64 0, .string ⟨#[]⟩, .int .i64 0, .int .i64 0, .string ⟨#[]⟩, .slice none 0 0, .slice (some ⟨w.heap.size + 1 + 1, 0, none⟩) 2 2, .int .i64 1, .int .i64 0, .string ⟨#[]⟩, .int .i64 0, .int .i64 3, .string ⟨#[]⟩, .slice none 0 0, .slice none 0 0] 29 (0, 0)) := by rw [e9, Below.heap_alloc _ _ _ (by omega), e8, Below.heap_alloc _ _ _ (by omega), e7, Below.heap_alloc _ _ _ (by omega), e6, Below.heap_alloc _ _ _ (by omega), e5]; have h := heap_alloc_new w4 (.cells #[.int .i64 5, .int .i64 0, .string ⟨#[]⟩, .int .i64 0, .int .i64 0, .string ⟨#[]⟩, .slice none 0 0, .slice (some ⟨w.heap.size + 1 + 1, 0, none⟩) 2 2, .int .i64 1, .int .i64 0, .string ⟨#[]⟩, .int .i64 0, .int .i64 3, .string ⟨#[]⟩, .slice none 0 0, .slice none 0 0] 29); rw [z4] at h; exact h
  have h6 : w9.heap[w.heap.size + 1 + 1 + 1 + 1 + 1 + 1]? = some (.cells #[.int .i64 2, .int .i64 0, .string ⟨#[120]⟩, .int .i64 0, .int .i64 0, .string ⟨#[]⟩, .slice none 0 0, .slice none 0 0, .int .i64 7, .int .i64 0, .string ⟨#[]⟩, .int .i64 0, .int .i64 0, .string ⟨#[]⟩, .slice none 0 0, .slice (some ⟨w.heap.size + 1 + 1 + 1 + 1, 0, none⟩) 2 2] 29 (0, 0)) := by rw [e9, Below.heap_alloc _ _ _ (by omega), e8, Below.heap_alloc _ _ _ (by omega), e7]; have h := heap_alloc_new w6 (.cells #[.int .i64 2, .int .i64 0, .string ⟨#[120]⟩, .int .i64 0, .int .i64 0, .string ⟨#[]⟩, .slice none 0 0, .slice none 0 0, .int .i64 7, .int .i64 0, .string ⟨#[]⟩, .int .i64 0, .int .i64 0, .string ⟨#[]⟩, .slice none 0 0, .slice (some ⟨w.heap.size + 1 + 1 + 1 + 1, 0, none⟩) 2 2] 29); rw [z6] at h; exact h
  have h7 : w9.heap[w.heap.size + 1 + 1 + 1 + 1 + 1 + 1 + 1]? = some (.cells #[.int .i64 27, .int .i64 0, .string ⟨#[]⟩, .int .i64 0, .int .i64 0, .string ⟨#[]⟩, .slice none 0 0, .slice (some ⟨w.heap.size + 1 + 1 + 1 + 1 + 1 + 1, 0, none⟩) 2 2] 29 (0, 0)) := by rw [e9, Below.heap_alloc _ _ _ (by omega), e8]; have h := heap_alloc_new w7 (.cells #[.int .i64 27, .int .i64 0, .string ⟨#[]⟩, .int .i64 0, .int .i64 0, .string ⟨#[]⟩, .slice none 0 0, .slice (some ⟨w.heap.size + 1 + 1 + 1 + 1 + 1 + 1, 0, none⟩) 2 2] 29); rw [z7] at h; exact h
  have h8 : w9.heap[w.heap.size + 1 + 1 + 1 + 1 + 1 + 1 + 1 + 1]? = some (.cells #[.int .i64 40, .int .i64 0, .string ⟨#[]⟩, .int .i64 0, .int .i64 0, .string ⟨#[]⟩, .slice none 0 0, .slice (some ⟨w.heap.size + 1 + 1 + 1 + 1 + 1 + 1 + 1, 0, none⟩) 1 1] 29 (0, 0)) := by rw [e9]; have h := heap_alloc_new w8 (.cells #[.int .i64 40, .int .i64 0, .string ⟨#[]⟩, .int .i64 0, .int .i64 0, .string ⟨#[]⟩, .slice none 0 0, .slice (some ⟨w.heap.size + 1 + 1 + 1 + 1 + 1 + 1 + 1, 0, none⟩) 1 1] 29); rw [z8] at h; exact h
  have hb : Below w.heap.size w w9 := by
    rw [e9, e8, e7, e6, e5, e4, e3, e2, e1]
    exact ((((((((((Below.refl _ _).alloc (by simp; try omega) _).alloc (by simp; try omega) _).alloc (by simp; try omega) _).alloc (by simp; try omega) _).alloc (by simp; try omega) _).alloc (by simp; try omega) _).alloc (by simp; try omega) _).alloc (by simp; try omega) _).alloc (by simp; try omega) _)
  have r2 := rp2 (S := fun b => b < w9.heap.size) (sub := .nil) (sub' := .nil) h2 (by omega) (Nat.le_refl _) trivial (Nat.le_refl _) trivial
  have r4 := rp2 (S := fun b => b < w9.heap.size) (sub' := .nil) h4 (by omega) (Nat.le_refl 2) r2 (Nat.le_refl _) trivial
  have r6 := rp2 (S := fun b => b < w9.heap.size) (sub := .nil) h6 (by omega) (Nat.le_refl _) trivial (Nat.le_refl 2) r4
  have r7 := rp1 (S := fun b => b < w9.heap.size) h7 (by omega) (Nat.le_refl 2) r6
  have r8 := rp1 (S := fun b => b < w9.heap.size) h8 (by omega) (Nat.le_refl 1) r7
  obtain ⟨hex, htot⟩ := right_ex exSub_fit exSub_i64 exSub_right0
  have PD := Lib.hid (program_do 0 ⟨#[]⟩ 0 0 ⟨#[]⟩ .nil exSub (some ⟨w.heap.size + 1 + 1 + 1 + 1 + 1 + 1 + 1 + 1, 0, none⟩) 1 ea w9 (hsh.below hb) ⟨by decide, by decide, by decide, trivial, by decide, exSub_fit, trivial⟩ hex rfl htot (Nat.le_refl 1) r8 exSub_right)
  rw [exSub_text, show bs [120, 32, 61, 32, 40, 49, 32, 43, 32, 50, 41, 32, 42, 32, 51, 59, 10] = ⟨#[120, 32, 61, 32, 40, 49, 32, 43, 32, 50, 41, 32, 42, 32, 51, 59, 10]⟩ from rfl] at PD
  have HB := Lib.hid hb
  have E1 := Lib.hid e1
  have E2 := Lib.hid e2
  have E3 := Lib.hid e3
  have E4 := Lib.hid e4
  have E5 := Lib.hid e5
  have E6 := Lib.hid e6
  have E7 := Lib.hid e7
  have E8 := Lib.hid e8
  have E9 := Lib.hid e9
  clear hsh hb h2 h4 h6 h7 h8 r2 r4 r6 r7 r8 hex htot e1 e2 e3 e4 e5 e6 e7 e8 e9 z1 z2 z3 z4 z5 z6 z7 z8 z9
  go_enter Tryd.func4, Tryd.ntmps4
  go_wp2_with fail
  refine (first1_c 1 _).mono ?_
  rintro e w1 ⟨rfl, rfl⟩
  go_wp2_with fail
  refine (first1_c 2 _).mono ?_
  rintro e w1 ⟨rfl, rfl⟩
  go_wp2_with fail
  refine (first1_c 3 _).mono ?_
  rintro e w1 ⟨rfl, rfl⟩
  go_wp2_with fail
  rw [← E1.out, ← E2.out, ← E3.out, ← E4.out, ← E5.out, ← E6.out, ← E7.out, ← E8.out, ← E9.out]
  refine PD.out.mono ?_
  rintro e w9 ⟨rfl, hb9⟩
  have HB9 := Lib.hid (HB.out.trans (below_le' hb9 HB.out.size))
  clear hb9
  go_wp2_with fail
  go_ret
  exact ⟨rfl, HB9.out⟩
end Go.Proofs.YtocolgmfcjfjpaaDoor
namespace Go.Proofs.YtocolgmfcjfjpaaDoor
open Go.RowKit Go.Lib
set_option linter.unusedVariables false

/-- A Var x, and a literal text. -/
def twoL (s : ByteArray) : NL := .cons 2 0 ⟨#[120]⟩ 0 0 ⟨#[]⟩ .nil .nil (.cons 1 0 ⟨#[]⟩ 2 0 s .nil .nil .nil)
theorem walk_str (s : ByteArray) (hs : s.size ≤ 40) (hp : prB s.data.toList = true) : (walk1 2 0 s .nil 1 4096).1 = 0 := by
  have hm : mOf 2 s = s.size := rfl
  have ho : ownE 2 0 s (VL.len .nil) = 0 := by
    unfold ownE
    rw [if_neg (by omega), if_neg (by omega), if_neg (by omega), if_neg (by simp [VL.len]), if_neg (by rw [hp]; decide)]
  unfold walk1
  rw [if_neg (by decide), if_neg (by rw [hm]; omega), if_pos ho]
  rfl
theorem two_fit (s : ByteArray) (hs : s.size ≤ 40) : (twoL s).fit := by
  refine ⟨by decide, by decide, by decide, trivial, by decide, trivial, by decide, ?_, by decide, trivial, by decide, trivial, trivial⟩
  omega
theorem two_i64 (s : ByteArray) : (twoL s).i64 := by simp [twoL, NL.i64, VL.i64, val1]
theorem own_var : ownN 2 ⟨#[120]⟩ 0 0 ⟨#[]⟩ .nil 0 0 false = 0 := by decide +kernel
theorem own_str (s : ByteArray) (hs : s.size ≤ 40) (hp : prB s.data.toList = true) : ownN 1 ⟨#[]⟩ 2 0 s .nil 0 0 false = 0 := by
  have h := walk_str s hs hp
  unfold ownN
  simp only [if_pos, h]
  decide +kernel
theorem two_right (op : Int) (hop : op = 22 ∨ op = 23) (s : ByteArray) (hs : s.size ≤ 40) (hp : prB s.data.toList = true) : rightN (node1 op 0 ⟨#[]⟩ 0 0 ⟨#[]⟩ .nil (twoL s)) 0 = true := by
  have h1 : (node1 op 0 ⟨#[]⟩ 0 0 ⟨#[]⟩ .nil (twoL s)).tot = 3 := rfl
  have h2 : (node1 op 0 ⟨#[]⟩ 0 0 ⟨#[]⟩ .nil (twoL s)).deep = 2 := rfl
  have h3 : ownN op ⟨#[]⟩ 0 0 ⟨#[]⟩ .nil 2 0 false = 0 := by rcases hop with rfl | rfl <;> decide +kernel
  have hr : ∀ j, j < 2 → subRole op 2 0 false j = (0, false) := by
    intro j hj
    have hj2 : j = 0 ∨ j = 1 := by omega
    rcases hop with rfl | rfl <;> rcases hj2 with rfl | rfl <;> decide +kernel
  have h4 : walkN (node1 op 0 ⟨#[]⟩ 0 0 ⟨#[]⟩ .nil (twoL s)) (fun _ => (0, false)) 0 = none := by
    unfold node1
    rw [walkN, if_neg (by show ¬ (ownN op ⟨#[]⟩ 0 0 ⟨#[]⟩ .nil 2 0 false ≠ 0); rw [h3]; decide)]
    have h5 : walkN (twoL s) (subRole op (twoL s).len 0 false) 0 = none := by
      show walkN (.cons 2 0 ⟨#[120]⟩ 0 0 ⟨#[]⟩ .nil .nil (.cons 1 0 ⟨#[]⟩ 2 0 s .nil .nil .nil)) (subRole op 2 0 false) 0 = none
      rw [walkN, hr 0 (by decide), if_neg (by show ¬ (ownN 2 ⟨#[120]⟩ 0 0 ⟨#[]⟩ .nil 0 0 false ≠ 0); rw [own_var]; decide)]
      show walkN (.cons 1 0 ⟨#[]⟩ 2 0 s .nil .nil .nil) (subRole op 2 0 false) 1 = none
      rw [walkN, hr 1 (by decide), if_neg (by show ¬ (ownN 1 ⟨#[]⟩ 2 0 s .nil 0 0 false ≠ 0); rw [own_str s hs hp]; decide)]
      rfl
    show (match walkN (twoL s) (subRole op (twoL s).len 0 false) 0 with | some e => some e | none => walkN .nil (fun _ => (0, false)) 1) = none
    rw [h5]
    rfl
  simp only [rightN, Bool.and_eq_true, decide_eq_true_eq, Option.isNone_iff_eq_none, h1, h2, h4]
  exact ⟨⟨by decide, by decide⟩, trivial⟩
/-- What stands behind the sign. -/
def nmT (s : ByteArray) : List UInt8 := if nameB s = true then s.data.toList else brk (quoL s.data.toList)
theorem text_22 (s : ByteArray) : (nodeT 22 ⟨#[]⟩ 0 0 ⟨#[]⟩ .nil (ntx (twoL s))).b = [120] ++ [46] ++ nmT s := by
  show [120] ++ [46] ++ (if (1 : Int) = 1 ∧ (2 : Int) = 2 ∧ nameB s = true then s.data.toList else brk (quoL s.data.toList)) = _
  unfold nmT
  simp
theorem text_23 (s : ByteArray) : (nodeT 23 ⟨#[]⟩ 0 0 ⟨#[]⟩ .nil (ntx (twoL s))).b = [120] ++ [58] ++ nmT s ++ [40] ++ [] ++ [41] := by
  show [120] ++ [58] ++ (if (1 : Int) = 1 ∧ (2 : Int) = 2 ∧ nameB s = true then s.data.toList else brk (quoL s.data.toList)) ++ [40] ++ [] ++ [41] = _
  unfold nmT
  simp

/-- How a name begins. -/
def nmHd (s : ByteArray) : Bool := decide (1 ≤ s.size) && (decide (s.size ≤ 32) && ((decide (97 ≤ (s.data.toList.getD 0 0).toNat) && decide ((s.data.toList.getD 0 0).toNat ≤ 122)) || decide ((s.data.toList.getD 0 0).toNat = 95)))
theorem nameB_hd (s : ByteArray) : nameB s = (nmHd s && s.data.toList.all nmCh && !keysL.contains s) := by
  have hlen : s.data.toList.length = s.size := by rw [Array.length_toList]; rfl
  unfold nameB nmHd
  rw [dg_eq]
  cases ha : s.data.toList.all nmCh with
  | false => simp
  | true =>
    by_cases h1 : 1 ≤ s.size
    · have hc : nmCh (s.data.toList.getD 0 0) = true := by
        rw [List.all_eq_true] at ha
        apply ha
        rw [List.getD_eq_getElem?_getD, List.getElem?_eq_getElem (show 0 < s.data.toList.length by omega)]
        exact List.getElem_mem _
      rw [nmCh_eq, decide_eq_true_eq] at hc
      generalize (s.data.toList.getD 0 0).toNat = c at hc ⊢
      have e : (!decide (48 ≤ c ∧ c ≤ 57)) = ((decide (97 ≤ c) && decide (c ≤ 122)) || decide (c = 95)) := by
        rw [Bool.eq_iff_iff]
        simp only [Bool.not_eq_true', decide_eq_false_iff_not, Bool.or_eq_true, Bool.and_eq_true, decide_eq_true_eq]
        omega
      rw [e]
      cases decide (1 ≤ s.size) <;> cases decide (s.size ≤ 32) <;> simp
    · simp [h1]
end Go.Proofs.YtocolgmfcjfjpaaDoor
namespace Go.Proofs.YtocolgmfcjfjpaaDoor
open Go.RowKit Go.Lib
set_option linter.unusedVariables false

set_option maxHeartbeats 400000 in
theorem printed_c (s : ByteArray) (w : World) (hs : s.size ≤ 140737488351232) :
    Calls Tryd.prog 5 #[.string s] w fun e w' => e = .returned (.bool (prB s.data.toList)) ∧ w = w' := by
  go_enter Tryd.func5, Tryd.ntmps5
  go_wp2
  go_loop [3] (fun i => ∃ k : Nat, k ≤ s.size ∧ i = .int .i64 k ∧ Hid (prB (s.data.toList.take k) = true)) (fun i => s.size - (RowKit.intOf i).toNat)
  case atStart => exact ⟨0, Nat.zero_le _, rfl, rfl⟩
  case round =>
    obtain ⟨k, hk, rfl, hall⟩ := hrel
    by_cases hlt : k < s.size
    · have hts := Lib.hid (take_snoc s k hlt)
      go_wp2
      all_goals first
        | (go_ret
           exact ⟨ret_bool (prB_bad s k hlt (by omega)).symm, rfl⟩)
        | (refine ⟨⟨k + 1, by omega, by go_num, ?_⟩, by simp [RowKit.intOf]; omega⟩
           show prB _ = true
           have hx := hall.out
           unfold prB at hx ⊢
           rw [hts.out, List.all_append, hx, List.all_cons, show prC s[k] = true from decide_eq_true (by omega)]
           rfl)
    · obtain rfl : k = s.size := by omega
      go_wp2
      go_ret
      refine ⟨ret_bool ?_, rfl⟩
      have := hall.out
      rw [List.take_of_length_le (by simp)] at this
      exact this.symm

section
variable {w w' : World} {L : Nat} {left : Int}
end

/-- Out of the loop over the items. -/
theorem bne_of {a b : Int} (h : a ≠ b) : (a != b) = true ∧ (a == b) = false := by simp [h]

/-- Where odd goes on to look at a value's kind, and it is not a Str. -/
theorem kind_cases {k n : Int} {s : ByteArray} {len : Nat} (hk : k ≠ 2) :
    (ownE k n s len = 105 ∧ (k < 0 ∨ (0 ≤ k ∧ 4 < k) ∨ (k = 1 ∧ n < -2147483648) ∨ (k = 1 ∧ -2147483648 ≤ n ∧ 2147483647 < n) ∨ (k = 3 ∧ n < 0) ∨ (k = 3 ∧ 0 ≤ n ∧ 14 < n))) ∨
    (ownE k n s len = 103 ∧ ((k = 0 ∧ s.toList.isEmpty = false) ∨ (k = 0 ∧ s.toList.isEmpty = true ∧ 0 < len) ∨ (k = 1 ∧ -2147483648 ≤ n ∧ n ≤ 2147483647 ∧ s.toList.isEmpty = false) ∨ (k = 1 ∧ -2147483648 ≤ n ∧ n ≤ 2147483647 ∧ s.toList.isEmpty = true ∧ 0 < len) ∨
      (k = 3 ∧ 0 ≤ n ∧ n ≤ 14 ∧ s.toList.isEmpty = false) ∨ (k = 3 ∧ 0 ≤ n ∧ n ≤ 14 ∧ s.toList.isEmpty = true ∧ 0 < len) ∨ (k = 4 ∧ n ≠ 0) ∨ (k = 4 ∧ n = 0 ∧ s.toList.isEmpty = false))) ∨
    (ownE k n s len = 0 ∧ s = ⟨#[]⟩ ∧ ((k = 0 ∧ len = 0) ∨ (k = 1 ∧ -2147483648 ≤ n ∧ n ≤ 2147483647 ∧ len = 0) ∨ (k = 3 ∧ 0 ≤ n ∧ n ≤ 14 ∧ len = 0) ∨ (k = 4 ∧ n = 0))) := by
  have hse : (s.toList.isEmpty = true ∧ s.data.toList = [] ∧ s = ⟨#[]⟩) ∨ (s.toList.isEmpty = false ∧ s.data.toList ≠ []) := by
    rw [Lib.toList_data]
    rcases s with ⟨⟨l⟩⟩
    cases l with
    | nil => exact .inl ⟨rfl, rfl, rfl⟩
    | cons a r => exact .inr ⟨rfl, by simp⟩
  unfold ownE
  by_cases h1 : k < 0 ∨ 4 < k
  · rw [if_pos h1]; exact .inl ⟨rfl, by omega⟩
  rw [if_neg h1]
  by_cases h2 : k = 1 ∧ (n < -2147483648 ∨ 2147483647 < n)
  · rw [if_pos h2]; exact .inl ⟨rfl, by omega⟩
  rw [if_neg h2]
  by_cases h3 : k = 3 ∧ (n < 0 ∨ 14 < n)
  · rw [if_pos h3]; exact .inl ⟨rfl, by omega⟩
  rw [if_neg h3]
  right
  have hkk : k = 0 ∨ k = 1 ∨ k = 3 ∨ k = 4 := by omega
  rcases hse with ⟨e1, e2, e3⟩ | ⟨e1, e2⟩
  · by_cases h4 : k ≠ 4 ∧ 0 < len
    · rw [if_pos (.inr (.inl h4))]
      left; refine ⟨rfl, ?_⟩
      simp only [e1]; simp; omega
    · by_cases h5 : k = 4 ∧ n ≠ 0
      · rw [if_pos (.inr (.inr ⟨.inr h5.1, h5.2⟩))]
        left; refine ⟨rfl, ?_⟩
        simp only [e1]; simp; omega
      · rw [if_neg (by rintro (⟨_, h⟩ | h | ⟨h, h'⟩); exact h e2; exact h4 h; rcases h with h | h; exact hk h; exact h5 ⟨h, h'⟩), if_neg (by rw [e2]; decide)]
        right; exact ⟨rfl, e3, by omega⟩
  · rw [if_pos (.inl ⟨hk, e2⟩)]
    left; refine ⟨rfl, ?_⟩
    simp only [e1]; simp; omega
/-- The same of a Str. -/
theorem str_cases {n : Int} {s : ByteArray} {len : Nat} :
    (ownE 2 n s len = 103 ∧ (n ≠ 0 ∨ (n = 0 ∧ 0 < len))) ∨ (ownE 2 n s len = 103 ∧ n = 0 ∧ len = 0 ∧ prB s.data.toList = false) ∨ (ownE 2 n s len = 0 ∧ n = 0 ∧ len = 0 ∧ prB s.data.toList = true) := by
  unfold ownE
  rw [if_neg (by decide), if_neg (by rintro ⟨h, _⟩; cases h), if_neg (by rintro ⟨h, _⟩; cases h)]
  by_cases h : n ≠ 0 ∨ 0 < len
  · rw [if_pos (by rcases h with h | h; exact .inr (.inr ⟨.inl rfl, h⟩); exact .inr (.inl ⟨by decide, h⟩))]
    left; exact ⟨rfl, by omega⟩
  · rw [if_neg (by rintro (⟨h', _⟩ | ⟨_, h'⟩ | ⟨_, h'⟩); exact h' rfl; exact h (.inr h'); exact h (.inl h'))]
    right
    by_cases hp : prB s.data.toList = false
    · rw [if_pos hp]; left; exact ⟨rfl, by omega, by omega, hp⟩
    · rw [if_neg hp]; right; exact ⟨rfl, by omega, by omega, by simpa using hp⟩
end Go.Proofs.YtocolgmfcjfjpaaDoor
namespace Go.Proofs.YtocolgmfcjfjpaaDoor
open Go.RowKit Go.Lib
set_option linter.unusedVariables false

end Go.Proofs.YtocolgmfcjfjpaaDoor
namespace Go.Proofs.YtocolgmfcjfjpaaDoor
open Go.RowKit Go.Lib
set_option linter.unusedVariables false

theorem escL_snoc (l : List UInt8) (c : UInt8) : escL (l ++ [c]) = escL l ++ (if c = 34 ∨ c = 92 then [92, c] else [c]) := by
  induction l with
  | nil => rw [List.nil_append, escL, escL]; rfl
  | cons x r ih => rw [List.cons_append, escL, escL, ih]; split <;> rfl
theorem ext_one (s : ByteArray) (i : Nat) (h : i < s.size) : s.extract i (i + 1) = ⟨#[s[i]]⟩ := by
  have : (s.extract i (i + 1)).data.toList = [s[i]] := by
    rw [ByteArray.data_extract, Array.toList_extract, List.extract_eq_take_drop, show i + 1 - i = 1 by omega, List.drop_eq_getElem_cons (by rw [Array.length_toList]; exact h), List.take_succ_cons, List.take_zero]
    rfl
  apply ByteArray.ext
  rw [← Array.toArray_toList (xs := (s.extract i (i + 1)).data), this]

set_option maxHeartbeats 2000000 in
theorem quoted_c (s : ByteArray) (w : World) (hs : s.size ≤ 1000000) :
    Calls Tryd.prog 8 #[.string s] w fun e w' => e = .returned (.string ⟨(quoL s.data.toList).toArray⟩) ∧ w = w' := by
  go_enter Tryd.func8, Tryd.ntmps8
  go_wp2_with fail
  go_loopg [3, 4] s.size (fun kk v3 v4 wr => ∃ (X : ByteArray) (i : Nat), v3 = .string X ∧ v4 = .int .i64 i ∧ i + kk = s.size ∧ Hid (X.data.toList = 34 :: escL (s.data.toList.take i)) ∧ w = wr)
  case atStart => exact ⟨⟨#[34]⟩, 0, rfl, rfl, by omega, rfl, rfl⟩
  case round =>
    obtain ⟨X, i, rfl, rfl, hik, hX, rfl⟩ := hrel
    have hXz : X.size = 1 + (escL (s.data.toList.take i)).length := by
      have h1 : X.size = X.data.toList.length := by rw [Array.length_toList]; rfl
      rw [h1, hX.out, List.length_cons]; omega
    have hel := (escL_len (s.data.toList.take i)).2
    have htl : (s.data.toList.take i).length ≤ i := by rw [List.length_take]; omega
    have hXb : X.size ≤ 3000000 := by omega
    by_cases hi : i < s.size
    · obtain ⟨g, rfl⟩ : ∃ g, gk = g + 1 := ⟨gk - 1, by omega⟩
      have hts := Lib.hid (take_snoc s i hi)
      have hx := ext_one s i hi
      clear hXz hel htl
      by_cases c34 : s[i] = 34
      · have c1 : (((s[i]'hi).toNat : Int) == 34) = true := by rw [c34]; rfl
        have HN := Lib.hid (show (X ++ ⟨#[92]⟩ ++ ⟨#[s[i]]⟩ : ByteArray).data.toList = 34 :: escL (s.data.toList.take (i + 1)) by rw [hts.out, escL_snoc, if_pos (.inl c34)]; simp [hX.out])
        clear c34
        go_wp2_with fail
        go_roundg g
        case measure => omega
        case rel => exact ⟨_, i + 1, rfl, by go_num, by omega, HN.out, rfl⟩
      · by_cases c92 : s[i] = 92
        · have c1 : (((s[i]'hi).toNat : Int) == 34) = false := by rw [c92]; rfl
          have c2 : (((s[i]'hi).toNat : Int) == 92) = true := by rw [c92]; rfl
          have HN := Lib.hid (show (X ++ ⟨#[92]⟩ ++ ⟨#[s[i]]⟩ : ByteArray).data.toList = 34 :: escL (s.data.toList.take (i + 1)) by rw [hts.out, escL_snoc, if_pos (.inr c92)]; simp [hX.out])
          clear c34 c92
          go_wp2_with fail
          go_roundg g
          case measure => omega
          case rel => exact ⟨_, i + 1, rfl, by go_num, by omega, HN.out, rfl⟩
        · have c1 := (ne_byte (x := s[i]) 34 34 rfl c34).1
          have c2 := (ne_byte (x := s[i]) 92 92 rfl c92).1
          have HN := Lib.hid (show (X ++ ⟨#[s[i]]⟩ : ByteArray).data.toList = 34 :: escL (s.data.toList.take (i + 1)) by
            rw [hts.out, escL_snoc, if_neg (by rintro (h | h); exact c34 h; exact c92 h)]; simp [hX.out])
          clear c34 c92
          go_wp2_with fail
          go_roundg g
          case measure => omega
          case rel => exact ⟨_, i + 1, rfl, by go_num, by omega, HN.out, rfl⟩
    · obtain rfl : i = s.size := by omega
      have HN := Lib.hid (show (X ++ ⟨#[34]⟩ : ByteArray) = ⟨(quoL s.data.toList).toArray⟩ by
        apply ByteArray.ext
        have h1 := hX.out
        rw [List.take_of_length_le (by rw [Array.length_toList]; exact Nat.le_refl _)] at h1
        have h2 : (X ++ ⟨#[34]⟩ : ByteArray).data.toList = quoL s.data.toList := by simp [h1, quoL]
        rw [← h2])
      clear hXz hel htl
      go_wp2_with fail
      go_ret
      exact ⟨ret_str HN.out, rfl⟩
end Go.Proofs.YtocolgmfcjfjpaaDoor
namespace Go.Proofs.YtocolgmfcjfjpaaDoor
open Go.RowKit Go.Lib
set_option linter.unusedVariables false

section
variable {w w' : World} {R : Nat} {s : ByteArray} {i : Nat}
end
section
variable {w w1 w2 w3 : World} {R : Nat} {s : ByteArray} {i j : Nat}
end

/-- The loop over digits, as the reference has it: the place, whether it goes on, the number. -/
def digR (s : ByteArray) (lim : Nat) (neg : Bool) (b : Nat) : Nat → Nat → Nat → Nat × Bool × Nat
  | 0, i, _ => (i, false, 0)
  | f + 1, i, a =>
    if digB (pk s i) = true then
      if (b < i ∧ a = 0) ∨ (neg = true ∧ i = b ∧ pk s i = 48) ∨ lim < 10 * a + dg1 (pk s i) then (i, false, 0)
      else digR s lim neg b f (i + 1) (10 * a + dg1 (pk s i))
    else (i, decide (b < i), a)
def digSp (s : ByteArray) (lim : Nat) (neg : Bool) (i : Nat) : Nat × Bool × Nat := digR s lim neg i (s.size + 1) i 0
/-- The number that digits hands back. -/
def digV (neg : Bool) (r : Nat × Bool × Nat) : Int := if r.2.1 then (if neg then -(r.2.2 : Int) else r.2.2) else 0

theorem digR_end {s : ByteArray} {lim : Nat} {neg : Bool} {b f i a : Nat} (h : digB (pk s i) = false) : digR s lim neg b (f + 1) i a = (i, decide (b < i), a) := by
  rw [digR, if_neg (by rw [h]; decide)]
theorem digR_bad {s : ByteArray} {lim : Nat} {neg : Bool} {b f i a : Nat} (h : digB (pk s i) = true) (hb : (b < i ∧ a = 0) ∨ (neg = true ∧ i = b ∧ pk s i = 48) ∨ lim < 10 * a + dg1 (pk s i)) : digR s lim neg b (f + 1) i a = (i, false, 0) := by
  rw [digR, if_pos h, if_pos hb]
theorem digR_step {s : ByteArray} {lim : Nat} {neg : Bool} {b f i a : Nat} (h : digB (pk s i) = true) (hb : ¬ ((b < i ∧ a = 0) ∨ (neg = true ∧ i = b ∧ pk s i = 48) ∨ lim < 10 * a + dg1 (pk s i))) : digR s lim neg b (f + 1) i a = digR s lim neg b f (i + 1) (10 * a + dg1 (pk s i)) := by
  rw [digR, if_pos h, if_neg hb]

end Go.Proofs.YtocolgmfcjfjpaaDoor
namespace Go.Proofs.YtocolgmfcjfjpaaDoor
open Go.RowKit Go.Lib
set_option linter.unusedVariables false

/-- A number with a sign perhaps, as the reference has it. -/
def sgnSp (s : ByteArray) (lo hi i : Nat) : Nat × Bool × Int :=
  if pk s i = 45 then ((digSp s lo true (i + 1)).1, (digSp s lo true (i + 1)).2.1, digV true (digSp s lo true (i + 1)))
  else ((digSp s hi false i).1, (digSp s hi false i).2.1, digV false (digSp s hi false i))

theorem refS_c (t : ByteArray) (w : World) : Calls Tryd.prog 6 #[.string t] w fun e w' => e = .returned (.agg #[.int .i64 2, .int .i64 0, .string t, .slice none 0 0]) ∧ w.alloc (.cells #[.int .i64 2, .int .i64 0, .string t, .slice none 0 0] 26) = w' := by
  go_enter Tryd.func6, Tryd.ntmps6
  go_wp2
  go_returns
  exact ⟨rfl, rfl⟩
end Go.Proofs.YtocolgmfcjfjpaaDoor
namespace Go.Proofs.YtocolgmfcjfjpaaDoor
open Go.RowKit Go.Lib
set_option linter.unusedVariables false

/-- Are two lists of values alike? -/
def sameL : VL → VL → Bool
  | .nil, .nil => true
  | .cons k n s a r, .cons k' n' s' a' r' => (sameL a a' && decide (k = k') && decide (n = n') && decide (s = s')) && sameL r r'
  | _, _ => false
/-- Are two values alike? -/
def same1 (k n : Int) (s : ByteArray) (a : VL) (k' n' : Int) (s' : ByteArray) (a' : VL) : Bool := sameL a a' && decide (k = k') && decide (n = n') && decide (s = s')
theorem sameL_iff : ∀ a b : VL, sameL a b = true ↔ a = b
  | .nil, .nil => by simp [sameL]
  | .nil, .cons .. => by simp [sameL]
  | .cons .., .nil => by simp [sameL]
  | .cons k n s a r, .cons k' n' s' a' r' => by
    rw [sameL, Bool.and_eq_true, Bool.and_eq_true, Bool.and_eq_true, Bool.and_eq_true, sameL_iff a a', sameL_iff r r', decide_eq_true_eq, decide_eq_true_eq, decide_eq_true_eq]
    constructor
    · rintro ⟨⟨⟨⟨rfl, rfl⟩, rfl⟩, rfl⟩, rfl⟩; rfl
    · intro h; injection h with h1 h2 h3 h4 h5; exact ⟨⟨⟨⟨h4, h1⟩, h2⟩, h3⟩, h5⟩
theorem same1_iff {k n : Int} {s : ByteArray} {a : VL} {k' n' : Int} {s' : ByteArray} {a' : VL} : same1 k n s a k' n' s' a' = true ↔ k = k' ∧ n = n' ∧ s = s' ∧ a = a' := by
  unfold same1
  rw [Bool.and_eq_true, Bool.and_eq_true, Bool.and_eq_true, sameL_iff, decide_eq_true_eq, decide_eq_true_eq, decide_eq_true_eq]
  constructor
  · rintro ⟨⟨⟨rfl, rfl⟩, rfl⟩, rfl⟩; exact ⟨rfl, rfl, rfl, rfl⟩
  · rintro ⟨rfl, rfl, rfl, rfl⟩; exact ⟨⟨⟨rfl, rfl⟩, rfl⟩, rfl⟩
theorem sameL_len : ∀ a b : VL, a.len ≠ b.len → sameL a b = false
  | a, b, h => by
    cases hq : sameL a b with
    | false => rfl
    | true => rw [(sameL_iff a b).1 hq] at h; exact absurd rfl h
theorem sameL_drop {a b : VL} {i : Nat} {k n : Int} {s : ByteArray} {x : VL} {k' n' : Int} {s' : ByteArray} {x' : VL} (ha : a.drop i = .cons k n s x (a.drop (i + 1))) (hb : b.drop i = .cons k' n' s' x' (b.drop (i + 1))) :
    sameL (a.drop i) (b.drop i) = (same1 k n s x k' n' s' x' && sameL (a.drop (i + 1)) (b.drop (i + 1))) := by rw [ha, hb]; rfl
end Go.Proofs.YtocolgmfcjfjpaaDoor
namespace Go.Proofs.YtocolgmfcjfjpaaDoor
open Go.RowKit Go.Lib
set_option linter.unusedVariables false

theorem beq_dec (a b : Int) : (a == b) = decide (a = b) := by
  by_cases h : a = b
  · subst h; simp
  · rw [decide_eq_false h, beq_eq_false_iff_ne]; exact h
theorem sbeq_dec (a b : ByteArray) : (a.toList == b.toList) = decide (a = b) := by
  by_cases h : a = b
  · subst h; simp
  · rw [decide_eq_false h]; exact str_ne h

end Go.Proofs.YtocolgmfcjfjpaaDoor
namespace Go.Proofs.YtocolgmfcjfjpaaDoor
open Go.RowKit Go.Lib
set_option linter.unusedVariables false

theorem rp_at {w : World} {l : VL} {A : Option Addr} {S : Nat → Prop} {i : Nat} (h : RpL w S l A) (hi : i < l.len) : ∃ (b o : Nat) (k n : Int) (s : ByteArray) (sub : VL) (sa : Option Addr) (sc : Nat), A = some ⟨b, o, none⟩ ∧ l.drop i = .cons k n s sub (l.drop (i + 1)) ∧ S b ∧
    w.cell? ⟨b, o + i * 4, none⟩ = some (.int .i64 k) ∧ w.cell? ⟨b, o + i * 4 + 1, none⟩ = some (.int .i64 n) ∧ w.cell? ⟨b, o + i * 4 + 2, none⟩ = some (.string s) ∧ w.cell? ⟨b, o + i * 4 + 3, none⟩ = some (.slice sa sub.len sc) ∧ sub.len ≤ sc ∧ RpL w S sub sa ∧ sub.size < l.size := by
  obtain ⟨k, n, s, sub, hd⟩ := VL.drop_of_lt i l hi
  obtain ⟨b, o, hA⟩ : ∃ b o, A = some ⟨b, o, none⟩ := by
    cases l with
    | nil => simp [VL.len] at hi
    | cons _ _ _ _ _ => obtain ⟨b, o, _, _, h, _⟩ := h; exact ⟨b, o, h⟩
  subst hA
  have hdr := RpL.drop i l b o h
  rw [hd] at hdr
  obtain ⟨b', o', sa', sc', hA, hSb, c0, c1, c2, c3, hcl, hrs, _⟩ := hdr
  injection hA with hA
  injection hA with hA1 hA2
  subst hA1
  subst hA2
  have hszd := VL.size_drop i l
  rw [hd] at hszd
  simp only [VL.size] at hszd
  rw [Nat.mul_comm 4 i] at c0 c1 c2 c3
  exact ⟨b, o, k, n, s, sub, sa', sc', rfl, hd, hSb, c0, c1, c2, c3, hcl, hrs, by omega⟩

end Go.Proofs.YtocolgmfcjfjpaaDoor
namespace Go.Proofs.YtocolgmfcjfjpaaDoor
open Go.RowKit Go.Lib
set_option linter.unusedVariables false

/-- A row of values of the call's own. -/
structure CInv (base : Nat) (w0 wr : World) (V : Value) (acc : VL) (xs : List Value) : Prop where
  own : wr.ownsRow base 26 4 V acc.len xs
  cells : CellsOf wr (fun b => base ≤ b ∧ b < wr.heap.size ∧ V.ownBlock ≠ some b) acc xs
  below : Below base w0 wr
  size : base ≤ wr.heap.size
theorem CInv.nil (w : World) : CInv w.heap.size w w (.slice none 0 0) .nil [] := ⟨World.ownsRow_nil _ _ _ _, rfl, Below.refl _ _, Nat.le_refl _⟩
theorem CInv.move {base : Nat} {w0 wr w' : World} {V : Value} {acc : VL} {xs : List Value} (h : CInv base w0 wr V acc xs) (hb : Below wr.heap.size wr w') : CInv base w0 w' V acc xs :=
  ⟨own_below h.own hb, h.cells.keep (fun b hb' => hb.block b hb'.2.1) (fun b hb' => ⟨hb'.1, Nat.lt_of_lt_of_le hb'.2.1 hb.size, hb'.2.2⟩), h.below.trans (below_le' hb h.size), Nat.le_trans h.size hb.size⟩
theorem CInv.step {base : Nat} {w0 wr w3 w5 : World} {V V' : Value} {acc : VL} {xs : List Value} (h : CInv base w0 wr V acc xs) (hb : Below wr.heap.size wr w3)
    {k n : Int} {t : ByteArray} {sub : VL} {sa : Option Addr} {sc : Nat} (hsc : sub.len ≤ sc) (hrep : RpL w3 (fun b => wr.heap.size ≤ b ∧ b < w3.heap.size) sub sa) {o1 : Obj}
    (hown : w5.ownsRow base 26 4 V' (acc.len + 1) (xs ++ [.int .i64 k, .int .i64 n, .string t, .slice sa sub.len sc])) (hg : (w3.alloc o1).grownBy w5 V.ownBlock)
    (hob : V'.ownBlock = V.ownBlock ∨ V'.ownBlock = some (w3.alloc o1).heap.size) :
    CInv base w0 w5 V' (acc.app (val1 k n t sub)) (xs ++ [.int .i64 k, .int .i64 n, .string t, .slice sa sub.len sc]) := by
  have h3 := h.move hb
  have hVg : ∀ g, V.ownBlock = some g → base ≤ g ∧ g < wr.heap.size := fun g hg => ⟨own_ge h.own g hg, own_lt h.own g hg⟩
  have hsz : (w3.alloc o1).heap.size = w3.heap.size + 1 := by simp
  have hz5 : w3.heap.size + 1 ≤ w5.heap.size := by have := hg.size; omega
  have hz3 := hb.size
  have hz0 := h.size
  have blk : ∀ b, b < w3.heap.size → V.ownBlock ≠ some b → w5.heap[b]? = w3.heap[b]? := fun b hb hne => by
    have h1 := hg.block b (by omega) (fun e => hne e.symm)
    rw [h1, Below.heap_alloc _ _ _ hb]
  have hV'b : ∀ b, b < w3.heap.size → V.ownBlock ≠ some b → V'.ownBlock ≠ some b := fun b hb hne e => by
    rcases hob with e2 | e2
    · exact hne (e2.symm.trans e)
    · rw [e] at e2
      injection e2 with e2
      omega
  refine ⟨by rw [VL.len_app]; exact hown, ?_, ?_, by omega⟩
  · refine CellsOf.app _ _ _ _ ?_ ⟨sa, sc, [], rfl, hsc, ?_, rfl⟩
    · exact h3.cells.keep (fun b hb => blk b hb.2.1 hb.2.2) (fun b hb => ⟨hb.1, by have := hb.2.1; omega, hV'b b hb.2.1 hb.2.2⟩)
    · have hne : ∀ b, wr.heap.size ≤ b → V.ownBlock ≠ some b := fun b hb e => by have := (hVg b e).2; omega
      exact hrep.keep (fun b hb => blk b hb.2 (hne b hb.1)) (fun b hb => ⟨by have := hb.1; omega, by have := hb.2; omega, hV'b b hb.2 (hne b hb.1)⟩)
  · exact grown_below (h3.below.alloc h3.size o1) (by simp; omega) hg (fun k hk => (hVg k hk).1)
/-- What the row reads as. -/
theorem CInv.rep {base : Nat} {w0 wr : World} {V : Value} {acc : VL} {xs : List Value} (h : CInv base w0 wr V acc xs) : ∃ (sa : Option Addr) (sc : Nat), V = .slice sa acc.len sc ∧ acc.len ≤ sc ∧ RpL wr (fun b => base ≤ b ∧ b < wr.heap.size) acc sa :=
  own_rep h.own (h.cells.keep (fun _ _ => rfl) (fun b hb => ⟨hb.1, hb.2.1⟩)) (fun g hg => ⟨own_ge h.own g hg, own_lt h.own g hg⟩)

/-- A copy comes out. -/
def PCopy (w : World) (k n : Int) (s : ByteArray) (sub : VL) (e : Ending) (w' : World) : Prop :=
  ∃ (sa : Option Addr) (sc : Nat), e = .returned (.agg #[.int .i64 k, .int .i64 n, .string s, .slice sa sub.len sc]) ∧ sub.len ≤ sc ∧ RpL w' (fun b => w.heap.size ≤ b ∧ b < w'.heap.size) sub sa ∧ Below w.heap.size w w'

theorem clone_end {w wr : World} {k n : Int} {s : ByteArray} {sub : VL} {bv : Value} {sb : Option Addr} {cb : Nat} (hb : Below w.heap.size w wr) (hz : w.heap.size + 2 ≤ wr.heap.size) (hr : StB wr (w.heap.size + 1) (.int .i64 0) (.int .i64 0) (.string ⟨#[]⟩) (.slice none 0 0))
    (hbv : bv = .slice sb sub.len cb) (hcb : sub.len ≤ cb) (hrb : RpL wr (fun b => w.heap.size + 2 ≤ b ∧ b < wr.heap.size) sub sb) :
    StB (((((wr.setCell ⟨w.heap.size, 3, none⟩ bv).setCell ⟨w.heap.size + 1, 0, none⟩ (.int .i64 k)).setCell ⟨w.heap.size + 1, 1, none⟩ (.int .i64 n)).setCell ⟨w.heap.size + 1, 2, none⟩ (.string s)).setCell ⟨w.heap.size + 1, 3, none⟩ bv) (w.heap.size + 1) (.int .i64 k) (.int .i64 n) (.string s) bv ∧
    PCopy w k n s sub (.returned (.agg #[.int .i64 k, .int .i64 n, .string s, bv])) (((((wr.setCell ⟨w.heap.size, 3, none⟩ bv).setCell ⟨w.heap.size + 1, 0, none⟩ (.int .i64 k)).setCell ⟨w.heap.size + 1, 1, none⟩ (.int .i64 n)).setCell ⟨w.heap.size + 1, 2, none⟩ (.string s)).setCell ⟨w.heap.size + 1, 3, none⟩ bv) := by
  have hr' : StB (wr.setCell ⟨w.heap.size, 3, none⟩ bv) (w.heap.size + 1) (.int .i64 0) (.int .i64 0) (.string ⟨#[]⟩) (.slice none 0 0) := hr.far (by show w.heap.size + 1 ≠ w.heap.size; omega) _
  have hz1 : (wr.setCell ⟨w.heap.size, 3, none⟩ bv).heap.size = wr.heap.size := by simp [World.setCell]
  have hb1 : Below w.heap.size w (wr.setCell ⟨w.heap.size, 3, none⟩ bv) := Below.setCell hb (show w.heap.size ≤ (⟨w.heap.size, 3, none⟩ : Addr).block from Nat.le_refl _) _
  have hrb1 : RpL (wr.setCell ⟨w.heap.size, 3, none⟩ bv) (fun b => w.heap.size + 2 ≤ b ∧ b < wr.heap.size) sub sb := hrb.keep (fun c hc => Below.heap_setCell _ _ _ _ (by show c ≠ w.heap.size; omega)) (fun c hc => hc)
  exact ⟨hr'.set4 _ _ _ _, sb, cb, by rw [hbv], hcb, hrb1.keep (fun c hc => heap_set4 _ _ _ _ _ _ _ (by omega)) (fun c hc => ⟨by omega, by rw [size_set4, hz1]; exact hc.2⟩), below_set4 hb1 (by omega) _ _ _ _⟩

end Go.Proofs.YtocolgmfcjfjpaaDoor
namespace Go.Proofs.YtocolgmfcjfjpaaDoor
open Go.RowKit Go.Lib
set_option linter.unusedVariables false

theorem list_end {w wr : World} {sub : VL} {sb : Option Addr} {cb : Nat} (hb : Below w.heap.size w wr) (hz : w.heap.size + 1 ≤ wr.heap.size) (hr : StB wr w.heap.size (.int .i64 0) (.int .i64 0) (.string ⟨#[]⟩) (.slice none 0 0))
    (hcb : sub.len ≤ cb) (hrb : RpL wr (fun b => w.heap.size + 1 ≤ b ∧ b < wr.heap.size) sub sb) :
    StB ((((wr.setCell ⟨w.heap.size, 0, none⟩ (.int .i64 4)).setCell ⟨w.heap.size, 1, none⟩ (.int .i64 0)).setCell ⟨w.heap.size, 2, none⟩ (.string ⟨#[]⟩)).setCell ⟨w.heap.size, 3, none⟩ (.slice sb sub.len cb)) w.heap.size (.int .i64 4) (.int .i64 0) (.string ⟨#[]⟩) (.slice sb sub.len cb) ∧
    PCopy w 4 0 ⟨#[]⟩ sub (.returned (.agg #[.int .i64 4, .int .i64 0, .string ⟨#[]⟩, .slice sb sub.len cb])) ((((wr.setCell ⟨w.heap.size, 0, none⟩ (.int .i64 4)).setCell ⟨w.heap.size, 1, none⟩ (.int .i64 0)).setCell ⟨w.heap.size, 2, none⟩ (.string ⟨#[]⟩)).setCell ⟨w.heap.size, 3, none⟩ (.slice sb sub.len cb)) :=
  ⟨hr.set4 _ _ _ _, sb, cb, rfl, hcb, hrb.keep (fun c hc => heap_set4 _ _ _ _ _ _ _ (by omega)) (fun c hc => ⟨by omega, by rw [size_set4]; exact hc.2⟩), below_set4 hb (Nat.le_refl _) _ _ _ _⟩

end Go.Proofs.YtocolgmfcjfjpaaDoor
namespace Go.Proofs.YtocolgmfcjfjpaaDoor
open Go.RowKit Go.Lib
set_option linter.unusedVariables false

/-- A copy of a list comes out. -/
def PList (w : World) (l : VL) (e : Ending) (w' : World) : Prop :=
  ∃ (sa : Option Addr) (sc : Nat), e = .returned (.slice sa l.len sc) ∧ l.len ≤ sc ∧ RpL w' (fun b => w.heap.size ≤ b ∧ b < w'.heap.size) l sa ∧ Below w.heap.size w w'
theorem cell_below {w W : World} (hb : Below w.heap.size w W) {p : Addr} {v : Value} (h : w.cell? p = some v) : W.cell? p = some v := by
  have hlt : p.block < w.heap.size := by
    unfold World.cell? at h
    rcases Nat.lt_or_ge p.block w.heap.size with hlt | hge
    · exact hlt
    · rw [Array.getElem?_eq_none hge] at h; cases h
  exact (World.cell?_of_block (w := w) (hb.block _ hlt)).trans h

theorem value_end {w wr : World} {k n : Int} {s : ByteArray} {sub : VL} {sb : Option Addr} {cb : Nat} (hb : Below w.heap.size w wr) (hz : w.heap.size + 2 ≤ wr.heap.size) (hr : StB wr (w.heap.size + 1) (.int .i64 0) (.int .i64 0) (.string ⟨#[]⟩) (.slice none 0 0))
    (hcb : sub.len ≤ cb) (hrb : RpL wr (fun b => w.heap.size + 2 ≤ b ∧ b < wr.heap.size) sub sb) :
    StB ((((wr.setCell ⟨w.heap.size + 1, 0, none⟩ (.int .i64 k)).setCell ⟨w.heap.size + 1, 1, none⟩ (.int .i64 n)).setCell ⟨w.heap.size + 1, 2, none⟩ (.string s)).setCell ⟨w.heap.size + 1, 3, none⟩ (.slice sb sub.len cb)) (w.heap.size + 1) (.int .i64 k) (.int .i64 n) (.string s) (.slice sb sub.len cb) ∧
    PCopy w k n s sub (.returned (.agg #[.int .i64 k, .int .i64 n, .string s, .slice sb sub.len cb])) ((((wr.setCell ⟨w.heap.size + 1, 0, none⟩ (.int .i64 k)).setCell ⟨w.heap.size + 1, 1, none⟩ (.int .i64 n)).setCell ⟨w.heap.size + 1, 2, none⟩ (.string s)).setCell ⟨w.heap.size + 1, 3, none⟩ (.slice sb sub.len cb)) :=
  ⟨hr.set4 _ _ _ _, sb, cb, rfl, hcb, hrb.keep (fun c hc => heap_set4 _ _ _ _ _ _ _ (by omega)) (fun c hc => ⟨by omega, by rw [size_set4]; exact hc.2⟩), below_set4 hb (by omega) _ _ _ _⟩

end Go.Proofs.YtocolgmfcjfjpaaDoor
namespace Go.Proofs.YtocolgmfcjfjpaaDoor
open Go.RowKit Go.Lib
set_option linter.unusedVariables false

/-- Is a value right? -/
def rightB (k n : Int) (s : ByteArray) (sub : VL) : Bool := decide ((walk1 k n s sub 1 4096).1 = 0)
end Go.Proofs.YtocolgmfcjfjpaaDoor
namespace Go.Proofs.YtocolgmfcjfjpaaDoor
open Go.RowKit Go.Lib
set_option linter.unusedVariables false

/-- How deep values are, beside what was met. -/
def deepF : VL → Int → Int
  | .nil, a => a
  | .cons k n s sub rest, a => deepF rest (max a ((if k = 4 then deepF sub 0 else 0) + 1))
def dp (k : Int) (sub : VL) : Int := (if k = 4 then deepF sub 0 else 0) + 1
theorem deepF_cons (k n : Int) (s : ByteArray) (sub rest : VL) (a : Int) : deepF (.cons k n s sub rest) a = deepF rest (max a (dp k sub)) := rfl
theorem deepF_bound : ∀ (l : VL) (a : Int), a ≤ deepF l a ∧ deepF l a ≤ max a (cost l)
  | .nil, a => ⟨Int.le_refl _, by rw [deepF]; omega⟩
  | .cons k n s sub rest, a => by
    have h1 := deepF_bound sub 0
    have h2 := deepF_bound rest (max a (dp k sub))
    have hm := mOf_ge k s
    have hc := cost_ge sub
    have hr := cost_ge rest
    rw [deepF_cons, cost]
    have hd : dp k sub ≤ 1 + cost sub := by unfold dp; split <;> omega
    omega
/-- How great values are, beside what was met. -/
def szF : VL → Int → Int
  | .nil, a => a
  | .cons k n s sub rest, a => szF rest (a + (if k = 2 then 1 + (s.size : Int) else if k = 4 then szF sub 1 else 1))
def sz1 (k : Int) (s : ByteArray) (sub : VL) : Int := if k = 2 then 1 + (s.size : Int) else if k = 4 then szF sub 1 else 1
theorem szF_cons (k n : Int) (s : ByteArray) (sub rest : VL) (a : Int) : szF (.cons k n s sub rest) a = szF rest (a + sz1 k s sub) := rfl
theorem szF_bound : ∀ (l : VL) (a : Int), a ≤ szF l a ∧ szF l a ≤ a + cost l
  | .nil, a => ⟨Int.le_refl _, by rw [szF, cost]; omega⟩
  | .cons k n s sub rest, a => by
    have h1 := szF_bound sub 1
    have h2 := szF_bound rest (a + sz1 k s sub)
    have hm := mOf_ge k s
    have hc := cost_ge sub
    rw [szF_cons, cost]
    have hd : 0 ≤ sz1 k s sub ∧ sz1 k s sub ≤ 1 + mOf k s + cost sub := by
      unfold sz1
      by_cases h2 : k = 2
      · rw [if_pos h2]; have : mOf k s = s.size := by unfold mOf; rw [if_pos h2]
        omega
      · rw [if_neg h2]
        split <;> omega
    omega

end Go.Proofs.YtocolgmfcjfjpaaDoor
namespace Go.Proofs.YtocolgmfcjfjpaaDoor
open Go.RowKit Go.Lib
set_option linter.unusedVariables false

/-- Fits' code. -/
def fitsV (k : Int) (s : ByteArray) (sub : VL) : Int := if 40 < dp k sub then 9 else if 4096 < sz1 k s sub then 14 else 0
/-- Are all values right? -/
def rightsL : VL → Bool
  | .nil => true
  | .cons k n s sub rest => rightB k n s sub && rightsL rest
theorem rights_cost : ∀ (l : VL), rightsL l = true → cost l ≤ 4096 * (l.len : Int)
  | .nil, _ => by rw [cost, VL.len]; omega
  | .cons k n s sub rest, h => by
    rw [rightsL, Bool.and_eq_true] at h
    have h1 := walk1_cost k n s sub 1 4096 (by omega) (of_decide_eq_true h.1)
    have h2 := rights_cost rest h.2
    rw [cost, VL.len]; omega
/-- A number below another one. -/
def PNum (b : Nat) (w : World) (e : Ending) (w' : World) : Prop := ∃ r : Nat, r < b ∧ e = .returned (.int .i64 r) ∧ w = w'
set_option maxHeartbeats 1000000 in
theorem wnumber_c (n : Int) (b : Nat) (w : World) (hn0 : -9223372036854775808 ≤ n) (hn1 : n ≤ 9223372036854775807) (hb0 : 0 < b) (hb1 : b ≤ 1000000) :
    Calls Tryd.prog 9 #[.int .i64 n, .int .i64 b] w (PNum b w) := by
  have ht1 : Int.tmod n b < b := Int.tmod_lt_of_pos n (by omega)
  have ht0 : -(b : Int) < Int.tmod n b := by
    by_cases h : 0 ≤ n
    · have := Int.tmod_nonneg (b : Int) h; omega
    · have h1 := Int.tmod_lt_of_pos (-n) (show (0 : Int) < (b : Int) by omega)
      rw [Int.neg_tmod] at h1; omega
  have hbz : ((b : Int) == 0) = false := (bne_of (by omega)).2
  by_cases hneg : Int.tmod n b < 0
  · have hd : decide (Int.tmod n b < 0) = true := decide_eq_true hneg
    go_enter Tryd.func9, Tryd.ntmps9
    go_wp2_with fail
    go_ret
    exact ⟨(Int.tmod n b + b).toNat, by omega, ret_int (by omega), rfl⟩
  · have hd : decide (Int.tmod n b < 0) = false := decide_eq_false hneg
    go_enter Tryd.func9, Tryd.ntmps9
    go_wp2_with fail
    go_ret
    exact ⟨(Int.tmod n b).toNat, by omega, ret_int (by omega), rfl⟩
theorem tmod_emod (n : Int) (b : Nat) (hb : 0 < b) : (Int.tmod n b < 0 → n % (b : Int) = Int.tmod n b + b) ∧ (¬ Int.tmod n b < 0 → n % (b : Int) = Int.tmod n b) := by
  have h0 : n % (b : Int) = (Int.tmod n b) % (b : Int) := by
    conv => lhs; rw [← Int.tmod_add_mul_tdiv n b]
    rw [Int.add_mul_emod_self_left]
  have ht1 : Int.tmod n b < b := Int.tmod_lt_of_pos n (by omega)
  have ht0 : -(b : Int) < Int.tmod n b := by
    by_cases h : 0 ≤ n
    · have := Int.tmod_nonneg (b : Int) h; omega
    · have h1 := Int.tmod_lt_of_pos (-n) (show (0 : Int) < (b : Int) by omega)
      rw [Int.neg_tmod] at h1; omega
  refine ⟨fun h => ?_, fun h => ?_⟩
  · rw [h0, ← Int.add_emod_right, Int.emod_eq_of_lt (by omega) (by omega)]
  · rw [h0, Int.emod_eq_of_lt (by omega) (by omega)]
set_option maxHeartbeats 1000000 in
theorem wnumber_e (n : Int) (b : Nat) (w : World) (hn0 : -9223372036854775808 ≤ n) (hn1 : n ≤ 9223372036854775807) (hb0 : 0 < b) (hb1 : b ≤ 1000000) :
    Calls Tryd.prog 9 #[.int .i64 n, .int .i64 b] w fun e w' => e = .returned (.int .i64 (((n % (b : Int)).toNat : Nat) : Int)) ∧ w = w' := by
  have hem := tmod_emod n b hb0
  have hem0 := Int.emod_nonneg n (show (b : Int) ≠ 0 by omega)
  have ht1 : Int.tmod n b < b := Int.tmod_lt_of_pos n (by omega)
  have ht0 : -(b : Int) < Int.tmod n b := by
    by_cases h : 0 ≤ n
    · have := Int.tmod_nonneg (b : Int) h; omega
    · have h1 := Int.tmod_lt_of_pos (-n) (show (0 : Int) < (b : Int) by omega)
      rw [Int.neg_tmod] at h1; omega
  have hbz : ((b : Int) == 0) = false := (bne_of (by omega)).2
  obtain ⟨r, hr⟩ : ∃ r, r = ((n % (b : Int)).toNat : Int) := ⟨_, rfl⟩
  rw [← hr]
  by_cases hneg : Int.tmod n b < 0
  · have hd : decide (Int.tmod n b < 0) = true := decide_eq_true hneg
    have HE := Lib.hid (show Int.tmod n b + b = r by have := hem.1 hneg; omega)
    clear hem hem0 hr
    go_enter Tryd.func9, Tryd.ntmps9
    go_wp2_with fail
    go_ret
    exact ⟨ret_int HE.out, rfl⟩
  · have hd : decide (Int.tmod n b < 0) = false := decide_eq_false hneg
    have HE := Lib.hid (show Int.tmod n b = r by have := hem.2 hneg; omega)
    clear hem hem0 hr
    go_enter Tryd.func9, Tryd.ntmps9
    go_wp2_with fail
    go_ret
    exact ⟨ret_int HE.out, rfl⟩
end Go.Proofs.YtocolgmfcjfjpaaDoor
namespace Go.Proofs.YtocolgmfcjfjpaaDoor
open Go.RowKit Go.Lib
set_option linter.unusedVariables false
theorem cont_nil (s : ByteArray) : containsS [] s = false := by
  rw [Bool.eq_false_iff, ne_eq, containsS_iff]; simp
theorem cont_snoc (l : List ByteArray) (q s : ByteArray) : containsS (l ++ [q]) s = (containsS l s || decide (s = q)) := by
  rw [Bool.eq_iff_iff, containsS_iff, Bool.or_eq_true, containsS_iff, decide_eq_true_eq, List.mem_append, List.mem_singleton]

set_option maxRecDepth 100000 in
set_option maxHeartbeats 4000000 in
theorem showNames_false (s : ByteArray) (ea : Nat → Addr) (w : World) (hsh : ShAt w ea) (hbig : s.size ≤ 140737488351232) :
    Calls Tryd.prog 3 #[.string s, .bool false] w fun e w' => e = .returned (.bool true) ∧ Below w.heap.size w w' := by
  have FC := Lib.hid (first8_c ea w hsh)
  have HSH := Lib.hid hsh
  clear hsh
  by_cases hl : 40 < s.size
  · have q1 : (40 : Int) < (s.size : Int) := by omega
    clear hl
    go_enter Tryd.func3, Tryd.ntmps3
    go_wp2_with fail
    refine FC.out.mono ?_
    rintro e w1 ⟨rfl, hb1⟩
    have HB1 := Lib.hid hb1
    clear hb1
    go_wp2_with fail
    go_ret
    exact ⟨rfl, HB1.out⟩
  have q1 : ¬ ((40 : Int) < (s.size : Int)) := by omega
  have h40 : s.size ≤ 40 := by omega
  have PC := Lib.hid (fun W => printed_c s W hbig)
  cases hp : prB s.data.toList with
  | false =>
    rw [hp] at PC
    clear hl hp
    go_enter Tryd.func3, Tryd.ntmps3
    go_wp2_with fail
    refine FC.out.mono ?_
    rintro e w1 ⟨rfl, hb1⟩
    have HB1 := Lib.hid hb1
    clear hb1
    go_wp2_with fail
    refine (PC.out _).mono ?_
    rintro e w2 ⟨rfl, rfl⟩
    go_wp2_with fail
    go_ret
    exact ⟨rfl, HB1.out⟩
  | true =>
  rw [hp] at PC
  clear hl
  have HRT := Lib.hid (two_right 22 (by decide) s h40 hp)
  clear hp
  go_enter Tryd.func3, Tryd.ntmps3
  go_wp2_with fail
  refine FC.out.mono ?_
  rintro e w1 ⟨rfl, hb1⟩
  have HB1 := Lib.hid hb1
  have HSH1 := Lib.hid (HSH.out.below hb1)
  clear hb1
  go_wp2_with fail
  refine (PC.out _).mono ?_
  rintro e w2 ⟨rfl, rfl⟩
  go_wp2_with fail
  refine (refS_c s _).mono ?_
  rintro e w2 ⟨rfl, rfl⟩
  obtain ⟨w4, e4⟩ : ∃ w4, w4 = w1.alloc (.cells #[.int .i64 2, .int .i64 0, .string s, .slice none 0 0] 26) := ⟨_, rfl⟩
  have z4 : w4.heap.size = w1.heap.size + 1 := by rw [e4, World.size_alloc]
  obtain ⟨w5, e5⟩ : ∃ w5, w5 = w4.alloc (.cells #[.int .i64 2, .int .i64 0, .string ⟨#[120]⟩, .int .i64 0, .int .i64 0, .string ⟨#[]⟩, .slice none 0 0, .slice none 0 0, .int .i64 1, .int .i64 0, .string ⟨#[]⟩, .int .i64 2, .int .i64 0, .string s, .slice none 0 0, .slice none 0 0] 29) := ⟨_, rfl⟩
  have z5 : w5.heap.size = w1.heap.size + 1 + 1 := by rw [e5, World.size_alloc, z4]
  obtain ⟨w6, e6⟩ : ∃ w6, w6 = w5.alloc (.cells #[.int .i64 22, .int .i64 0, .string ⟨#[]⟩, .int .i64 0, .int .i64 0, .string ⟨#[]⟩, .slice none 0 0, .slice (some ⟨w1.heap.size + 1, 0, none⟩) 2 2] 29) := ⟨_, rfl⟩
  have h5 : w6.heap[w1.heap.size + 1]? = some (.cells #[.int .i64 2, .int .i64 0, .string ⟨#[120]⟩, .int .i64 0, .int .i64 0, .string ⟨#[]⟩, .slice none 0 0, .slice none 0 0, .int .i64 1, .int .i64 0, .string ⟨#[]⟩, .int .i64 2, .int .i64 0, .string s, .slice none 0 0, .slice none 0 0] 29 (0, 0)) := by
    rw [e6, Below.heap_alloc _ _ _ (by omega), e5]
    have h := heap_alloc_new w4 (.cells #[.int .i64 2, .int .i64 0, .string ⟨#[120]⟩, .int .i64 0, .int .i64 0, .string ⟨#[]⟩, .slice none 0 0, .slice none 0 0, .int .i64 1, .int .i64 0, .string ⟨#[]⟩, .int .i64 2, .int .i64 0, .string s, .slice none 0 0, .slice none 0 0] 29)
    rw [z4] at h; exact h
  have hb6 : Below w1.heap.size w1 w6 := by
    rw [e6, e5, e4]
    exact ((((Below.refl _ _).alloc (Nat.le_refl _) _).alloc (by simp) _).alloc (by simp; omega) _)
  have z6 : w6.heap.size = w1.heap.size + 1 + 1 + 1 := by rw [e6, World.size_alloc, z5]
  have r5 := rp2 (S := fun b => b < w6.heap.size) (sub := .nil) (sub' := .nil) h5 (by omega) (Nat.le_refl _) trivial (Nat.le_refl _) trivial
  have EC := Lib.hid (exprS_c 22 0 ⟨#[]⟩ 0 0 ⟨#[]⟩ .nil none 0 (twoL s) (some ⟨w1.heap.size + 1, 0, none⟩) 2 ea w6 (HSH1.out.below hb6) ⟨by decide, by decide, by decide, trivial, (show 2 ≤ 140737488351232 by decide), two_fit s h40, trivial⟩ ⟨by simp [val1, VL.i64], two_i64 s, trivial⟩ (Nat.le_refl _) (Nat.le_refl 2) trivial r5 HRT.out)
  rw [text_22] at EC
  have HB6 := Lib.hid (HB1.out.trans (below_le' hb6 HB1.out.size))
  have E4 := Lib.hid e4
  have E5 := Lib.hid e5
  have E6 := Lib.hid e6
  clear e4 e5 e6 h5 hb6 r5
  go_wp2_with fail
  rw [← E4.out, ← E5.out, ← E6.out]
  obtain ⟨txt, htx⟩ : ∃ txt, txt = bs ([120] ++ [46] ++ nmT s) := ⟨_, rfl⟩
  rw [← htx] at EC
  have HTX := Lib.hid htx
  clear htx
  refine EC.out.mono ?_
  rintro e w7 ⟨rfl, hb7⟩
  have HB7 := Lib.hid (HB6.out.trans (below_le' hb7 HB6.out.size))
  clear hb7 EC
  go_upto_region 14 with fail
  go_cut [11] (fun c wx => c = .bool (nmHd s) ∧ wx = w7)
  case first =>
    by_cases h1 : 1 ≤ s.size
    case neg =>
      have p1 : ¬ ((1 : Int) ≤ (s.size : Int)) := by omega
      have HF := Lib.hid (show nmHd s = false by unfold nmHd; rw [decide_eq_false h1]; rfl)
      clear h1
      go_wp2_with fail
      go_meet
      exact ⟨by rw [HF.out], rfl⟩
    have p1 : (1 : Int) ≤ (s.size : Int) := by omega
    by_cases h2 : s.size ≤ 32
    case neg =>
      have p2 : ¬ ((s.size : Int) ≤ 32) := by omega
      have HF := Lib.hid (show nmHd s = false by unfold nmHd; rw [decide_eq_false h2]; simp)
      clear h2
      go_wp2_with fail
      go_meet
      exact ⟨by rw [HF.out], rfl⟩
    have p2 : (s.size : Int) ≤ 32 := by omega
    have hpos : 0 < s.size := by omega
    have HH := Lib.hid (show nmHd s = ((decide (97 ≤ s[0].toNat) && decide (s[0].toNat ≤ 122)) || decide (s[0].toNat = 95)) by unfold nmHd; rw [decide_eq_true h1, decide_eq_true h2, head_get s hpos]; simp)
    have hcase : ((97 : Int) ≤ (s[0].toNat : Int) ∧ (s[0].toNat : Int) ≤ 122) ∨ (¬ ((97 : Int) ≤ (s[0].toNat : Int)) ∧ (s[0].toNat : Int) = 95) ∨ (¬ ((97 : Int) ≤ (s[0].toNat : Int)) ∧ (s[0].toNat : Int) ≠ 95) ∨ ((97 : Int) ≤ (s[0].toNat : Int) ∧ ¬ ((s[0].toNat : Int) ≤ 122)) := by omega
    rcases hcase with ⟨g1, g2⟩ | ⟨g1, g2⟩ | ⟨g1, g2⟩ | ⟨g1, g2⟩
    · have HF := Lib.hid (show nmHd s = true by rw [HH.out, decide_eq_true (show 97 ≤ s[0].toNat by omega), decide_eq_true (show s[0].toNat ≤ 122 by omega)]; rfl)
      go_wp2_with fail
      go_meet
      exact ⟨by rw [HF.out], rfl⟩
    · have g3 : ((s[0].toNat : Int) == 95) = true := by rw [g2]; rfl
      have HF := Lib.hid (show nmHd s = true by rw [HH.out, decide_eq_true (show s[0].toNat = 95 by omega)]; simp)
      clear g2
      go_wp2_with fail
      go_meet
      exact ⟨by rw [HF.out], rfl⟩
    · have g3 := beq_no g2
      have HF := Lib.hid (show nmHd s = false by rw [HH.out, decide_eq_false (show ¬ 97 ≤ s[0].toNat by omega), decide_eq_false (show ¬ s[0].toNat = 95 by omega)]; rfl)
      clear g2
      go_wp2_with fail
      go_meet
      exact ⟨by rw [HF.out], rfl⟩
    · have g3 := beq_no (show (s[0].toNat : Int) ≠ 95 by omega)
      have HF := Lib.hid (show nmHd s = false by rw [HH.out, decide_eq_false (show ¬ s[0].toNat ≤ 122 by omega), decide_eq_false (show ¬ s[0].toNat = 95 by omega)]; simp)
      go_wp2_with fail
      go_meet
      exact ⟨by rw [HF.out], rfl⟩
  case rest =>
    obtain ⟨rfl, rfl⟩ := hcut
    have HNB := Lib.hid (nameB_hd s)
    obtain ⟨n0, hn0⟩ : ∃ n0, n0 = nmHd s := ⟨_, rfl⟩
    rw [← hn0] at HNB ⊢
    clear hn0
    go_wp2_with fail
    go_loopg [11, 12] s.size (fun kk c v wr => ∃ (i : Nat) (b : Bool), c = .bool b ∧ v = .int .i64 i ∧ i + kk = s.size ∧ wr = wc ∧ Hid (b = (n0 && (s.data.toList.take i).all nmCh)))
    case atStart => exact ⟨0, n0, rfl, rfl, by omega, rfl, by show n0 = (n0 && _); simp⟩
    case round =>
      obtain ⟨i, b, rfl, rfl, hik, rfl, hbb⟩ := hrel
      by_cases hi : i < s.size
      · obtain ⟨g, rfl⟩ : ∃ g, gk = g + 1 := ⟨gk - 1, by omega⟩
        have hts := Lib.hid (take_snoc s i hi)
        have hne := Lib.hid (nmCh_eq s[i])
        have HBB := Lib.hid (show ∀ x : Bool, nmCh s[i] = x → (n0 && (s.data.toList.take (i + 1)).all nmCh) = (b && x) by
          intro x hx
          have h : b = (n0 && (s.data.toList.take i).all nmCh) := hbb
          rw [hts.out, List.all_append, List.all_cons, hx, h]
          simp [Bool.and_assoc])
        clear hbb
        cases b with
        | false =>
          go_wp2_with fail
          go_roundg g
          case measure => omega
          case rel => exact ⟨i + 1, false, rfl, by go_num, by omega, rfl, by show false = _; rw [HBB.out _ rfl]; rfl⟩
        | true =>
          have hcase : ((97 : Int) ≤ (s[i].toNat : Int) ∧ (s[i].toNat : Int) ≤ 122) ∨ (¬ ((97 : Int) ≤ (s[i].toNat : Int)) ∧ (s[i].toNat : Int) = 95) ∨ (¬ ((97 : Int) ≤ (s[i].toNat : Int)) ∧ (s[i].toNat : Int) ≠ 95 ∧ (48 : Int) ≤ (s[i].toNat : Int) ∧ (s[i].toNat : Int) ≤ 57) ∨ (¬ ((97 : Int) ≤ (s[i].toNat : Int)) ∧ (s[i].toNat : Int) ≠ 95 ∧ ¬ ((48 : Int) ≤ (s[i].toNat : Int))) ∨ (¬ ((97 : Int) ≤ (s[i].toNat : Int)) ∧ (s[i].toNat : Int) ≠ 95 ∧ (48 : Int) ≤ (s[i].toNat : Int) ∧ ¬ ((s[i].toNat : Int) ≤ 57)) ∨ ((97 : Int) ≤ (s[i].toNat : Int) ∧ ¬ ((s[i].toNat : Int) ≤ 122)) := by omega
          rcases hcase with ⟨g1, g2⟩ | ⟨g1, g2⟩ | ⟨g1, g2, g4, g5⟩ | ⟨g1, g2, g4⟩ | ⟨g1, g2, g4, g5⟩ | ⟨g1, g2⟩
          · skip
            have HX := Lib.hid (show nmCh s[i] = true by rw [hne.out]; exact decide_eq_true (by omega))
            go_wp2_with fail
            go_roundg g
            case measure => omega
            case rel => exact ⟨i + 1, true, rfl, by go_num, by omega, rfl, by show true = _; rw [HBB.out _ HX.out]; rfl⟩
          · have g3 : ((s[i].toNat : Int) == 95) = true := by rw [g2]; rfl
            have HX := Lib.hid (show nmCh s[i] = true by rw [hne.out]; exact decide_eq_true (by omega))
            go_wp2_with fail
            go_roundg g
            case measure => omega
            case rel => exact ⟨i + 1, true, rfl, by go_num, by omega, rfl, by show true = _; rw [HBB.out _ HX.out]; rfl⟩
          · have g3 := beq_no g2
            have HX := Lib.hid (show nmCh s[i] = true by rw [hne.out]; exact decide_eq_true (by omega))
            go_wp2_with fail
            go_roundg g
            case measure => omega
            case rel => exact ⟨i + 1, true, rfl, by go_num, by omega, rfl, by show true = _; rw [HBB.out _ HX.out]; rfl⟩
          · have g3 := beq_no g2
            have HX := Lib.hid (show nmCh s[i] = false by rw [hne.out]; exact decide_eq_false (by omega))
            go_wp2_with fail
            go_roundg g
            case measure => omega
            case rel => exact ⟨i + 1, false, rfl, by go_num, by omega, rfl, by show false = _; rw [HBB.out _ HX.out]; rfl⟩
          · have g3 := beq_no g2
            have HX := Lib.hid (show nmCh s[i] = false by rw [hne.out]; exact decide_eq_false (by omega))
            go_wp2_with fail
            go_roundg g
            case measure => omega
            case rel => exact ⟨i + 1, false, rfl, by go_num, by omega, rfl, by show false = _; rw [HBB.out _ HX.out]; rfl⟩
          · have g3 := beq_no (show (s[i].toNat : Int) ≠ 95 by omega)
            have g4 : (48 : Int) ≤ (s[i].toNat : Int) := by omega
            have g5 : ¬ ((s[i].toNat : Int) ≤ 57) := by omega
            have HX := Lib.hid (show nmCh s[i] = false by rw [hne.out]; exact decide_eq_false (by omega))
            go_wp2_with fail
            go_roundg g
            case measure => omega
            case rel => exact ⟨i + 1, false, rfl, by go_num, by omega, rfl, by show false = _; rw [HBB.out _ HX.out]; rfl⟩
      · obtain rfl : i = s.size := by omega
        have hb2 : b = (n0 && s.data.toList.all nmCh) := by
          have h : b = (n0 && (s.data.toList.take s.size).all nmCh) := hbb
          rw [List.take_of_length_le (by simp)] at h
          exact h
        have HNC := Lib.hid (show nameB s = (b && !keysL.contains s) by rw [HNB.out, hb2])
        clear hbb hb2 hik
        obtain ⟨wk, ek⟩ : ∃ wk, wk = wr.alloc (.cells #[.string ⟨#[105, 102]⟩, .string ⟨#[101, 108, 115, 101, 105, 102]⟩, .string ⟨#[101, 108, 115, 101]⟩, .string ⟨#[101, 110, 100, 105, 102]⟩, .string ⟨#[102, 111, 114]⟩, .string ⟨#[105, 110]⟩, .string ⟨#[101, 110, 100, 102, 111, 114]⟩, .string ⟨#[119, 104, 105, 108, 101]⟩, .string ⟨#[101, 110, 100, 119, 104, 105, 108, 101]⟩, .string ⟨#[98, 114, 101, 97, 107]⟩, .string ⟨#[99, 111, 110, 116, 105, 110, 117, 101]⟩, .string ⟨#[114, 101, 116, 117, 114, 110]⟩, .string ⟨#[102, 111, 114, 107]⟩, .string ⟨#[101, 110, 100, 102, 111, 114, 107]⟩, .string ⟨#[116, 114, 121]⟩, .string ⟨#[101, 120, 99, 101, 112, 116]⟩, .string ⟨#[102, 105, 110, 97, 108, 108, 121]⟩, .string ⟨#[101, 110, 100, 116, 114, 121]⟩, .string ⟨#[97, 110, 121]⟩] 9) := ⟨_, rfl⟩
        have hkb := heap_alloc_new wr (.cells #[.string ⟨#[105, 102]⟩, .string ⟨#[101, 108, 115, 101, 105, 102]⟩, .string ⟨#[101, 108, 115, 101]⟩, .string ⟨#[101, 110, 100, 105, 102]⟩, .string ⟨#[102, 111, 114]⟩, .string ⟨#[105, 110]⟩, .string ⟨#[101, 110, 100, 102, 111, 114]⟩, .string ⟨#[119, 104, 105, 108, 101]⟩, .string ⟨#[101, 110, 100, 119, 104, 105, 108, 101]⟩, .string ⟨#[98, 114, 101, 97, 107]⟩, .string ⟨#[99, 111, 110, 116, 105, 110, 117, 101]⟩, .string ⟨#[114, 101, 116, 117, 114, 110]⟩, .string ⟨#[102, 111, 114, 107]⟩, .string ⟨#[101, 110, 100, 102, 111, 114, 107]⟩, .string ⟨#[116, 114, 121]⟩, .string ⟨#[101, 120, 99, 101, 112, 116]⟩, .string ⟨#[102, 105, 110, 97, 108, 108, 121]⟩, .string ⟨#[101, 110, 100, 116, 114, 121]⟩, .string ⟨#[97, 110, 121]⟩] 9)
        have hbk : Below wr.heap.size wr wk := by rw [ek]; exact (Below.refl _ _).alloc (Nat.le_refl _) _
        rw [← ek] at hkb
        have HK := Lib.hid (fun j (hj : j < 19) => show ∃ q : ByteArray, tkeysL.getD j ByteArray.empty = q ∧ wk.cell? ⟨wr.heap.size, j, none⟩ = some (.string q) from ⟨_, rfl, by
          rw [cell_of_row _ _ j _ _ _ hkb]
          have : ∀ j : Fin 19, (#[.string ⟨#[105, 102]⟩, .string ⟨#[101, 108, 115, 101, 105, 102]⟩, .string ⟨#[101, 108, 115, 101]⟩, .string ⟨#[101, 110, 100, 105, 102]⟩, .string ⟨#[102, 111, 114]⟩, .string ⟨#[105, 110]⟩, .string ⟨#[101, 110, 100, 102, 111, 114]⟩, .string ⟨#[119, 104, 105, 108, 101]⟩, .string ⟨#[101, 110, 100, 119, 104, 105, 108, 101]⟩, .string ⟨#[98, 114, 101, 97, 107]⟩, .string ⟨#[99, 111, 110, 116, 105, 110, 117, 101]⟩, .string ⟨#[114, 101, 116, 117, 114, 110]⟩, .string ⟨#[102, 111, 114, 107]⟩, .string ⟨#[101, 110, 100, 102, 111, 114, 107]⟩, .string ⟨#[116, 114, 121]⟩, .string ⟨#[101, 120, 99, 101, 112, 116]⟩, .string ⟨#[102, 105, 110, 97, 108, 108, 121]⟩, .string ⟨#[101, 110, 100, 116, 114, 121]⟩, .string ⟨#[97, 110, 121]⟩] : Array Value)[j.val]? = some (.string (tkeysL.getD j.val ByteArray.empty)) := by
            intro j
            match j with
            | ⟨0, _⟩ => rfl
            | ⟨1, _⟩ => rfl
            | ⟨2, _⟩ => rfl
            | ⟨3, _⟩ => rfl
            | ⟨4, _⟩ => rfl
            | ⟨5, _⟩ => rfl
            | ⟨6, _⟩ => rfl
            | ⟨7, _⟩ => rfl
            | ⟨8, _⟩ => rfl
            | ⟨9, _⟩ => rfl
            | ⟨10, _⟩ => rfl
            | ⟨11, _⟩ => rfl
            | ⟨12, _⟩ => rfl
            | ⟨13, _⟩ => rfl
            | ⟨14, _⟩ => rfl
            | ⟨15, _⟩ => rfl
            | ⟨16, _⟩ => rfl
            | ⟨17, _⟩ => rfl
            | ⟨18, _⟩ => rfl
            | ⟨_ + 19, h⟩ => exact absurd h (by omega)
          exact this ⟨j, hj⟩⟩)
        have HBK := Lib.hid (HB7.out.trans (below_le' hbk HB7.out.size))
        have EK := Lib.hid ek
        clear hkb hbk ek
        go_wp2_with fail
        rw [← EK.out]
        go_loopg [11, 14] 19 (fun kk c v wz => ∃ (i : Nat) (b2 : Bool), c = .bool b2 ∧ v = .int .i64 i ∧ i + kk = 19 ∧ wz = wk ∧ Hid (b2 = (b && !containsS (tkeysL.take i) s)))
        case atStart => exact ⟨0, b, rfl, rfl, by omega, rfl, by show b = (b && !containsS (tkeysL.take 0) s); rw [show tkeysL.take 0 = [] from rfl, cont_nil]; simp⟩
        case round =>
          obtain ⟨i, b2, rfl, rfl, hik, hwz, hbb⟩ := hrel
          subst hwz
          by_cases hi : i < 19
          · obtain ⟨g, rfl⟩ : ∃ g, gk = g + 1 := ⟨gk - 1, by omega⟩
            obtain ⟨q, hq, hcell⟩ := HK.out i hi
            have hts : tkeysL.take (i + 1) = tkeysL.take i ++ [q] := by
              have hil : i < tkeysL.length := hi
              rw [List.take_succ_eq_append_getElem hil, ← hq, List.getD_eq_getElem?_getD, List.getElem?_eq_getElem hil]; rfl
            have HBB := Lib.hid (show (b && !containsS (tkeysL.take (i + 1)) s) = (b2 && decide (s ≠ q)) by
              have h : b2 = (b && !containsS (tkeysL.take i) s) := hbb
              rw [hts, h, Bool.and_assoc, cont_snoc]
              congr 1
              cases containsS (tkeysL.take i) s <;> by_cases he : s = q <;> simp [he])
            clear hbb hq hts
            cases b2 with
            | false =>
              go_wp2_with fail
              go_roundg g
              case measure => omega
              case rel => exact ⟨i + 1, false, rfl, by go_num, by omega, rfl, by show false = _; rw [HBB.out]; rfl⟩
            | true =>
              by_cases hsq : s = q
              · have HX := Lib.hid (show (b && !containsS (tkeysL.take (i + 1)) s) = false by rw [HBB.out, hsq]; simp)
                rw [← hsq] at hcell
                clear hsq HBB
                go_wp2_with fail
                go_roundg g
                case measure => omega
                case rel => exact ⟨i + 1, false, rfl, by go_num, by omega, rfl, by show false = _; rw [HX.out]⟩
              · have HX := Lib.hid (show (b && !containsS (tkeysL.take (i + 1)) s) = true by rw [HBB.out, decide_eq_true hsq]; rfl)
                have t1 : ¬ (s.toList = q.toList) := fun h => hsq (by
                  rw [Lib.toList_data, Lib.toList_data] at h
                  cases s; cases q
                  simp only at h
                  rw [Array.toList_inj.1 h])
                have t2 : (s.toList == q.toList) = false := beq_eq_false_iff_ne.2 t1
                have t3 : (s.toList != q.toList) = true := bne_iff_ne.2 t1
                clear HBB
                go_wp2_with fail
                go_roundg g
                case measure => omega
                case rel => exact ⟨i + 1, true, rfl, by go_num, by omega, rfl, by show true = _; rw [HX.out]⟩
          · obtain rfl : i = 19 := by omega
            have hnb : nameB s = b2 := by
              have h : b2 = (b && !containsS (tkeysL.take 19) s) := hbb
              rw [HNC.out, h, tkeys_contains]
            clear hbb HNC HNB
            cases b2 with
            | true =>
              have HT := Lib.hid (show txt = ⟨#[120]⟩ ++ ⟨#[46]⟩ ++ s ++ ⟨#[]⟩ by rw [HTX.out, show nmT s = s.data.toList by unfold nmT; rw [if_pos hnb]]; apply ByteArray.ext; simp [bs])
              clear hnb HTX
              go_wp2_with fail
              go_ret
              refine ⟨ret_bool ?_, HBK.out⟩
              rw [HT.out]
              first | rfl | simp
            | false =>
              have QC := Lib.hid (fun W => quoted_c s W (by omega))
              obtain ⟨qs, hqs⟩ : ∃ qs : ByteArray, qs = ⟨(quoL s.data.toList).toArray⟩ := ⟨_, rfl⟩
              have HT := Lib.hid (show txt = ⟨#[120]⟩ ++ ⟨#[46]⟩ ++ ⟨#[40]⟩ ++ qs ++ ⟨#[41]⟩ ++ ⟨#[]⟩ by rw [HTX.out, hqs, show nmT s = brk (quoL s.data.toList) by unfold nmT; rw [if_neg (by rw [hnb]; decide)]]; apply ByteArray.ext; simp [bs, brk])
              rw [← hqs] at QC
              have hqz : qs.size ≤ 200 := by
                rw [hqs]
                show (quoL s.data.toList).toArray.size ≤ 200
                rw [List.size_toArray]
                have h1 := escL_len s.data.toList
                have h2 : s.data.toList.length = s.size := by rw [Array.length_toList]; rfl
                unfold quoL
                rw [List.length_cons, List.length_append, List.length_singleton]; omega
              have htz : txt.size ≤ 300 := by
                rw [HT.out]
                simp only [ByteArray.size_append]
                have e1 : (⟨#[120]⟩ : ByteArray).size = 1 := rfl
                have e2 : (⟨#[46]⟩ : ByteArray).size = 1 := rfl
                have e3 : (⟨#[40]⟩ : ByteArray).size = 1 := rfl
                have e4 : (⟨#[41]⟩ : ByteArray).size = 1 := rfl
                have e5 : (⟨#[]⟩ : ByteArray).size ≤ 2 := by decide
                omega
              have NC := Lib.hid (fun W => wnumber_e (txt.size : Int) 9 W (by omega) (by omega) (by decide) (by decide))
              have hn0 : (0 : Int) ≤ ((((txt.size : Int) % ((9 : Nat) : Int)).toNat : Nat) : Int) := by omega
              have t1 : txt.toList = (⟨#[120]⟩ ++ ⟨#[46]⟩ ++ ⟨#[40]⟩ ++ qs ++ ⟨#[41]⟩ ++ ⟨#[]⟩ : ByteArray).toList := by rw [HT.out]
              have t2 : (txt.toList == (⟨#[120]⟩ ++ ⟨#[46]⟩ ++ ⟨#[40]⟩ ++ qs ++ ⟨#[41]⟩ ++ ⟨#[]⟩ : ByteArray).toList) = true := by rw [t1]; exact beq_self_eq_true _
              clear hnb HTX hqs
              go_wp2_with fail
              refine (QC.out _).mono ?_
              rintro e w11 ⟨rfl, rfl⟩
              go_wp2_with fail
              refine (NC.out _).mono ?_
              rintro e w12 ⟨rfl, rfl⟩
              clear t1 t2
              go_wp2_with fail
              go_ret
              exact ⟨ret_bool (by first | rfl | (simp; done) | (simp; omega)), HBK.out⟩

set_option maxRecDepth 100000 in
set_option maxHeartbeats 4000000 in
theorem showNames_true (s : ByteArray) (ea : Nat → Addr) (w : World) (hsh : ShAt w ea) (hbig : s.size ≤ 140737488351232) :
    Calls Tryd.prog 3 #[.string s, .bool true] w fun e w' => e = .returned (.bool true) ∧ Below w.heap.size w w' := by
  have FC := Lib.hid (first8_c ea w hsh)
  have HSH := Lib.hid hsh
  clear hsh
  by_cases hl : 40 < s.size
  · have q1 : (40 : Int) < (s.size : Int) := by omega
    clear hl
    go_enter Tryd.func3, Tryd.ntmps3
    go_wp2_with fail
    refine FC.out.mono ?_
    rintro e w1 ⟨rfl, hb1⟩
    have HB1 := Lib.hid hb1
    clear hb1
    go_wp2_with fail
    go_ret
    exact ⟨rfl, HB1.out⟩
  have q1 : ¬ ((40 : Int) < (s.size : Int)) := by omega
  have h40 : s.size ≤ 40 := by omega
  have PC := Lib.hid (fun W => printed_c s W hbig)
  cases hp : prB s.data.toList with
  | false =>
    rw [hp] at PC
    clear hl hp
    go_enter Tryd.func3, Tryd.ntmps3
    go_wp2_with fail
    refine FC.out.mono ?_
    rintro e w1 ⟨rfl, hb1⟩
    have HB1 := Lib.hid hb1
    clear hb1
    go_wp2_with fail
    refine (PC.out _).mono ?_
    rintro e w2 ⟨rfl, rfl⟩
    go_wp2_with fail
    go_ret
    exact ⟨rfl, HB1.out⟩
  | true =>
  rw [hp] at PC
  clear hl
  have HRT := Lib.hid (two_right 23 (by decide) s h40 hp)
  clear hp
  go_enter Tryd.func3, Tryd.ntmps3
  go_wp2_with fail
  refine FC.out.mono ?_
  rintro e w1 ⟨rfl, hb1⟩
  have HB1 := Lib.hid hb1
  have HSH1 := Lib.hid (HSH.out.below hb1)
  clear hb1
  go_wp2_with fail
  refine (PC.out _).mono ?_
  rintro e w2 ⟨rfl, rfl⟩
  go_wp2_with fail
  refine (refS_c s _).mono ?_
  rintro e w2 ⟨rfl, rfl⟩
  obtain ⟨w4, e4⟩ : ∃ w4, w4 = w1.alloc (.cells #[.int .i64 2, .int .i64 0, .string s, .slice none 0 0] 26) := ⟨_, rfl⟩
  have z4 : w4.heap.size = w1.heap.size + 1 := by rw [e4, World.size_alloc]
  obtain ⟨w5, e5⟩ : ∃ w5, w5 = w4.alloc (.cells #[.int .i64 2, .int .i64 0, .string ⟨#[120]⟩, .int .i64 0, .int .i64 0, .string ⟨#[]⟩, .slice none 0 0, .slice none 0 0, .int .i64 1, .int .i64 0, .string ⟨#[]⟩, .int .i64 2, .int .i64 0, .string s, .slice none 0 0, .slice none 0 0] 29) := ⟨_, rfl⟩
  have z5 : w5.heap.size = w1.heap.size + 1 + 1 := by rw [e5, World.size_alloc, z4]
  obtain ⟨w6, e6⟩ : ∃ w6, w6 = w5.alloc (.cells #[.int .i64 23, .int .i64 0, .string ⟨#[]⟩, .int .i64 0, .int .i64 0, .string ⟨#[]⟩, .slice none 0 0, .slice (some ⟨w1.heap.size + 1, 0, none⟩) 2 2] 29) := ⟨_, rfl⟩
  have h5 : w6.heap[w1.heap.size + 1]? = some (.cells #[.int .i64 2, .int .i64 0, .string ⟨#[120]⟩, .int .i64 0, .int .i64 0, .string ⟨#[]⟩, .slice none 0 0, .slice none 0 0, .int .i64 1, .int .i64 0, .string ⟨#[]⟩, .int .i64 2, .int .i64 0, .string s, .slice none 0 0, .slice none 0 0] 29 (0, 0)) := by
    rw [e6, Below.heap_alloc _ _ _ (by omega), e5]
    have h := heap_alloc_new w4 (.cells #[.int .i64 2, .int .i64 0, .string ⟨#[120]⟩, .int .i64 0, .int .i64 0, .string ⟨#[]⟩, .slice none 0 0, .slice none 0 0, .int .i64 1, .int .i64 0, .string ⟨#[]⟩, .int .i64 2, .int .i64 0, .string s, .slice none 0 0, .slice none 0 0] 29)
    rw [z4] at h; exact h
  have hb6 : Below w1.heap.size w1 w6 := by
    rw [e6, e5, e4]
    exact ((((Below.refl _ _).alloc (Nat.le_refl _) _).alloc (by simp) _).alloc (by simp; omega) _)
  have z6 : w6.heap.size = w1.heap.size + 1 + 1 + 1 := by rw [e6, World.size_alloc, z5]
  have r5 := rp2 (S := fun b => b < w6.heap.size) (sub := .nil) (sub' := .nil) h5 (by omega) (Nat.le_refl _) trivial (Nat.le_refl _) trivial
  have EC := Lib.hid (exprS_c 23 0 ⟨#[]⟩ 0 0 ⟨#[]⟩ .nil none 0 (twoL s) (some ⟨w1.heap.size + 1, 0, none⟩) 2 ea w6 (HSH1.out.below hb6) ⟨by decide, by decide, by decide, trivial, (show 2 ≤ 140737488351232 by decide), two_fit s h40, trivial⟩ ⟨by simp [val1, VL.i64], two_i64 s, trivial⟩ (Nat.le_refl _) (Nat.le_refl 2) trivial r5 HRT.out)
  rw [text_23] at EC
  have HB6 := Lib.hid (HB1.out.trans (below_le' hb6 HB1.out.size))
  have E4 := Lib.hid e4
  have E5 := Lib.hid e5
  have E6 := Lib.hid e6
  clear e4 e5 e6 h5 hb6 r5
  go_wp2_with fail
  rw [← E4.out, ← E5.out, ← E6.out]
  obtain ⟨txt, htx⟩ : ∃ txt, txt = bs ([120] ++ [58] ++ nmT s ++ [40] ++ [] ++ [41]) := ⟨_, rfl⟩
  rw [← htx] at EC
  have HTX := Lib.hid htx
  clear htx
  refine EC.out.mono ?_
  rintro e w7 ⟨rfl, hb7⟩
  have HB7 := Lib.hid (HB6.out.trans (below_le' hb7 HB6.out.size))
  clear hb7 EC
  go_upto_region 14 with fail
  go_cut [11] (fun c wx => c = .bool (nmHd s) ∧ wx = w7)
  case first =>
    by_cases h1 : 1 ≤ s.size
    case neg =>
      have p1 : ¬ ((1 : Int) ≤ (s.size : Int)) := by omega
      have HF := Lib.hid (show nmHd s = false by unfold nmHd; rw [decide_eq_false h1]; rfl)
      clear h1
      go_wp2_with fail
      go_meet
      exact ⟨by rw [HF.out], rfl⟩
    have p1 : (1 : Int) ≤ (s.size : Int) := by omega
    by_cases h2 : s.size ≤ 32
    case neg =>
      have p2 : ¬ ((s.size : Int) ≤ 32) := by omega
      have HF := Lib.hid (show nmHd s = false by unfold nmHd; rw [decide_eq_false h2]; simp)
      clear h2
      go_wp2_with fail
      go_meet
      exact ⟨by rw [HF.out], rfl⟩
    have p2 : (s.size : Int) ≤ 32 := by omega
    have hpos : 0 < s.size := by omega
    have HH := Lib.hid (show nmHd s = ((decide (97 ≤ s[0].toNat) && decide (s[0].toNat ≤ 122)) || decide (s[0].toNat = 95)) by unfold nmHd; rw [decide_eq_true h1, decide_eq_true h2, head_get s hpos]; simp)
    have hcase : ((97 : Int) ≤ (s[0].toNat : Int) ∧ (s[0].toNat : Int) ≤ 122) ∨ (¬ ((97 : Int) ≤ (s[0].toNat : Int)) ∧ (s[0].toNat : Int) = 95) ∨ (¬ ((97 : Int) ≤ (s[0].toNat : Int)) ∧ (s[0].toNat : Int) ≠ 95) ∨ ((97 : Int) ≤ (s[0].toNat : Int) ∧ ¬ ((s[0].toNat : Int) ≤ 122)) := by omega
    rcases hcase with ⟨g1, g2⟩ | ⟨g1, g2⟩ | ⟨g1, g2⟩ | ⟨g1, g2⟩
    · have HF := Lib.hid (show nmHd s = true by rw [HH.out, decide_eq_true (show 97 ≤ s[0].toNat by omega), decide_eq_true (show s[0].toNat ≤ 122 by omega)]; rfl)
      go_wp2_with fail
      go_meet
      exact ⟨by rw [HF.out], rfl⟩
    · have g3 : ((s[0].toNat : Int) == 95) = true := by rw [g2]; rfl
      have HF := Lib.hid (show nmHd s = true by rw [HH.out, decide_eq_true (show s[0].toNat = 95 by omega)]; simp)
      clear g2
      go_wp2_with fail
      go_meet
      exact ⟨by rw [HF.out], rfl⟩
    · have g3 := beq_no g2
      have HF := Lib.hid (show nmHd s = false by rw [HH.out, decide_eq_false (show ¬ 97 ≤ s[0].toNat by omega), decide_eq_false (show ¬ s[0].toNat = 95 by omega)]; rfl)
      clear g2
      go_wp2_with fail
      go_meet
      exact ⟨by rw [HF.out], rfl⟩
    · have g3 := beq_no (show (s[0].toNat : Int) ≠ 95 by omega)
      have HF := Lib.hid (show nmHd s = false by rw [HH.out, decide_eq_false (show ¬ s[0].toNat ≤ 122 by omega), decide_eq_false (show ¬ s[0].toNat = 95 by omega)]; simp)
      go_wp2_with fail
      go_meet
      exact ⟨by rw [HF.out], rfl⟩
  case rest =>
    obtain ⟨rfl, rfl⟩ := hcut
    have HNB := Lib.hid (nameB_hd s)
    obtain ⟨n0, hn0⟩ : ∃ n0, n0 = nmHd s := ⟨_, rfl⟩
    rw [← hn0] at HNB ⊢
    clear hn0
    go_wp2_with fail
    go_loopg [11, 12] s.size (fun kk c v wr => ∃ (i : Nat) (b : Bool), c = .bool b ∧ v = .int .i64 i ∧ i + kk = s.size ∧ wr = wc ∧ Hid (b = (n0 && (s.data.toList.take i).all nmCh)))
    case atStart => exact ⟨0, n0, rfl, rfl, by omega, rfl, by show n0 = (n0 && _); simp⟩
    case round =>
      obtain ⟨i, b, rfl, rfl, hik, rfl, hbb⟩ := hrel
      by_cases hi : i < s.size
      · obtain ⟨g, rfl⟩ : ∃ g, gk = g + 1 := ⟨gk - 1, by omega⟩
        have hts := Lib.hid (take_snoc s i hi)
        have hne := Lib.hid (nmCh_eq s[i])
        have HBB := Lib.hid (show ∀ x : Bool, nmCh s[i] = x → (n0 && (s.data.toList.take (i + 1)).all nmCh) = (b && x) by
          intro x hx
          have h : b = (n0 && (s.data.toList.take i).all nmCh) := hbb
          rw [hts.out, List.all_append, List.all_cons, hx, h]
          simp [Bool.and_assoc])
        clear hbb
        cases b with
        | false =>
          go_wp2_with fail
          go_roundg g
          case measure => omega
          case rel => exact ⟨i + 1, false, rfl, by go_num, by omega, rfl, by show false = _; rw [HBB.out _ rfl]; rfl⟩
        | true =>
          have hcase : ((97 : Int) ≤ (s[i].toNat : Int) ∧ (s[i].toNat : Int) ≤ 122) ∨ (¬ ((97 : Int) ≤ (s[i].toNat : Int)) ∧ (s[i].toNat : Int) = 95) ∨ (¬ ((97 : Int) ≤ (s[i].toNat : Int)) ∧ (s[i].toNat : Int) ≠ 95 ∧ (48 : Int) ≤ (s[i].toNat : Int) ∧ (s[i].toNat : Int) ≤ 57) ∨ (¬ ((97 : Int) ≤ (s[i].toNat : Int)) ∧ (s[i].toNat : Int) ≠ 95 ∧ ¬ ((48 : Int) ≤ (s[i].toNat : Int))) ∨ (¬ ((97 : Int) ≤ (s[i].toNat : Int)) ∧ (s[i].toNat : Int) ≠ 95 ∧ (48 : Int) ≤ (s[i].toNat : Int) ∧ ¬ ((s[i].toNat : Int) ≤ 57)) ∨ ((97 : Int) ≤ (s[i].toNat : Int) ∧ ¬ ((s[i].toNat : Int) ≤ 122)) := by omega
          rcases hcase with ⟨g1, g2⟩ | ⟨g1, g2⟩ | ⟨g1, g2, g4, g5⟩ | ⟨g1, g2, g4⟩ | ⟨g1, g2, g4, g5⟩ | ⟨g1, g2⟩
          · skip
            have HX := Lib.hid (show nmCh s[i] = true by rw [hne.out]; exact decide_eq_true (by omega))
            go_wp2_with fail
            go_roundg g
            case measure => omega
            case rel => exact ⟨i + 1, true, rfl, by go_num, by omega, rfl, by show true = _; rw [HBB.out _ HX.out]; rfl⟩
          · have g3 : ((s[i].toNat : Int) == 95) = true := by rw [g2]; rfl
            have HX := Lib.hid (show nmCh s[i] = true by rw [hne.out]; exact decide_eq_true (by omega))
            go_wp2_with fail
            go_roundg g
            case measure => omega
            case rel => exact ⟨i + 1, true, rfl, by go_num, by omega, rfl, by show true = _; rw [HBB.out _ HX.out]; rfl⟩
          · have g3 := beq_no g2
            have HX := Lib.hid (show nmCh s[i] = true by rw [hne.out]; exact decide_eq_true (by omega))
            go_wp2_with fail
            go_roundg g
            case measure => omega
            case rel => exact ⟨i + 1, true, rfl, by go_num, by omega, rfl, by show true = _; rw [HBB.out _ HX.out]; rfl⟩
          · have g3 := beq_no g2
            have HX := Lib.hid (show nmCh s[i] = false by rw [hne.out]; exact decide_eq_false (by omega))
            go_wp2_with fail
            go_roundg g
            case measure => omega
            case rel => exact ⟨i + 1, false, rfl, by go_num, by omega, rfl, by show false = _; rw [HBB.out _ HX.out]; rfl⟩
          · have g3 := beq_no g2
            have HX := Lib.hid (show nmCh s[i] = false by rw [hne.out]; exact decide_eq_false (by omega))
            go_wp2_with fail
            go_roundg g
            case measure => omega
            case rel => exact ⟨i + 1, false, rfl, by go_num, by omega, rfl, by show false = _; rw [HBB.out _ HX.out]; rfl⟩
          · have g3 := beq_no (show (s[i].toNat : Int) ≠ 95 by omega)
            have g4 : (48 : Int) ≤ (s[i].toNat : Int) := by omega
            have g5 : ¬ ((s[i].toNat : Int) ≤ 57) := by omega
            have HX := Lib.hid (show nmCh s[i] = false by rw [hne.out]; exact decide_eq_false (by omega))
            go_wp2_with fail
            go_roundg g
            case measure => omega
            case rel => exact ⟨i + 1, false, rfl, by go_num, by omega, rfl, by show false = _; rw [HBB.out _ HX.out]; rfl⟩
      · obtain rfl : i = s.size := by omega
        have hb2 : b = (n0 && s.data.toList.all nmCh) := by
          have h : b = (n0 && (s.data.toList.take s.size).all nmCh) := hbb
          rw [List.take_of_length_le (by simp)] at h
          exact h
        have HNC := Lib.hid (show nameB s = (b && !keysL.contains s) by rw [HNB.out, hb2])
        clear hbb hb2 hik
        obtain ⟨wk, ek⟩ : ∃ wk, wk = wr.alloc (.cells #[.string ⟨#[105, 102]⟩, .string ⟨#[101, 108, 115, 101, 105, 102]⟩, .string ⟨#[101, 108, 115, 101]⟩, .string ⟨#[101, 110, 100, 105, 102]⟩, .string ⟨#[102, 111, 114]⟩, .string ⟨#[105, 110]⟩, .string ⟨#[101, 110, 100, 102, 111, 114]⟩, .string ⟨#[119, 104, 105, 108, 101]⟩, .string ⟨#[101, 110, 100, 119, 104, 105, 108, 101]⟩, .string ⟨#[98, 114, 101, 97, 107]⟩, .string ⟨#[99, 111, 110, 116, 105, 110, 117, 101]⟩, .string ⟨#[114, 101, 116, 117, 114, 110]⟩, .string ⟨#[102, 111, 114, 107]⟩, .string ⟨#[101, 110, 100, 102, 111, 114, 107]⟩, .string ⟨#[116, 114, 121]⟩, .string ⟨#[101, 120, 99, 101, 112, 116]⟩, .string ⟨#[102, 105, 110, 97, 108, 108, 121]⟩, .string ⟨#[101, 110, 100, 116, 114, 121]⟩, .string ⟨#[97, 110, 121]⟩] 9) := ⟨_, rfl⟩
        have hkb := heap_alloc_new wr (.cells #[.string ⟨#[105, 102]⟩, .string ⟨#[101, 108, 115, 101, 105, 102]⟩, .string ⟨#[101, 108, 115, 101]⟩, .string ⟨#[101, 110, 100, 105, 102]⟩, .string ⟨#[102, 111, 114]⟩, .string ⟨#[105, 110]⟩, .string ⟨#[101, 110, 100, 102, 111, 114]⟩, .string ⟨#[119, 104, 105, 108, 101]⟩, .string ⟨#[101, 110, 100, 119, 104, 105, 108, 101]⟩, .string ⟨#[98, 114, 101, 97, 107]⟩, .string ⟨#[99, 111, 110, 116, 105, 110, 117, 101]⟩, .string ⟨#[114, 101, 116, 117, 114, 110]⟩, .string ⟨#[102, 111, 114, 107]⟩, .string ⟨#[101, 110, 100, 102, 111, 114, 107]⟩, .string ⟨#[116, 114, 121]⟩, .string ⟨#[101, 120, 99, 101, 112, 116]⟩, .string ⟨#[102, 105, 110, 97, 108, 108, 121]⟩, .string ⟨#[101, 110, 100, 116, 114, 121]⟩, .string ⟨#[97, 110, 121]⟩] 9)
        have hbk : Below wr.heap.size wr wk := by rw [ek]; exact (Below.refl _ _).alloc (Nat.le_refl _) _
        rw [← ek] at hkb
        have HK := Lib.hid (fun j (hj : j < 19) => show ∃ q : ByteArray, tkeysL.getD j ByteArray.empty = q ∧ wk.cell? ⟨wr.heap.size, j, none⟩ = some (.string q) from ⟨_, rfl, by
          rw [cell_of_row _ _ j _ _ _ hkb]
          have : ∀ j : Fin 19, (#[.string ⟨#[105, 102]⟩, .string ⟨#[101, 108, 115, 101, 105, 102]⟩, .string ⟨#[101, 108, 115, 101]⟩, .string ⟨#[101, 110, 100, 105, 102]⟩, .string ⟨#[102, 111, 114]⟩, .string ⟨#[105, 110]⟩, .string ⟨#[101, 110, 100, 102, 111, 114]⟩, .string ⟨#[119, 104, 105, 108, 101]⟩, .string ⟨#[101, 110, 100, 119, 104, 105, 108, 101]⟩, .string ⟨#[98, 114, 101, 97, 107]⟩, .string ⟨#[99, 111, 110, 116, 105, 110, 117, 101]⟩, .string ⟨#[114, 101, 116, 117, 114, 110]⟩, .string ⟨#[102, 111, 114, 107]⟩, .string ⟨#[101, 110, 100, 102, 111, 114, 107]⟩, .string ⟨#[116, 114, 121]⟩, .string ⟨#[101, 120, 99, 101, 112, 116]⟩, .string ⟨#[102, 105, 110, 97, 108, 108, 121]⟩, .string ⟨#[101, 110, 100, 116, 114, 121]⟩, .string ⟨#[97, 110, 121]⟩] : Array Value)[j.val]? = some (.string (tkeysL.getD j.val ByteArray.empty)) := by
            intro j
            match j with
            | ⟨0, _⟩ => rfl
            | ⟨1, _⟩ => rfl
            | ⟨2, _⟩ => rfl
            | ⟨3, _⟩ => rfl
            | ⟨4, _⟩ => rfl
            | ⟨5, _⟩ => rfl
            | ⟨6, _⟩ => rfl
            | ⟨7, _⟩ => rfl
            | ⟨8, _⟩ => rfl
            | ⟨9, _⟩ => rfl
            | ⟨10, _⟩ => rfl
            | ⟨11, _⟩ => rfl
            | ⟨12, _⟩ => rfl
            | ⟨13, _⟩ => rfl
            | ⟨14, _⟩ => rfl
            | ⟨15, _⟩ => rfl
            | ⟨16, _⟩ => rfl
            | ⟨17, _⟩ => rfl
            | ⟨18, _⟩ => rfl
            | ⟨_ + 19, h⟩ => exact absurd h (by omega)
          exact this ⟨j, hj⟩⟩)
        have HBK := Lib.hid (HB7.out.trans (below_le' hbk HB7.out.size))
        have EK := Lib.hid ek
        clear hkb hbk ek
        go_wp2_with fail
        rw [← EK.out]
        go_loopg [11, 14] 19 (fun kk c v wz => ∃ (i : Nat) (b2 : Bool), c = .bool b2 ∧ v = .int .i64 i ∧ i + kk = 19 ∧ wz = wk ∧ Hid (b2 = (b && !containsS (tkeysL.take i) s)))
        case atStart => exact ⟨0, b, rfl, rfl, by omega, rfl, by show b = (b && !containsS (tkeysL.take 0) s); rw [show tkeysL.take 0 = [] from rfl, cont_nil]; simp⟩
        case round =>
          obtain ⟨i, b2, rfl, rfl, hik, hwz, hbb⟩ := hrel
          subst hwz
          by_cases hi : i < 19
          · obtain ⟨g, rfl⟩ : ∃ g, gk = g + 1 := ⟨gk - 1, by omega⟩
            obtain ⟨q, hq, hcell⟩ := HK.out i hi
            have hts : tkeysL.take (i + 1) = tkeysL.take i ++ [q] := by
              have hil : i < tkeysL.length := hi
              rw [List.take_succ_eq_append_getElem hil, ← hq, List.getD_eq_getElem?_getD, List.getElem?_eq_getElem hil]; rfl
            have HBB := Lib.hid (show (b && !containsS (tkeysL.take (i + 1)) s) = (b2 && decide (s ≠ q)) by
              have h : b2 = (b && !containsS (tkeysL.take i) s) := hbb
              rw [hts, h, Bool.and_assoc, cont_snoc]
              congr 1
              cases containsS (tkeysL.take i) s <;> by_cases he : s = q <;> simp [he])
            clear hbb hq hts
            cases b2 with
            | false =>
              go_wp2_with fail
              go_roundg g
              case measure => omega
              case rel => exact ⟨i + 1, false, rfl, by go_num, by omega, rfl, by show false = _; rw [HBB.out]; rfl⟩
            | true =>
              by_cases hsq : s = q
              · have HX := Lib.hid (show (b && !containsS (tkeysL.take (i + 1)) s) = false by rw [HBB.out, hsq]; simp)
                rw [← hsq] at hcell
                clear hsq HBB
                go_wp2_with fail
                go_roundg g
                case measure => omega
                case rel => exact ⟨i + 1, false, rfl, by go_num, by omega, rfl, by show false = _; rw [HX.out]⟩
              · have HX := Lib.hid (show (b && !containsS (tkeysL.take (i + 1)) s) = true by rw [HBB.out, decide_eq_true hsq]; rfl)
                have t1 : ¬ (s.toList = q.toList) := fun h => hsq (by
                  rw [Lib.toList_data, Lib.toList_data] at h
                  cases s; cases q
                  simp only at h
                  rw [Array.toList_inj.1 h])
                have t2 : (s.toList == q.toList) = false := beq_eq_false_iff_ne.2 t1
                have t3 : (s.toList != q.toList) = true := bne_iff_ne.2 t1
                clear HBB
                go_wp2_with fail
                go_roundg g
                case measure => omega
                case rel => exact ⟨i + 1, true, rfl, by go_num, by omega, rfl, by show true = _; rw [HX.out]⟩
          · obtain rfl : i = 19 := by omega
            have hnb : nameB s = b2 := by
              have h : b2 = (b && !containsS (tkeysL.take 19) s) := hbb
              rw [HNC.out, h, tkeys_contains]
            clear hbb HNC HNB
            cases b2 with
            | true =>
              have HT := Lib.hid (show txt = ⟨#[120]⟩ ++ ⟨#[58]⟩ ++ s ++ ⟨#[40, 41]⟩ by rw [HTX.out, show nmT s = s.data.toList by unfold nmT; rw [if_pos hnb]]; apply ByteArray.ext; simp [bs])
              clear hnb HTX
              go_wp2_with fail
              go_ret
              refine ⟨ret_bool ?_, HBK.out⟩
              rw [HT.out]
              first | rfl | simp
            | false =>
              have QC := Lib.hid (fun W => quoted_c s W (by omega))
              obtain ⟨qs, hqs⟩ : ∃ qs : ByteArray, qs = ⟨(quoL s.data.toList).toArray⟩ := ⟨_, rfl⟩
              have HT := Lib.hid (show txt = ⟨#[120]⟩ ++ ⟨#[58]⟩ ++ ⟨#[40]⟩ ++ qs ++ ⟨#[41]⟩ ++ ⟨#[40, 41]⟩ by rw [HTX.out, hqs, show nmT s = brk (quoL s.data.toList) by unfold nmT; rw [if_neg (by rw [hnb]; decide)]]; apply ByteArray.ext; simp [bs, brk])
              rw [← hqs] at QC
              have hqz : qs.size ≤ 200 := by
                rw [hqs]
                show (quoL s.data.toList).toArray.size ≤ 200
                rw [List.size_toArray]
                have h1 := escL_len s.data.toList
                have h2 : s.data.toList.length = s.size := by rw [Array.length_toList]; rfl
                unfold quoL
                rw [List.length_cons, List.length_append, List.length_singleton]; omega
              have htz : txt.size ≤ 300 := by
                rw [HT.out]
                simp only [ByteArray.size_append]
                have e1 : (⟨#[120]⟩ : ByteArray).size = 1 := rfl
                have e2 : (⟨#[58]⟩ : ByteArray).size = 1 := rfl
                have e3 : (⟨#[40]⟩ : ByteArray).size = 1 := rfl
                have e4 : (⟨#[41]⟩ : ByteArray).size = 1 := rfl
                have e5 : (⟨#[40, 41]⟩ : ByteArray).size ≤ 2 := by decide
                omega
              have NC := Lib.hid (fun W => wnumber_e (txt.size : Int) 9 W (by omega) (by omega) (by decide) (by decide))
              have hn0 : (0 : Int) ≤ ((((txt.size : Int) % ((9 : Nat) : Int)).toNat : Nat) : Int) := by omega
              have t1 : txt.toList = (⟨#[120]⟩ ++ ⟨#[58]⟩ ++ ⟨#[40]⟩ ++ qs ++ ⟨#[41]⟩ ++ ⟨#[40, 41]⟩ : ByteArray).toList := by rw [HT.out]
              have t2 : (txt.toList == (⟨#[120]⟩ ++ ⟨#[58]⟩ ++ ⟨#[40]⟩ ++ qs ++ ⟨#[41]⟩ ++ ⟨#[40, 41]⟩ : ByteArray).toList) = true := by rw [t1]; exact beq_self_eq_true _
              clear hnb HTX hqs
              go_wp2_with fail
              refine (QC.out _).mono ?_
              rintro e w11 ⟨rfl, rfl⟩
              go_wp2_with fail
              refine (NC.out _).mono ?_
              rintro e w12 ⟨rfl, rfl⟩
              clear t1 t2
              go_wp2_with fail
              go_ret
              exact ⟨ret_bool (by first | rfl | (simp; done) | (simp; omega)), HBK.out⟩

theorem showNames_c (s : ByteArray) (call : Bool) (ea : Nat → Addr) (w : World) (hbig : s.size ≤ 140737488351232) (he : ErrsAt w ea) (htx : TxAt w) :
    Calls Tryd.prog 3 #[.string s, .bool call] w fun e w' => e = .returned (.bool true) ∧ Below w.heap.size w w' := by
  cases call with
  | false => exact showNames_false s ea w ⟨he, htx⟩ hbig
  | true => exact showNames_true s ea w ⟨he, htx⟩ hbig
end Go.Proofs.YtocolgmfcjfjpaaDoor
namespace Go.Proofs.YtocolgmfcjfjpaaDoor
open Go.RowKit Go.Lib
set_option linter.unusedVariables false

theorem star_err : "*" ++ "errors.errorString" = "*errors.errorString" := by decide
theorem row_err (u : TypeId) (h : Tryd.prog.typeName? 3 u = some "*errors.errorString") : u = 127 :=
  typeName_ptr_named (nm := "errors.errorString") (by rw [star_err]; kernel_rfl) (by kernel_rfl) (by decide) u (by rw [star_err]; exact h)
/-- A sentinel that heads the list: its variable's cell. -/
theorem sent_at {n : String} {text : List UInt8} {r : List (String × DataW Unit)} {W : World} (g : Nat) (h : laidMet Tryd.prog ((n, .iface "*errors.errorString" (.ptr (.agg [.lit (.string text)]))) :: r) W)
    (hg : Tryd.prog.globalNamed n = some g) (ht : (Tryd.prog.globals[g]?).map (·.type) = some 32) : ∃ a : Addr, W.cell? ⟨g, 0, none⟩ = some (.iface 127 (.pointer (some a))) := by
  obtain ⟨a, s, hv, _⟩ := laid_sentinel h hg ht Tryd.underlying32 row_err Tryd.underlying127 Tryd.underlying141 rfl rfl Tryd.underlying9 (by kernel_rfl) (by kernel_rfl)
  exact ⟨a, by simpa using World.var?_cell hg hv 0⟩
end Go.Proofs.YtocolgmfcjfjpaaDoor
namespace Go.Proofs.YtocolgmfcjfjpaaDoor
open Go.ChangeShapes Go.WideShapes Go.ChangeAt Go.RowKit Go.Lib
open Go.ChangeMaps (open_string shut_string)
set_option linter.unusedVariables false

theorem own_knob : ownKnob Tryd.prog.godebug = none := by kernel_rfl

/-- The kit's wrap with a condition, the world's shape kept. -/
theorem handed_and_shaped {H : Type} {enc : TypeId × Value → H} {a : Assume} {C : Checked} {os : Os} {f : FuncId} {fn : Func} {s : ChangeSpec} {conds : List PathCond} {apart fresh handsOn again : Bool} {X : World → Array Value → Prop}
    (hX : ∀ (w w' : World) (args : Array Value), w.heap = w'.heap → X w args → X w' args)
    (own : ownKnob C.prog.godebug = none) (started : os.Started) (noInit : C.prog.inits.idxOf? f = none) (hfn : C.prog.funcs[f]? = some fn)
    (witness : ∃ (w : World) (tape : Tape) (i : Input), w.os = os ∧ (w.forCall tape i).Shaped C.prog ∧ i.vars = [] ∧ Input.okWide C.prog (w.forCall tape i) .any w.heap.size f i ∧
      ((s.pre enc C.prog fn conds apart (w.forCall tape i).memory i.args ∧ X (w.forCall tape i).memory i.args) ∧ sizedMet enc C.prog fn (OpenSpec.ofChange s) apart (w.forCall tape i).memory i.args) ∧ a.holds C.prog (lone (Frame.enter C.prog f i.args .normal) [] (w.forCall tape i)))
    (contract : ∀ (W : World) (base : Nat) (args : Array Value) (ds gs : List (DataW H)) (before : List MemPlace),
      (∀ (j : Nat) t v, fn.params[j]? = some t → args[j]? = some v → Value.okWide C.prog W .any base t v) →
      DataW.Whole enc C.prog fn.params.toList s.vars apart W args.toList ds gs before →
      (DataW.weightsEach C.prog (fn.params.toList ++ s.plain.varTypes C.prog) (ds ++ gs)).all (· ≤ reachBytes) = true → X W args → W.ShapedOpen C.prog →
      Calls C.prog f args W fun e W' => ∃ v, e = .returned v ∧ s.post enc C.prog fn apart fresh handsOn again W args v W') :
    ReturnsInHanded a C os f .any (fun w args => (s.pre enc C.prog fn conds apart w args ∧ X w args) ∧ sizedMet enc C.prog fn (OpenSpec.ofChange s) apart w args) (s.post enc C.prog fn apart fresh handsOn again) := by
  refine returnsInHanded_of_calls own started noInit witness ?_
  intro w tape i _ hsh _ hok hpre hholds
  obtain ⟨_, _, _, fn', hfn', _, _, _, _, hval⟩ := hok
  have e : fn' = fn := Option.some.inj (hfn'.symm.trans hfn)
  subst e
  obtain ⟨⟨⟨ds, gs, before, hw, hc⟩, hx⟩, hz⟩ := hpre
  have hw' := DataW.Whole.of_heap (w' := w.forCall tape i) (by rfl) hw
  refine (contract (w.forCall tape i) w.heap.size i.args ds gs before hval hw' (hz.weights hw) (hX _ _ _ (by rfl) hx) hsh).mono fun e W' ⟨v, he, hp⟩ => ?_
  subst he
  exact ChangeSpec.post_blind hp

theorem i64_range {a : Int} (h : (Lit.int .i64 a).wf = true) : -9223372036854775808 ≤ a ∧ a ≤ 9223372036854775807 := by
  have e1 : IntKind.i64.min = -9223372036854775808 := by decide
  have e2 : IntKind.i64.max = 9223372036854775807 := by decide
  simp [Lit.wf] at h
  omega
/-- The errors' addresses out of five of them. -/
def eaOf (a b c d e : Addr) (k : Nat) : Addr := if k = 111 then a else if k = 112 then b else if k = 104 then c else if k = 105 then d else e
theorem room_of {W : World} (h : W.ShapedOpen Tryd.prog) : 10 < W.heap.size := by
  have hsome : (((begin Tryd.prog (fun _ _ => 0) default).world.heap[10]?).bind Obj.row?).isSome = true := by kernel_rfl
  obtain ⟨⟨z, t⟩, hz⟩ := Option.isSome_iff_exists.1 hsome
  have hn : Tryd.prog.globals.size = 11 := by kernel_rfl
  obtain ⟨cs, hc, _⟩ := h.1 10 z t (by rw [hn]; decide) hz
  rcases Nat.lt_or_ge 10 W.heap.size with hlt | hge
  · exact hlt
  · rw [Array.getElem?_eq_none hge] at hc; cases hc

end Go.Proofs.YtocolgmfcjfjpaaDoor
